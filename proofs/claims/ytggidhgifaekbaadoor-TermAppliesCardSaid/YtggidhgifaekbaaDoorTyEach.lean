/-
  each: a type, and all that it is made of, handed to a function; with it Size and Has. Conditions: the types lie in memory as told; there are few of them.
-/
import Derived.Test.YtggidhgifaekbaaDoorTyRight2
namespace Go.Proofs.YtggidhgifaekbaaDoor
open Go.RowKit Go.Shelf

def foldF {σ : Type} (step : σ → Int → Int → Fo → σ) : σ → Fo → σ
  | s, .nil => s
  | s, .cons k n ps r => foldF step (foldF step (step s k n ps) ps) r
/-- what a function that is handed to each does: m types have come, the state is s -/
structure EachK (g : Nat) (lb : Array Value) (N : Nat) (w0 : World) (G : Int → Prop) (S : World → Nat → Prop) {σ : Type} (step : σ → Int → Int → Fo → σ) (J : Nat → σ → World → Prop) : Prop where
  quiet : ∀ m s W, J m s W → Quiet0 w0 W
  alloc : ∀ m s W o, J m s W → J m s (W.alloc o)
  low : ∀ m s W, J m s W → ∀ k, S W k → k < W.heap.size
  back : ∀ m s W o k, J m s W → S (W.alloc o) k → S W k
  call : ∀ m s k n ps (W : World) (o : Option Addr) (len cap : Nat), m < N → J m s W → Slc w0 o len ps → G n →
    Calls Tryd.prog g (#[tyv k n o len cap] ++ lb) W fun e W' => e = .returned (.tuple #[]) ∧ J (m + 1) (step s k n ps) W' ∧ Fr (S W) W W'

section
variable {g : Nat} {lb : Array Value} {N : Nat} {w0 : World} {G : Int → Prop} {S : World → Nat → Prop} {σ : Type} {step : σ → Int → Int → Fo → σ} {J : Nat → σ → World → Prop}
def TEach (g : Nat) (lb : Array Value) (N : Nat) (w0 : World) (G : Int → Prop) {σ : Type} (step : σ → Int → Int → Fo → σ) (J : Nat → σ → World → Prop) (k n : Int) (ps : Fo) : Prop :=
  ∀ (m : Nat) (s : σ) (w : World) (o : Option Addr) (len cap : Nat), J m s w → Slc w0 o len ps → m + (ps.size + 1) ≤ N → G n → allF G ps →
    Calls Tryd.prog 81 #[tyv k n o len cap, .func (.func g) #[] lb] w fun e w' => e = .returned (.tuple #[]) ∧ J (m + (ps.size + 1)) (foldF step (step s k n ps) ps) w'
set_option maxHeartbeats 2000000 in
theorem each_any (eg : ∀ args w, (callFunc g args).run Tryd.prog w = .ok (.enter g args) w) (hK : EachK g lb N w0 G S step J) (k n : Int) (ps : Fo) : TEach g lb N w0 G step J k n ps := by
  refine Fo.ind' (T := TEach g lb N w0 G step J) ?_ k n ps
  intro k n ps ih m s w o len cap hJ hs hN hgn hgp
  have HGP := Lib.hid hgp
  have HS := Lib.hid hs
  have IH := Lib.hid ih
  have HL := Lib.hid hs.1
  have hmx := hs.2.1
  unfold maxLen at hmx
  have HK := Lib.hid hK
  have HJ := Lib.hid (hK.alloc m s w (.cells #[.int .i64 k, .int .i64 n, .slice o len cap] 24) hJ)
  have HLOW := Lib.hid (hK.low m s w hJ)
  have HBACK := Lib.hid (fun j => hK.back m s w (.cells #[.int .i64 k, .int .i64 n, .slice o len cap] 24) j hJ)
  have HC := Lib.hid (hK.call m s k n ps _ o len cap (by omega) HJ.out hs hgn)
  clear hs ih hJ hK hgn hgp
  unfold tyv at HC ⊢
  go_enter Tryd.func81, Tryd.ntmps81
  go_wp2_with fail
  refine HC.out.mono ?_; rintro e w1 ⟨rfl, hj1, hf1⟩
  have HJ1 := Lib.hid hj1
  have c2 : w1.cell? ⟨w.heap.size, 2, none⟩ = some (.slice o len cap) := by
    rw [hf1.cellb (by simp) (fun h => absurd (HLOW.out _ (HBACK.out _ h)) (Nat.lt_irrefl _)), cell_of_row _ _ _ _ _ (0, 0) (heap_alloc_new w _)]; rfl
  clear hj1 hf1
  go_wp2_with fail
  clear c2
  go_loopw [12] (fun t wr => ∃ (i m' : Nat) (s' : σ), t = .int .i64 i ∧ i ≤ len ∧ m' + (ps.drop i).size = m + (ps.size + 1) ∧ foldF step s' (ps.drop i) = foldF step (step s k n ps) ps ∧ J m' s' wr) (fun t _ => len - (intOf t).toNat)
  case atStart => exact ⟨0, m + 1, _, rfl, Nat.zero_le _, by rw [Fo.drop_zero]; omega, by rw [Fo.drop_zero], HJ1.out⟩
  case round =>
    obtain ⟨i, m', s', rfl, hi, hm, hfo, hj⟩ := hrel
    have HM := Lib.hid hm
    have HFO := Lib.hid hfo
    have HJJ := Lib.hid hj
    clear hm hfo hj
    by_cases hlt : i < len
    · have hlt' : (i : Int) < len := by omega
      have HQ := Lib.hid (HK.out.quiet _ _ _ HJJ.out)
      obtain ⟨b, off, k1, n1, qs, o1, len1, cap1, rfl, hd, hg, e0, e1, e2, hs1⟩ := (HS.out.stay HQ.out).nth hlt
      obtain ⟨_, _, _, _, _, _, _, _, ho, hd', hg', _, _, f2, hs0⟩ := HS.out.nth hlt
      have HD := Lib.hid hd
      rw [hg] at hg'
      cases hg'
      cases ho
      have f2' := HQ.out.at f2
      rw [e2] at f2'
      cases f2'
      have HC1 := Lib.hid (IH.out i k1 n1 qs hg m' s' _ o1 len1 cap1 (HK.out.alloc m' s' wr (.cells #[.int .i64 k1, .int .i64 n1, .slice o1 len1 cap1] 24) HJJ.out) hs0 (by
        have := HM.out; rw [hd] at this; simp only [Fo.size] at this; omega) (allF_get ps i k1 n1 qs HGP.out hg).1 (allF_get ps i k1 n1 qs HGP.out hg).2)
      have HM2 : Hid (m' + (qs.size + 1) + (ps.drop (i + 1)).size = m + (ps.size + 1)) := by
        have := HM.out; rw [hd] at this; simp only [Fo.size] at this; show _ = _; omega
      have HFO2 : Hid (foldF step (foldF step (step s' k1 n1 qs) qs) (ps.drop (i + 1)) = foldF step (step s k n ps) ps) := by
        show _ = _
        rw [← HFO.out, hd]; rfl
      unfold tyv at HC1
      clear hd hg hs1 hd' f2 hs0
      go_wp2_with fail
      refine HC1.out.mono ?_; rintro e w2 ⟨rfl, hj2⟩
      have HJ2 := Lib.hid hj2
      clear hj2
      go_wp2_with fail
      go_roundw
      case rel => exact ⟨i + 1, m' + (qs.size + 1), _, by go_num, by omega, HM2.out, HFO2.out, HJ2.out⟩
      case measure => simp [intOf]; omega
    · have hlt' : ¬ (i : Int) < len := by omega
      have HE : Hid (J (m + (ps.size + 1)) (foldF step (step s k n ps) ps) wr) := by
        have h1 := HM.out
        have h2 := HFO.out
        rw [Fo.drop_end ps i (by have := HL.out; omega)] at h1 h2
        simp only [Fo.size, Nat.add_zero, foldF] at h1 h2
        show J _ _ _
        rw [← h1, ← h2]; exact HJJ.out
      go_wp2_with fail
      go_end0
      exact ⟨rfl, HE.out⟩
end
end Go.Proofs.YtggidhgifaekbaaDoor
