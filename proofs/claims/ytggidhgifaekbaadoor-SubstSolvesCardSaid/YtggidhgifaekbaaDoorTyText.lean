/-
  types.text of a right type, first arms. Conditions: the type is right and lies in memory as told; it is small; the table of powers of ten holds what its initialiser lays.
-/
import Derived.Test.YtggidhgifaekbaaDoorTyName
import Derived.Deep.RegionHeld3
import Derived.Lib.SmallJoins
namespace Go.Proofs.YtggidhgifaekbaaDoor
open Go.RowKit

theorem Pow10.stay {w w' : World} (h : Pow10 w) (hq : Quiet0 w w') : Pow10 w' := by
  have hg : Tryd.prog.globalNamed "internal/strconv.uint64pow10" = some 3 := by kernel_rfl
  exact Joins.tab_stays hg h hq.below (Nat.le_refl _)
/-- a type's text out of its parts' kinds and texts -/
def txt (k n : Int) (ts : List (Int × List UInt8)) : List UInt8 :=
  if k == 1 then nameL n else if k == 2 then [105, 110, 116] else if k == 3 then [98, 111, 111, 108]
  else if k == 4 then match ts with
    | a :: b :: _ => brackL (a.1 == 4) a.2 ++ [32, 45, 62, 32] ++ b.2
    | _ => []
  else 40 :: (Lib.join (ts.map fun t => brackL (t.1 == 4) t.2) [32, 42, 32] ++ [41])
namespace Fo
def texts : Fo → List (Int × List UInt8)
  | nil => []
  | cons k n ps r => (k, txt k n ps.texts) :: r.texts
theorem texts_get : ∀ (f : Fo) (i : Nat) (k n : Int) (ps : Fo), f.get i = some (k, n, ps) → f.texts[i]? = some (k, txt k n ps.texts)
  | nil, i, k, n, ps, h => by simp [get] at h
  | cons k n ps r, 0, k', n', ps', h => by
    simp [get] at h
    obtain ⟨rfl, rfl, rfl⟩ := h
    rfl
  | cons k n ps r, i + 1, k', n', ps', h => texts_get r i k' n' ps' h
theorem right_get : ∀ (f : Fo) (i : Nat) (k n : Int) (ps : Fo), f.right = true → f.get i = some (k, n, ps) → plain k n ps.length = true ∧ ps.right = true
  | nil, i, k, n, ps, _, h => by simp [get] at h
  | cons k n ps r, 0, k', n', ps', hr, h => by
    simp [get] at h
    obtain ⟨rfl, rfl, rfl⟩ := h
    simp [right] at hr
    exact hr.1
  | cons k n ps r, i + 1, k', n', ps', hr, h => by
    simp [right] at hr
    exact right_get r i k' n' ps' hr.2 h
end Fo
def tot : List (Int × List UInt8) → Nat
  | [] => 0
  | t :: r => t.2.length + 5 + tot r
theorem brackL_len (b : Bool) (l : List UInt8) : (brackL b l).length ≤ l.length + 2 := by unfold brackL; split <;> simp
theorem join_tot : ∀ ts : List (Int × List UInt8), (Lib.join (ts.map fun t => brackL (t.1 == 4) t.2) [32, 42, 32]).length ≤ tot ts
  | [] => by simp [Lib.join]
  | [a] => by have := brackL_len (a.1 == 4) a.2; simp [Lib.join, tot]; omega
  | a :: b :: r => by
    have h1 := brackL_len (a.1 == 4) a.2
    have h2 := join_tot (b :: r)
    simp only [List.map_cons, Lib.join, List.length_append, tot] at h2 ⊢
    simp at h2 ⊢
    omega
theorem txt_len (k n : Int) (ts : List (Int × List UInt8)) : (txt k n ts).length ≤ 13 + tot ts := by
  unfold txt
  split
  · have := nameL_len n; omega
  split
  · simp; omega
  split
  · simp; omega
  split
  · match ts with
    | a :: b :: r => have := brackL_len (a.1 == 4) a.2; simp [tot]; omega
    | [a] => simp
    | [] => simp
  · have := join_tot ts
    simp; omega
theorem tot_texts : ∀ f : Fo, tot f.texts ≤ 18 * f.size
  | .nil => by simp [Fo.texts, tot]
  | .cons k n ps r => by
    have h1 := tot_texts ps
    have h2 := tot_texts r
    have h3 := txt_len k n ps.texts
    simp only [Fo.texts, tot, Fo.size]
    omega
theorem txt_bound (k n : Int) (ps : Fo) : (txt k n ps.texts).length ≤ 13 + 18 * ps.size := Nat.le_trans (txt_len k n ps.texts) (by have := tot_texts ps; omega)
def TText (k n : Int) (ps : Fo) : Prop := ∀ (w : World) (o : Option Addr) (len cap : Nat), Slc w o len ps → Fo.plain k n ps.length = true → ps.right = true → ps.size ≤ 1000 → Pow10 w →
  Calls Tryd.prog 70 #[tyv k n o len cap] w fun e w' => e = .returned (.string (tb (txt k n ps.texts))) ∧ Quiet0 w w'
set_option maxHeartbeats 1000000 in
theorem text_123 (k n : Int) (ps : Fo) (hk : k = 1 ∨ k = 2 ∨ k = 3) : TText k n ps := by
  intro w o len cap hs hp hr hsz ht
  have HN := Lib.hid (name_any n)
  have HT := Lib.hid (ht.stay (Quiet0.alloc w (.cells #[.int .i64 k, .int .i64 n, .slice o len cap] 24)))
  clear hs hp hr hsz ht
  unfold tyv
  rcases hk with rfl | rfl | rfl
  · have e : txt 1 n ps.texts = nameL n := rfl
    rw [e]
    generalize tb (nameL n) = s at *
    go_enter Tryd.func70, Tryd.ntmps70
    go_wp2_with fail
    refine (HN.out _ HT.out).mono ?_; rintro e w1 ⟨rfl, hq⟩
    go_wp2_with fail
    go_ret
    exact ⟨rfl, (Quiet0.alloc _ _).trans hq⟩
  · have e : tb (txt 2 n ps.texts) = ⟨#[105, 110, 116]⟩ := rfl
    rw [e]
    go_enter Tryd.func70, Tryd.ntmps70
    go_wp2_with fail
    go_ret
    exact ⟨rfl, Quiet0.alloc _ _⟩
  · have e : tb (txt 3 n ps.texts) = ⟨#[98, 111, 111, 108]⟩ := rfl
    rw [e]
    go_enter Tryd.func70, Tryd.ntmps70
    go_wp2_with fail
    go_ret
    exact ⟨rfl, Quiet0.alloc _ _⟩
end Go.Proofs.YtggidhgifaekbaaDoor
