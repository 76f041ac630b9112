/-
  Texts laid together (TyName, TyText, TyText4, TyText5, SuRefApply): what each one proves, and its conditions, stands at its head.
-/
import Derived.Deep.RegionHeld3
import Derived.Lib.SmallJoins
import Derived.Deep.AppendLies
import Derived.Deep.RegionLaw
import Derived.Test.YtggidhgifaekbaaDoorShelf
import Derived.Test.YtggidhgifaekbaaDoorMB1
import Derived.Test.YtggidhgifaekbaaDoorMB2
import Derived.Test.YtggidhgifaekbaaDoorMB3
import Derived.Test.YtggidhgifaekbaaDoorMB4
import Derived.Test.YtggidhgifaekbaaDoorMB5
/-
  types' texts: bracket and Name. Conditions: a text is of a bounded length; the table of powers of ten holds what its initialiser lays.
-/
namespace Go.Proofs.YtggidhgifaekbaaDoor
open Go.RowKit

def brackL (b : Bool) (l : List UInt8) : List UInt8 := if b then 40 :: (l ++ [41]) else l
def tb (l : List UInt8) : ByteArray := ⟨l.toArray⟩
theorem tb_size (l : List UInt8) : (tb l).size = l.length := by simp [tb, ByteArray.size]
theorem tb_app (l m : List UInt8) : tb l ++ tb m = tb (l ++ m) := by
  apply ByteArray.ext
  simp [tb, ByteArray.data_append]
theorem bracket_any (b : Bool) (l : List UInt8) (hs : l.length ≤ 1000000000) (w : World) :
    Calls Tryd.prog 108 #[.bool b, .string (tb l)] w fun e w' => e = .returned (.string (tb (brackL b l))) ∧ w = w' := by
  have e1 : tb [40] ++ tb l ++ tb [41] = tb (brackL true l) := by rw [tb_app, tb_app]; rfl
  have e2 := tb_size l
  have e3 : (tb [40] ++ tb l).size = l.length + 1 := by rw [tb_app, tb_size]; simp
  have E1 := Lib.hid e1
  clear e1
  cases b
  · show Calls _ _ _ _ fun e w' => e = .returned (.string (tb l)) ∧ w = w'
    generalize tb l = s at *
    go_enter Tryd.func108, Tryd.ntmps108
    go_wp2_with fail
    go_ret
    exact ⟨rfl, rfl⟩
  · rw [← E1.out]
    generalize tb l = s at *
    have e4 : (⟨#[40]⟩ ++ s).size = l.length + 1 := e3
    clear E1 e3
    go_enter Tryd.func108, Tryd.ntmps108
    go_wp2_with fail
    go_ret
    exact ⟨rfl, rfl⟩
theorem encode_letter : ∀ k : Fin 26, Utf8.encode (97 + (k.val : Int)) = ⟨#[UInt8.ofNat (97 + k.val)]⟩ := by decide
/-- a variable's text -/
def nameL (n : Int) : List UInt8 := if 0 ≤ n ∧ n < 1073741824 then 39 :: UInt8.ofNat (97 + n.toNat % 26) :: (if n < 26 then [] else Lib.decDigits (n.toNat / 26)) else []
def Pow10 (w : World) : Prop := Lib.TabIs Tryd.prog w "internal/strconv.uint64pow10" .u64 Lib.pow10Tab
theorem name_no (n : Int) (h : ¬ (0 ≤ n ∧ n < 1073741824)) (w : World) : Calls Tryd.prog 107 #[.int .i64 n] w fun e w' => e = .returned (.string (tb (nameL n))) ∧ Quiet0 w w' := by
  have hk := Lib.hid (known_any n)
  have e1 : (decide ((0 : Int) ≤ n) && decide ((n : Int) < 1073741824)) = false := by simp; omega
  rw [e1] at hk
  have e2 : nameL n = [] := by unfold nameL; rw [if_neg h]
  rw [e2]
  go_enter Tryd.func107, Tryd.ntmps107
  go_wp2_with fail
  refine (hk.out _).mono ?_; rintro e w' ⟨rfl, rfl⟩
  go_wp2_with fail
  go_ret
  exact ⟨rfl, Quiet0.refl _⟩
theorem Fr.grow (S : Nat → Prop) (w : World) (os : Array Obj) : Fr S w (Go.Sort.grow w os) :=
  ⟨rfl, rfl, rfl, by simp [Go.Sort.grow], fun k hk _ => by simp [Go.Sort.grow, Array.getElem?_append_left hk]⟩
theorem name_walk (n r q : Int) (c : ByteArray) (h0 : 0 ≤ n) (h1 : n < 1073741824) (hm : n.tmod 26 = r) (hi0 : 0 ≤ r) (hi1 : r < 26) (hq : n.tdiv 26 = q) (hq0 : 0 ≤ q) (hq1 : q ≤ 100000000) (hc : Utf8.encode (97 + r) = c) (hcs : c.size = 1) (hd : (Lib.itoa q).length ≤ 1000000) (w : World) (ht : Pow10 w) :
    Calls Tryd.prog 107 #[.int .i64 n] w fun e w' => e = .returned (.string (if n < 26 then ⟨#[39]⟩ ++ c else ⟨#[39]⟩ ++ c ++ ⟨(Lib.itoa q).toArray⟩)) ∧ Quiet0 w w' := by
  have hk := Lib.hid (known_any n)
  have e1 : (decide ((0 : Int) ≤ n) && decide ((n : Int) < 1073741824)) = true := by simp; omega
  rw [e1] at hk
  clear e1
  have HT := Lib.hid ht
  clear ht
  by_cases hb : n < 26
  · have hb' : ¬ (26 : Int) ≤ n := by omega
    rw [if_pos hb]
    go_enter Tryd.func107, Tryd.ntmps107
    go_wp2_with fail
    refine (hk.out _).mono ?_; rintro e w' ⟨rfl, rfl⟩
    go_wp2_with fail
    go_ret
    exact ⟨rfl, Quiet0.refl _⟩
  · have hb' : (26 : Int) ≤ n := by omega
    rw [if_neg hb]
    have HI := Lib.hid (Tryd.strconv_Itoa q (by omega) (by omega))
    have hs2 : (⟨#[39]⟩ ++ c : ByteArray).size = 2 := by rw [ByteArray.size_append, hcs]; rfl
    have hs3 : (⟨(Lib.itoa q).toArray⟩ : ByteArray).size ≤ 1000000 := by simpa [ByteArray.size] using hd
    clear hd
    generalize (⟨(Lib.itoa q).toArray⟩ : ByteArray) = d at *
    go_enter Tryd.func107, Tryd.ntmps107
    go_wp2_with fail
    refine (hk.out _).mono ?_; rintro e w' ⟨rfl, rfl⟩
    go_wp2_with fail
    refine (HI.out _ HT.out).mono ?_; rintro e w' ⟨rfl, kk, os, rfl⟩
    go_wp2_with fail
    go_ret
    exact ⟨rfl, (Fr.drewN _ _ _).trans (Fr.grow _ _ _)⟩
theorem decDigits_len : ∀ (b m : Nat), m < 10 ^ b → (Lib.decDigits m).length ≤ b + 1
  | 0, m, h => by unfold Lib.decDigits; rw [dif_pos (by omega)]; simp
  | b + 1, m, h => by
    unfold Lib.decDigits
    by_cases hm : m < 10
    · rw [dif_pos hm]; simp
    · rw [dif_neg hm]
      have := decDigits_len b (m / 10) (by rw [Nat.pow_succ] at h; omega)
      simp; omega
theorem name_any (n : Int) (w : World) (ht : Pow10 w) : Calls Tryd.prog 107 #[.int .i64 n] w fun e w' => e = .returned (.string (tb (nameL n))) ∧ Quiet0 w w' := by
  by_cases h : 0 ≤ n ∧ n < 1073741824
  · obtain ⟨m, rfl⟩ := Int.eq_ofNat_of_zero_le h.1
    have hlen := decDigits_len 10 (m / 26) (by omega)
    have hit : Lib.itoa ((m / 26 : Nat) : Int) = Lib.decDigits (m / 26) := by unfold Lib.itoa; rw [if_neg (by omega)]; rfl
    refine (name_walk m ((m % 26 : Nat) : Int) ((m / 26 : Nat) : Int) ⟨#[UInt8.ofNat (97 + m % 26)]⟩ h.1 h.2 (by rw [Int.tmod_eq_emod_of_nonneg h.1]; rfl) (by omega) (by omega) (by rw [Int.tdiv_eq_ediv_of_nonneg h.1]; rfl) (by omega) (by omega) (encode_letter ⟨m % 26, by omega⟩) rfl (by rw [hit]; omega) w ht).mono ?_
    rintro e w' ⟨rfl, hq⟩
    refine ⟨?_, hq⟩
    suffices hs : (if (m : Int) < 26 then ⟨#[39]⟩ ++ ⟨#[UInt8.ofNat (97 + m % 26)]⟩ else ⟨#[39]⟩ ++ ⟨#[UInt8.ofNat (97 + m % 26)]⟩ ++ ⟨(Lib.itoa ((m / 26 : Nat) : Int)).toArray⟩ : ByteArray) = tb (nameL m) by rw [hs]
    rw [hit]
    unfold nameL
    rw [if_pos h]
    have e1 : (m : Int).toNat = m := rfl
    rw [e1]
    by_cases hb : (m : Int) < 26
    · rw [if_pos hb, if_pos hb]; rfl
    · rw [if_neg hb, if_neg hb]
      show tb [39] ++ tb [UInt8.ofNat (97 + m % 26)] ++ tb (Lib.decDigits (m / 26)) = _
      rw [tb_app, tb_app]; rfl
  · exact name_no n h w
theorem nameL_len (n : Int) : (nameL n).length ≤ 13 := by
  unfold nameL
  split
  · rename_i h
    split
    · simp
    · have := decDigits_len 10 (n.toNat / 26) (by omega)
      simp; omega
  · simp
end Go.Proofs.YtggidhgifaekbaaDoor
/-
  types.text of a right type, first arms. Conditions: the type is right and lies in memory as told; it is small; the table of powers of ten holds what its initialiser lays.
-/
namespace Go.Proofs.YtggidhgifaekbaaDoor
open Go.RowKit

theorem Pow10.stay {w w' : World} (h : Pow10 w) (hq : Quiet0 w w') : Pow10 w' := by
  have hg : Tryd.prog.globalNamed "internal/strconv.uint64pow10" = some 3 := by kernel_rfl
  exact Joins.tab_stays hg h hq.below (Nat.le_refl _)
/-- a type's text out of its parts' kinds and texts -/
def txt (k n : Int) (ts : List (Int × List UInt8)) : List UInt8 :=
  if k == 1 then nameL n else if k == 2 then [105, 110, 116] else if k == 3 then [98, 111, 111, 108]
  else if k == 4 then match ts with
    | a :: b :: _ => brackL (a.1 == 4) a.2 ++ [32, 45, 62, 32] ++ b.2
    | _ => []
  else 40 :: (Lib.join (ts.map fun t => brackL (t.1 == 4) t.2) [32, 42, 32] ++ [41])
namespace Fo
def texts : Fo → List (Int × List UInt8)
  | nil => []
  | cons k n ps r => (k, txt k n ps.texts) :: r.texts
theorem texts_get : ∀ (f : Fo) (i : Nat) (k n : Int) (ps : Fo), f.get i = some (k, n, ps) → f.texts[i]? = some (k, txt k n ps.texts)
  | nil, i, k, n, ps, h => by simp [get] at h
  | cons k n ps r, 0, k', n', ps', h => by
    simp [get] at h
    obtain ⟨rfl, rfl, rfl⟩ := h
    rfl
  | cons k n ps r, i + 1, k', n', ps', h => texts_get r i k' n' ps' h
theorem right_get : ∀ (f : Fo) (i : Nat) (k n : Int) (ps : Fo), f.right = true → f.get i = some (k, n, ps) → plain k n ps.length = true ∧ ps.right = true
  | nil, i, k, n, ps, _, h => by simp [get] at h
  | cons k n ps r, 0, k', n', ps', hr, h => by
    simp [get] at h
    obtain ⟨rfl, rfl, rfl⟩ := h
    simp [right] at hr
    exact hr.1
  | cons k n ps r, i + 1, k', n', ps', hr, h => by
    simp [right] at hr
    exact right_get r i k' n' ps' hr.2 h
end Fo
def tot : List (Int × List UInt8) → Nat
  | [] => 0
  | t :: r => t.2.length + 5 + tot r
theorem brackL_len (b : Bool) (l : List UInt8) : (brackL b l).length ≤ l.length + 2 := by unfold brackL; split <;> simp
theorem join_tot : ∀ ts : List (Int × List UInt8), (Lib.join (ts.map fun t => brackL (t.1 == 4) t.2) [32, 42, 32]).length ≤ tot ts
  | [] => by simp [Lib.join]
  | [a] => by have := brackL_len (a.1 == 4) a.2; simp [Lib.join, tot]; omega
  | a :: b :: r => by
    have h1 := brackL_len (a.1 == 4) a.2
    have h2 := join_tot (b :: r)
    simp only [List.map_cons, Lib.join, tot] at h2 ⊢
    simp at h2 ⊢
    omega
theorem txt_len (k n : Int) (ts : List (Int × List UInt8)) : (txt k n ts).length ≤ 13 + tot ts := by
  unfold txt
  split
  · have := nameL_len n; omega
  split
  · simp; omega
  split
  · simp; omega
  split
  · match ts with
    | a :: b :: r => have := brackL_len (a.1 == 4) a.2; simp [tot]; omega
    | [a] => simp
    | [] => simp
  · have := join_tot ts
    simp; omega
theorem tot_texts : ∀ f : Fo, tot f.texts ≤ 18 * f.size
  | .nil => by simp [Fo.texts, tot]
  | .cons k n ps r => by
    have h1 := tot_texts ps
    have h2 := tot_texts r
    have h3 := txt_len k n ps.texts
    simp only [Fo.texts, tot, Fo.size]
    omega
theorem txt_bound (k n : Int) (ps : Fo) : (txt k n ps.texts).length ≤ 13 + 18 * ps.size := Nat.le_trans (txt_len k n ps.texts) (by have := tot_texts ps; omega)
def TText (k n : Int) (ps : Fo) : Prop := ∀ (w : World) (o : Option Addr) (len cap : Nat), Slc w o len ps → Fo.plain k n ps.length = true → ps.right = true → ps.size ≤ 1000 → Pow10 w →
  Calls Tryd.prog 70 #[tyv k n o len cap] w fun e w' => e = .returned (.string (tb (txt k n ps.texts))) ∧ Quiet0 w w'
set_option maxHeartbeats 1000000 in
theorem text_123 (k n : Int) (ps : Fo) (hk : k = 1 ∨ k = 2 ∨ k = 3) : TText k n ps := by
  intro w o len cap hs hp hr hsz ht
  have HN := Lib.hid (name_any n)
  have HT := Lib.hid (ht.stay (Quiet0.alloc w (.cells #[.int .i64 k, .int .i64 n, .slice o len cap] 24)))
  clear hs hp hr hsz ht
  unfold tyv
  rcases hk with rfl | rfl | rfl
  · have e : txt 1 n ps.texts = nameL n := rfl
    rw [e]
    generalize tb (nameL n) = s at *
    go_enter Tryd.func70, Tryd.ntmps70
    go_wp2_with fail
    refine (HN.out _ HT.out).mono ?_; rintro e w1 ⟨rfl, hq⟩
    go_wp2_with fail
    go_ret
    exact ⟨rfl, (Quiet0.alloc _ _).trans hq⟩
  · have e : tb (txt 2 n ps.texts) = ⟨#[105, 110, 116]⟩ := rfl
    rw [e]
    go_enter Tryd.func70, Tryd.ntmps70
    go_wp2_with fail
    go_ret
    exact ⟨rfl, Quiet0.alloc _ _⟩
  · have e : tb (txt 3 n ps.texts) = ⟨#[98, 111, 111, 108]⟩ := rfl
    rw [e]
    go_enter Tryd.func70, Tryd.ntmps70
    go_wp2_with fail
    go_ret
    exact ⟨rfl, Quiet0.alloc _ _⟩
end Go.Proofs.YtggidhgifaekbaaDoor
/-
  types.text of an arrow. Conditions: as TyText's; the parts by induction.
-/
namespace Go.Proofs.YtggidhgifaekbaaDoor
open Go.RowKit

set_option maxHeartbeats 4000000 in
set_option maxRecDepth 100000 in
theorem text_4 (n : Int) (ps : Fo) (ih : ∀ i k' n' qs, ps.get i = some (k', n', qs) → TText k' n' qs) : TText 4 n ps := by
  intro w o len cap hs hp hr hsz ht
  have hl : len = 2 := by
    have := hs.1
    simp [Fo.plain] at hp
    omega
  subst hl
  obtain ⟨b, off, k0, n0, q0, o0, l0, c0, rfl, hd0, hg0, a0, a1, a2, hs0⟩ := hs.nth (i := 0) (by omega)
  obtain ⟨b', off', k1, n1, q1, o1, l1, c1, he, hd1, hg1, b0, b1, b2, hs1⟩ := hs.nth (i := 1) (by omega)
  cases he
  have hz0 := Fo.size_get _ _ _ _ _ hg0
  have hz1 := Fo.size_get _ _ _ _ _ hg1
  obtain ⟨hp0, hr0⟩ := Fo.right_get _ _ _ _ _ hr hg0
  obtain ⟨hp1, hr1⟩ := Fo.right_get _ _ _ _ _ hr hg1
  rw [Nat.zero_mul, Nat.add_zero] at a0 a1 a2
  rw [Nat.one_mul] at b0 b1 b2
  have hbl := World.block_lt_of_cell? w _ a0
  obtain ⟨s0, hs0'⟩ : ∃ s, s = tb (txt k0 n0 q0.texts) := ⟨_, rfl⟩
  obtain ⟨s1, hs1'⟩ : ∃ s, s = tb (txt k1 n1 q1.texts) := ⟨_, rfl⟩
  obtain ⟨sb, hsb'⟩ : ∃ s, s = tb (brackL (k0 == 4) (txt k0 n0 q0.texts)) := ⟨_, rfl⟩
  have hs1z : s1.size ≤ 20000 := by rw [hs1', tb_size]; have := txt_bound k1 n1 q1; omega
  have hsbz : sb.size ≤ 20000 := by rw [hsb', tb_size]; have := txt_bound k0 n0 q0; have := brackL_len (k0 == 4) (txt k0 n0 q0.texts); omega
  have HC0 : Hid (∀ W, Quiet0 w W → Calls Tryd.prog 70 #[.agg #[.int .i64 k0, .int .i64 n0, .slice o0 l0 c0]] W fun e w' => e = .returned (.string s0) ∧ Quiet0 W w') := by
    intro W hq; rw [hs0']; exact ih 0 k0 n0 q0 hg0 W o0 l0 c0 (hs0.stay hq) hp0 hr0 (by omega) (ht.stay hq)
  have HC1 : Hid (∀ W, Quiet0 w W → Calls Tryd.prog 70 #[.agg #[.int .i64 k1, .int .i64 n1, .slice o1 l1 c1]] W fun e w' => e = .returned (.string s1) ∧ Quiet0 W w') := by
    intro W hq; rw [hs1']; exact ih 1 k1 n1 q1 hg1 W o1 l1 c1 (hs1.stay hq) hp1 hr1 (by omega) (ht.stay hq)
  have HBR : Hid (∀ W, Calls Tryd.prog 108 #[.bool (k0 == 4), .string s0] W fun e w' => e = .returned (.string sb) ∧ W = w') := by
    intro W; rw [hs0', hsb']; exact bracket_any (k0 == 4) (txt k0 n0 q0.texts) (by have := txt_bound k0 n0 q0; omega) W
  have HFIN : Hid (sb ++ ⟨#[32, 45, 62, 32]⟩ ++ s1 = tb (txt 4 n ps.texts)) := by
    show _ = _
    have e0 := Fo.texts_get _ _ _ _ _ hg0
    have e1 := Fo.texts_get _ _ _ _ _ hg1
    have e : txt 4 n ps.texts = brackL (k0 == 4) (txt k0 n0 q0.texts) ++ [32, 45, 62, 32] ++ txt k1 n1 q1.texts := by
      match hts : ps.texts, e0, e1 with
      | a :: b :: r, e0, e1 =>
        simp at e0 e1
        subst e0 e1
        rfl
    rw [e, hsb', hs1', ← tb_app, ← tb_app]; rfl
  rw [← HFIN.out]
  have u1 : (9223372036854775807 < sb.size + 4) = False := by simp; omega
  have u2 : (9223372036854775807 < sb.size + 4 + s1.size) = False := by simp; omega
  have u3 : (9223372036854775807 < sb.size + (⟨#[32, 45, 62, 32]⟩ : ByteArray).size) = False := by have : (⟨#[32, 45, 62, 32]⟩ : ByteArray).size = 4 := rfl; simp; omega
  have u4 : (sb ++ ⟨#[32, 45, 62, 32]⟩ : ByteArray).size = sb.size + 4 := by rw [ByteArray.size_append]; rfl
  clear hs hp hr hsz ht hg0 hg1 hd0 hd1 hs0 hs1 hz0 hz1 hp0 hp1 hr0 hr1 hs0' hs1' hsb' ih HFIN
  unfold tyv
  go_enter Tryd.func70, Tryd.ntmps70
  go_wp2_with fail
  obtain ⟨W0, hW0⟩ : ∃ W0, W0 = w.alloc (.cells #[.int .i64 4, .int .i64 n, .slice (some ⟨b, off, none⟩) 2 cap] 24) := ⟨_, rfl⟩
  change Code.wp _ _ _ _ (w.alloc (.cells #[.int .i64 4, .int .i64 n, .slice (some ⟨b, off, none⟩) 2 cap] 24))
  have HQ0 : Hid (Quiet0 w W0) := by rw [hW0]; exact Quiet0.alloc _ _
  have g2 : W0.cell? ⟨w.heap.size, 2, none⟩ = some (.slice (some ⟨b, off, none⟩) 2 cap) := by
    rw [hW0]; exact (box_cells w 4 n (some ⟨b, off, none⟩) 2 cap _ _ (Quiet0.refl _)).2.2
  rw [← hW0]
  replace a0 := HQ0.out.at a0
  replace a1 := HQ0.out.at a1
  replace a2 := HQ0.out.at a2
  replace b0 := HQ0.out.at b0
  replace b1 := HQ0.out.at b1
  replace b2 := HQ0.out.at b2
  clear hW0
  generalize hB : w.heap.size = B at *
  clear hB
  go_region_held3 (fun w' => w'.cell? ⟨B, 2, none⟩ = some (.slice (some ⟨b, off, none⟩) 2 cap) ∧ w'.cell? ⟨b, off, none⟩ = some (.int .i64 k0) ∧ w'.cell? ⟨b, off + 1, none⟩ = some (.int .i64 n0) ∧ w'.cell? ⟨b, off + 2, none⟩ = some (.slice o0 l0 c0) ∧ w'.cell? ⟨b, off + 3, none⟩ = some (.int .i64 k1) ∧ w'.cell? ⟨b, off + 3 + 1, none⟩ = some (.int .i64 n1) ∧ w'.cell? ⟨b, off + 3 + 2, none⟩ = some (.slice o1 l1 c1))
    (first
      | (go_keep; done)
      | (exact ⟨hq5.at g2, hq5.at a0, hq5.at a1, hq5.at a2, hq5.at b0, hq5.at b1, hq5.at b2⟩)
      | (exact ⟨hq3.at g2, hq3.at a0, hq3.at a1, hq3.at a2, hq3.at b0, hq3.at b1, hq3.at b2⟩)
      | (exact ⟨g2, a0, a1, a2, b0, b1, b2⟩))
    (first
      | (go_at_call 70; with_reducible refine (HC0.out _ (HQ0.out.trans (Quiet0.drew _))).mono ?_; rintro e w3 ⟨rfl, hq3⟩; replace hq3 := (Quiet0.drew W0).trans hq3)
      | (go_at_call 108; with_reducible refine (HBR.out _).mono ?_; rintro e w4 ⟨rfl, rfl⟩)
      | (go_at_call 70; with_reducible refine (HC1.out _ (HQ0.out.trans hq3)).mono ?_; rintro e w5 ⟨rfl, hq5⟩; replace hq5 := hq3.trans hq5))
  all_goals
    go_wp2_with fail
    go_ret
    exact ⟨rfl, HQ0.out.trans hq5⟩
end Go.Proofs.YtggidhgifaekbaaDoor
/-
  types.text of a tuple. Conditions: as TyText's; the parts by induction.
-/
namespace Go.Proofs.YtggidhgifaekbaaDoor
open Go.RowKit

theorem elemStr : Elem Tryd.prog 110 9 (.string ByteArray.empty) 1 16 :=
  ⟨Tryd.underlying110, by kernel_rfl, by decide, by decide⟩
theorem ownsRow_cap {w : World} {base : Nat} {e : TypeId} {size g n c : Nat} {xs : List Value} (h : w.ownsRow base e size (.slice (some ⟨g, 0, none⟩) n c) n xs) : n ≤ c := by
  rcases h.2 with ⟨h1, _⟩ | ⟨g', cap, cur, he, _, _, hc, _⟩
  · cases h1
  · injection he with h1 h2 h3; omega
/-- append of one element, in a region that draws its order -/
theorem step_append_one {P : Program} (W : World) {ops : Array Oper} {o : Oper} {a : Act} {K : Act → World → Prop} {Q : Exit → Act → World → Prop} {E : Prop}
    (hg : o.guard = none) (s x : Operand) (t : TypeId) (hop : o.op = Op.call { callee := Callee.builtin Builtin.append, args := #[s, x], argTypes := #[t, t] })
    (e : TypeId) (z : Value) (size bytes : Nat) (he : Elem P t e z size bytes)
    (v : Value) (n : Nat) (xs : List Value) (hs : a.eval s = v) (hown : W.ownsRow 0 e size v n xs)
    (news : Array Value) (hx : a.eval x = .slice (some ⟨W.heap.size, 0, none⟩) 1 1) (hn : news.size = size) (h1c : ∀ u ∈ news.toList, u.oneCell' = true)
    (b1 : n + 1 ≤ maxLen) (b2 : (n + 1) * bytes ≤ 140737488355328)
    (hK : ∀ g c w', w'.ownsRow 0 e size (.slice (some ⟨g, 0, none⟩) (n + 1) c) (n + 1) (xs ++ news.toList) → Fr (fun k => v.ownBlock = some k) W w' → (v.ownBlock = some g ∨ W.heap.size ≤ g) → K (a.put o.dst (.slice (some ⟨g, 0, none⟩) (n + 1) c)) w') :
    if Region.wanted o (yielded ops a.tmps) = true then Oper.wp P o a (W.alloc (.cells news e)) K Q else E := by
  obtain ⟨i0, hi, hz0, hz1, hz2⟩ := info_parts he.info
  refine step_append_lies (w := W.alloc (.cells news e)) hg s x t hop 0 e i0 z size bytes he.under hi hz0 hz1 hz2 he.cells he.pos v n xs hs (hown.alloc _) ⟨W.heap.size, 0, none⟩ 1 1 news.toList hx (by simpa using hn) ?_ h1c (by omega) b1 b2 (Nat.zero_le _) _ rfl ?_
  · intro j u hu
    rw [Addr.add_lit, cell_of_row (W.alloc (.cells news e)) W.heap.size (0 + j) news e (0, 0) (heap_alloc_new W _)]
    simpa using hu
  · intro g cap w' ho hgr hg' _
    refine hK g cap w' ho ((Fr.alloc _ W _).trans (Fr.grown hgr (fun k hk => hk))) ?_
    rcases hg' with h | h
    · exact .inl h
    · exact .inr (by simp at h; omega)
def bl (t : Int × List UInt8) : ByteArray := tb (brackL (t.1 == 4) t.2)
theorem Fo.texts_length : ∀ f : Fo, f.texts.length = f.length
  | .nil => rfl
  | .cons k n ps r => by simp [Fo.texts, Fo.length, Fo.texts_length r]
set_option maxHeartbeats 4000000 in
set_option maxRecDepth 100000 in
theorem text_5 (n : Int) (ps : Fo) (ih : ∀ i k' n' qs, ps.get i = some (k', n', qs) → TText k' n' qs) : TText 5 n ps := by
  intro w o len cap hs hp hr hsz ht
  have hl : 2 ≤ len ∧ len ≤ 8 := by
    have := hs.1
    simp [Fo.plain] at hp
    omega
  obtain ⟨hl2, hl8⟩ := hl
  have HS := Lib.hid hs
  have HL := Lib.hid hs.1
  have HT := Lib.hid ht
  have HR := Lib.hid hr
  have IH := Lib.hid ih
  obtain ⟨sj, hsj⟩ : ∃ s, s = tb (Lib.join (ps.texts.map fun t => brackL (t.1 == 4) t.2) [32, 42, 32]) := ⟨_, rfl⟩
  have hjt := join_tot ps.texts
  have htt := tot_texts ps
  have hjz : sj.size ≤ 20000 := by rw [hsj, tb_size]; omega
  have HJZ : Hid ((Lib.join ((ps.texts.map bl).map (·.data.toList)) (⟨#[32, 42, 32]⟩ : ByteArray).data.toList).length ≤ 140737488355328 ∧ (⟨(Lib.join ((ps.texts.map bl).map (·.data.toList)) (⟨#[32, 42, 32]⟩ : ByteArray).data.toList).toArray⟩ : ByteArray) = sj) := by
    have e : (ps.texts.map bl).map (·.data.toList) = ps.texts.map fun t => brackL (t.1 == 4) t.2 := by
      rw [List.map_map]; rfl
    rw [e]
    refine ⟨?_, by rw [hsj]; rfl⟩
    show (Lib.join (ps.texts.map fun t => brackL (t.1 == 4) t.2) [32, 42, 32]).length ≤ _
    omega
  have HFIN : Hid (⟨#[40]⟩ ++ sj ++ ⟨#[41]⟩ = tb (txt 5 n ps.texts)) := by
    show _ = _
    have e : txt 5 n ps.texts = [40] ++ Lib.join (ps.texts.map fun t => brackL (t.1 == 4) t.2) [32, 42, 32] ++ [41] := rfl
    rw [e, hsj, ← tb_app, ← tb_app]; rfl
  have u1 : (⟨#[40]⟩ ++ sj : ByteArray).size = sj.size + 1 := by rw [ByteArray.size_append, Nat.add_comm]; rfl
  rw [← HFIN.out]
  clear hs hp hr ht ih hsj hjt htt HFIN
  unfold tyv
  go_enter Tryd.func70, Tryd.ntmps70
  go_wp2_with fail
  obtain ⟨W0, hW0⟩ : ∃ W0, W0 = w.alloc (.cells #[.int .i64 5, .int .i64 n, .slice o len cap] 24) := ⟨_, rfl⟩
  change Code.wp _ _ _ _ (w.alloc (.cells #[.int .i64 5, .int .i64 n, .slice o len cap] 24))
  have HQ0 : Hid (Quiet0 w W0) := by rw [hW0]; exact Quiet0.alloc _ _
  rw [← hW0]
  clear hW0
  generalize hB : w.heap.size = B at *
  clear hB
  go_loopw [3, 41] (fun v t wr => ∃ (i : Nat) (vo : Option Addr) (vc : Nat), t = .int .i64 i ∧ i ≤ len ∧ v = .slice vo i vc ∧ wr.ownsRow 0 9 1 (.slice vo i vc) i ((ps.texts.take i).map fun t => .string (bl t)) ∧ (∀ g, (Value.slice vo i vc).ownBlock = some g → W0.heap.size ≤ g) ∧ Quiet0 W0 wr) (fun _ t _ => len - (intOf t).toNat)
  case atStart => exact ⟨0, none, 0, rfl, Nat.zero_le _, rfl, World.ownsRow_nil _ _ _ _, (fun g hg => by cases hg), Quiet0.refl _⟩
  case round =>
    obtain ⟨i, vo, vc, rfl, hi, rfl, hrow, hge, hq⟩ := hrel
    have HRW := Lib.hid hrow
    have HG := Lib.hid hge
    have HQ := Lib.hid hq
    clear hrow hge hq
    by_cases hlt : i < len
    · have hlt' : (i : Int) < len := by omega
      obtain ⟨b, off, k1, n1, qs, o1, len1, cap1, rfl, hd, hg, e0, e1, e2, hs1⟩ := (HS.out.stay (HQ0.out.trans HQ.out)).nth hlt
      have hsq := Fo.size_get ps i k1 n1 qs hg
      obtain ⟨hp1, hr1⟩ := Fo.right_get _ _ _ _ _ HR.out hg
      have HTX := Lib.hid (Fo.texts_get _ _ _ _ _ hg)
      obtain ⟨s1, hs1'⟩ : ∃ s, s = tb (txt k1 n1 qs.texts) := ⟨_, rfl⟩
      obtain ⟨sb, hsb'⟩ : ∃ s, s = tb (brackL (k1 == 4) (txt k1 n1 qs.texts)) := ⟨_, rfl⟩
      have HC : Hid (∀ W, Quiet0 wr W → Calls Tryd.prog 70 #[.agg #[.int .i64 k1, .int .i64 n1, .slice o1 len1 cap1]] W fun e w' => e = .returned (.string s1) ∧ Quiet0 W w') := by
        intro W hq; rw [hs1']; exact IH.out i k1 n1 qs hg W o1 len1 cap1 (hs1.stay hq) hp1 hr1 (by omega) (HT.out.stay ((HQ0.out.trans HQ.out).trans hq))
      have HBR : Hid (∀ W, Calls Tryd.prog 108 #[.bool (k1 == 4), .string s1] W fun e w' => e = .returned (.string sb) ∧ W = w') := by
        intro W; rw [hs1', hsb']; exact bracket_any (k1 == 4) (txt k1 n1 qs.texts) (by have := txt_bound k1 n1 qs; omega) W
      have HROW : Hid ((ps.texts.take (i + 1)).map (fun t => Value.string (bl t)) = (ps.texts.take i).map (fun t => Value.string (bl t)) ++ [.string sb]) := by
        show _ = _
        rw [List.take_add_one, HTX.out, List.map_append, hsb']; rfl
      clear hd hg hs1 hsq hp1 hr1 hs1' hsb' HTX
      go_wp2_with fail
      obtain ⟨g0, g1, g2⟩ := box_cells wr k1 n1 o1 len1 cap1 24 _ (Quiet0.refl _)
      have hvb : ∀ kk, (Value.slice vo i vc).ownBlock = some kk → kk < wr.heap.size := fun kk h => (HRW.out.lt kk h).2
      go_region_held3 (fun w' => w'.cell? ⟨wr.heap.size, 0, none⟩ = some (.int .i64 k1) ∧ w'.cell? ⟨wr.heap.size, 1, none⟩ = some (.int .i64 n1) ∧ w'.cell? ⟨wr.heap.size, 2, none⟩ = some (.slice o1 len1 cap1))
        (first
          | (go_keep; done)
          | (exact ⟨j0, j1, j2⟩)
          | (exact ⟨h0, h1, h2⟩)
          | (exact ⟨(Quiet0.alloc _ _).at h0, (Quiet0.alloc _ _).at h1, (Quiet0.alloc _ _).at h2⟩)
          | (exact ⟨g0, g1, g2⟩))
        (first
          | (go_at_call 70; with_reducible refine (HC.out _ ((Quiet0.alloc _ _).trans (Quiet0.drew _))).mono ?_; rintro e w1 ⟨rfl, hq1⟩; have hqb := (Quiet0.drew _).trans hq1; have h0 := hqb.at g0; have h1 := hqb.at g1; have h2 := hqb.at g2; have hbx := World.block_lt_of_cell? w1 _ h0; have HQ1 := Lib.hid ((Quiet0.alloc _ _).trans hqb); clear hq1 hqb)
          | (go_at_call 108; with_reducible refine (HBR.out _).mono ?_; rintro e w1' ⟨rfl, rfl⟩)
          | (refine step_append_one w1 (by rfl) (.tmp 45) (.tmp 52) 110 (by rfl) 9 _ 1 16 elemStr (.slice vo i vc) i ((ps.texts.take i).map fun t => .string (bl t)) (by rfl) (ownsRow_fr HRW.out HQ1.out (fun _ _ h => h)) #[.string sb] (by rfl) (by rfl) (by simp [Value.oneCell']) (by unfold maxLen; omega) (by omega) ?_; intro g2' c' w2 ho hf hg2; have j0 := (hf.cellb hbx (fun h => by have := hvb _ h; omega)).trans h0; have j1 := (hf.cellb hbx (fun h => by have := hvb _ h; omega)).trans h1; have j2 := (hf.cellb hbx (fun h => by have := hvb _ h; omega)).trans h2))
      all_goals
        have HO : Hid (w2.ownsRow 0 9 1 (.slice (some ⟨g2', 0, none⟩) (i + 1) c') (i + 1) ((ps.texts.take (i + 1)).map fun t => .string (bl t))) := by
          show World.ownsRow _ _ _ _ _ _ _
          rw [HROW.out]; simpa using ho
        have HQ2 : Hid (Quiet0 W0 w2) := by
          exact Fr.trans' (HQ.out.trans HQ1.out) hf (fun kk hkk h => absurd (HG.out kk h) (by omega))
        have HG2 : Hid (∀ g', (Value.slice (some ⟨g2', 0, none⟩) (i + 1) c').ownBlock = some g' → W0.heap.size ≤ g') := by
          intro g' h
          simp [Value.ownBlock] at h
          subst h
          rcases hg2 with h | h
          · exact HG.out _ h
          · exact Nat.le_trans (HQ.out.trans HQ1.out).size h
        clear ho hf hg2
        go_wp2_with fail
        go_roundw
        case rel => exact ⟨i + 1, some ⟨g2', 0, none⟩, c', by go_num, by omega, rfl, HO.out, HG2.out, HQ2.out⟩
        case measure => simp [intOf]; omega
    · have hil : i = len := by omega
      subst hil
      have hlt' : ¬ (i : Int) < i := by omega
      have htk : ps.texts.take i = ps.texts := List.take_of_length_le (by rw [Fo.texts_length]; have := HL.out; omega)
      rw [htk] at HRW
      obtain ⟨g, hvo⟩ : ∃ g, vo = some ⟨g, 0, none⟩ := by
        rcases HRW.out.2 with ⟨h1, h2⟩ | ⟨g, cap, cur, he, _⟩
        · omega
        · injection he with h1 h2 h3; exact ⟨g, h1⟩
      subst hvo
      have hcap := ownsRow_cap HRW.out
      have hgl := (HRW.out.lt g rfl).2
      have hcells : ∀ (j : Nat) x, (ps.texts.map bl)[j]? = some x → wr.cell? ⟨g, 0 + j, none⟩ = some (.string x) := by
        intro j x hx
        have := HRW.out.cells (g := g) rfl j (.string x) (by
          rw [List.getElem?_map] at hx ⊢
          cases ht : ps.texts[j]? with
          | none => rw [ht] at hx; cases hx
          | some t => rw [ht] at hx; simp at hx ⊢; exact hx)
        simpa [Addr.add_lit] using this
      have hlen' : (ps.texts.map bl).length = i := by rw [List.length_map, Fo.texts_length]; exact HL.out.symm
      have hJ := Tryd.strings_Join g 0 vc (ps.texts.map bl) ⟨#[32, 42, 32]⟩ wr hcells hgl (by omega) (by omega) HJZ.out.1
      rw [HJZ.out.2, hlen'] at hJ
      have HJ := Lib.hid hJ
      clear hJ hcells htk hlen'
      go_wp2_with fail
      refine HJ.out.mono ?_; rintro e w2 ⟨rfl, hb⟩
      have HB2 := Lib.hid (Quiet0.of_below hb)
      clear hb
      go_wp2_with fail
      go_ret
      exact ⟨rfl, (HQ0.out.trans HQ.out).trans HB2.out⟩
theorem text_any (k n : Int) (ps : Fo) : TText k n ps := by
  refine Fo.ind' (T := TText) ?_ k n ps
  intro k n ps ih
  by_cases h : k = 1 ∨ k = 2 ∨ k = 3
  · exact text_123 k n ps h
  · by_cases h4 : k = 4
    · subst h4; exact text_4 n ps ih
    · by_cases h5 : k = 5
      · subst h5; exact text_5 n ps ih
      · intro w o len cap hs hp
        exfalso
        have q1 : ¬ k = 1 := fun e => h (.inl e)
        have q2 : ¬ k = 2 := fun e => h (.inr (.inl e))
        have q3 : ¬ k = 3 := fun e => h (.inr (.inr e))
        simp [Fo.plain, q1, q2, q3, h4, h5] at hp
end Go.Proofs.YtggidhgifaekbaaDoor
/-
  The reference's Apply. Conditions: the type and the binds lie in memory as told; they are small.
-/
namespace Go.Proofs.YtggidhgifaekbaaDoor
open Go.RowKit Go.Maps

/-- a row of types under way, its value in a box at C; its parts in old blocks (below N) or behind C -/
structure RowX (N C : Nat) (w : World) (v : Value) (f : Fo) (xs : List Value) : Prop where
  own : w.ownsRow 0 24 3 v f.length xs
  low : ∀ k, v.ownBlock = some k → C < k
  cells : RowOf (fun k => (k < N ∨ C < k) ∧ v.ownBlock ≠ some k) w xs f
theorem RowX.nil (N C : Nat) (w : World) : RowX N C w (.slice none 0 0) .nil [] := ⟨World.ownsRow_nil _ _ _ _, fun k hk => (by cases hk), rfl⟩
theorem RowX.snoc {N C : Nat} {w0 W w1 : World} {v : Value} {f : Fo} {xs : List Value} {k n : Int} {ps : Fo} {o : Option Addr} {len cap g c N' : Nat} (hr : RowX N C w0 v f xs) (hq : Quiet0 w0 W)
    (hs : SlcIn (fun j => j < N ∨ N' ≤ j) W o len ps) (hN : N ≤ C) (hC : C < w0.heap.size) (hN' : w0.heap.size ≤ N')
    (ho : w1.ownsRow 0 24 3 (.slice (some ⟨g, 0, none⟩) (f.length + 1) c) (f.length + 1) (xs ++ [.int .i64 k, .int .i64 n, .slice o len cap])) (hf : Fr (fun j => v.ownBlock = some j) W w1) (hg : v.ownBlock = some g ∨ W.heap.size ≤ g) :
    RowX N C w1 (.slice (some ⟨g, 0, none⟩) (f.length + 1) c) (f.app (.cons k n ps .nil)) (xs ++ [.int .i64 k, .int .i64 n, .slice o len cap]) := by
  have hsz := hq.size
  have hown : ∀ j, v.ownBlock = some j → C < j ∧ j < w0.heap.size := fun j h => ⟨hr.low j h, (hr.own.lt j h).2⟩
  refine ⟨by rw [Fo.app_length]; exact ho, ?_, ?_⟩
  · intro j hj
    simp [Value.ownBlock] at hj
    subst hj
    rcases hg with h | h
    · exact hr.low g h
    · omega
  · have hk : ∀ j, j < W.heap.size → ((j < N ∨ C < j) ∧ v.ownBlock ≠ some j) → (((j < N ∨ C < j) ∧ (Value.slice (some ⟨g, 0, none⟩) (f.length + 1) c).ownBlock ≠ some j) ∧ ¬ v.ownBlock = some j) := by
      rintro j hj ⟨h1, h2⟩
      refine ⟨⟨h1, fun h => ?_⟩, h2⟩
      simp [Value.ownBlock] at h
      subst h
      rcases hg with h | h
      · exact h2 h
      · omega
    have hc := RowOf.fr (T := fun j => (j < N ∨ C < j) ∧ v.ownBlock ≠ some j) hq (fun j _ hj => ⟨hj, fun h => h⟩) f xs hr.cells
    have hs' : SlcIn (fun j => (j < N ∨ C < j) ∧ v.ownBlock ≠ some j) W o len ps := hs.fr (Fr.refl (fun _ => False) _) (fun j _ hj => ⟨⟨by have hj' : j < N ∨ N' ≤ j := hj; omega, fun h => by have := hown j h; have hj' : j < N ∨ N' ≤ j := hj; omega⟩, fun h => h⟩)
    exact RowOf.snoc (hs'.fr hf hk) f xs (RowOf.fr hf hk f xs hc)
theorem RowX.put {N C : Nat} {w w' : World} {v : Value} {f : Fo} {xs : List Value} (h : RowX N C w v f xs) (hN : N ≤ C) (hf : Fr (fun j => j = C) w w') : RowX N C w' v f xs :=
  ⟨ownsRow_fr h.own hf (fun j hj h' => by have := h.low j hj; have h2 : j = C := h'; omega), h.low, RowOf.fr hf (fun j _ hj => ⟨hj, fun h' => by have h2 : j = C := h'; omega⟩) f xs h.cells⟩
theorem RowX.slc {N C : Nat} {w : World} {o : Option Addr} {len cap : Nat} {f : Fo} {xs : List Value} (h : RowX N C w (.slice o len cap) f xs) (hl : len = f.length) (hm : len ≤ maxLen) : SlcIn (fun j => j < N ∨ C < j) w o len f := by
  refine ⟨hl, hm, fun h0 => ?_⟩
  rcases h.own.2 with ⟨_, h2⟩ | ⟨g, cap', cur, he, _⟩
  · omega
  · injection he with h1 h2 h3
    subst h1
    refine ⟨g, 0, rfl, RowOf.at (R := fun j => j < N ∨ C < j) (.inr (h.low g rfl)) f xs 0 (RowOf.fr (Fr.refl (fun _ => False) w) (fun k _ hk => ⟨hk.1, fun h => h⟩) f xs h.cells) ?_⟩
    intro j u hj
    have := h.own.cells (g := g) rfl j u hj
    simpa [Addr.add_lit] using this
theorem with_fr3 {wr w1 w2 : World} {B : Nat} {S : Nat → Prop} {G : Prop} (h : Fr (fun j => B < j) wr w1) (hf : Fr S w1 w2) (hS : ∀ j, S j → B < j) (k : Fr (fun j => B < j) wr w2 → G) : G := k (h.trans (hf.mono (fun j _ hj => hS j hj)))
def RApp (w0 : World) (a : Option Addr) (c : Nat) (l : List Bd) (k n : Int) (ps : Fo) : Prop := ∀ (w : World) (o : Option Addr) (len cap : Nat), Quiet0 w0 w → Slc w o len ps → ps.size ≤ 1000000 →
  Calls Tryd.prog 59 #[.slice a l.length c, tyv k n o len cap] w fun e w' => ∃ o' len' cap', e = .returned (tyv (sK l k n) (sN l k n) o' len' cap') ∧ SlcIn (fun j => j < w0.heap.size ∨ w.heap.size ≤ j) w' o' len' (sP l k n ps) ∧ Quiet0 w w'
set_option maxHeartbeats 4000000 in
set_option maxRecDepth 100000 in
theorem refApply_any (w0 : World) (a : Option Addr) (c : Nat) (l : List Bd) (hb : BindsAt w0 a l) (hll : l.length ≤ 1000000) (k n : Int) (ps : Fo) : RApp w0 a c l k n ps := by
  refine Fo.ind' (T := RApp w0 a c l) ?_ k n ps
  intro k n ps ih w o len cap hq0 hs hsz
  have hlz := Fo.length_le ps
  rw [← hs.1] at hlz
  have HS := Lib.hid hs
  have IH := Lib.hid ih
  have HL := Lib.hid hs.1
  have hmx := hs.2.1
  unfold maxLen at hmx
  have HQ00 := Lib.hid hq0
  have HBD := Lib.hid hb
  obtain ⟨W1, hW1⟩ : ∃ W1, W1 = (w.alloc (.cells #[.int .i64 k, .int .i64 n, .slice o len cap] 24)).alloc (.cells #[.int .i64 0, .int .i64 0, .slice none 0 0] 24) := ⟨_, rfl⟩
  have HQ1 : Hid (Quiet0 w W1) := by rw [hW1]; exact (Quiet0.alloc _ _).trans (Quiet0.alloc _ _)
  have HBT : Hid (W1.heap[w.heap.size]? = some (.cells #[.int .i64 k, .int .i64 n, .slice o len cap] 24 (0, 0))) := by rw [hW1]; exact box_after (heap_alloc_new w _) (Quiet0.alloc _ _)
  have HZ1 : Hid (W1.heap[w.heap.size + 1]? = some (.cells #[.int .i64 0, .int .i64 0, .slice none 0 0] 24 (0, 0))) := by
    rw [hW1, show w.heap.size + 1 = (w.alloc (.cells #[.int .i64 k, .int .i64 n, .slice o len cap] 24)).heap.size from by simp]; exact heap_alloc_new _ _
  have HFN := Lib.hid (fun (W : World) (hq : Quiet0 w W) => find_any l W a c n (hb.stay (hq0.trans hq)) hll)
  clear hs ih hq0 hb
  cases hk : (k == 1)
  · have hh : hit l k n = none := by unfold hit; rw [hk]; rfl
    have e1 : sK l k n = k := by unfold sK; rw [hh]
    have e2 : sN l k n = n := by unfold sN; rw [hh]
    have e3 : sP l k n ps = substF l ps := by unfold sP; rw [hh]
    rw [e1, e2, e3]
    clear e1 e2 e3 hh
    unfold tyv
    go_enter Tryd.func59, Tryd.ntmps59
    go_upto_region 1 with fail
    rw [← hW1]
    clear hW1
    generalize hB : w.heap.size = B at *
    have HBE := Lib.hid hB
    clear hB
    obtain ⟨p0, p1, p2, _, _, _⟩ := box_cells3 HBT.out
    go_upto_region 7 with fail
    obtain ⟨WC, hWC⟩ : ∃ WC, WC = W1.alloc (.cells #[.int .i64 k, .int .i64 n, .slice none 0 0] 24) := ⟨_, rfl⟩
    obtain ⟨C, hC⟩ : ∃ C, C = W1.heap.size := ⟨_, rfl⟩
    have HCB : Hid (WC.heap[C]? = some (.cells #[.int .i64 k, .int .i64 n, .slice none 0 0] 24 (0, 0))) := by rw [hWC, hC]; exact heap_alloc_new _ _
    have HQ1C : Hid (Quiet0 W1 WC) := by rw [hWC]; exact Quiet0.alloc _ _
    have hCB : B + 1 < C := by have := lt_of_block HZ1.out; omega
    have HQW := Lib.hid (HQ1.out.trans HQ1C.out)
    have HQWC := Lib.hid (HQ00.out.trans HQW.out)
    have HB0 := Lib.hid (box_after HBT.out HQ1C.out)
    have HB1 := Lib.hid (box_after HZ1.out HQ1C.out)
    obtain ⟨N0, hN0⟩ : ∃ N0, N0 = w0.heap.size := ⟨_, rfl⟩
    have HN0 := Lib.hid hN0
    have HNC : Hid (w0.heap.size ≤ C ∧ N0 ≤ C) := by have h1 := HQ00.out.size; have h2 := HQ1.out.size; rw [hN0, hC]; exact ⟨Nat.le_trans h1 h2, Nat.le_trans h1 h2⟩
    have HCW : Hid (C < WC.heap.size ∧ WC.heap.size = C + 1 ∧ w.heap.size ≤ C) := by have h2 := HQ1.out.size; rw [hWC, hC]; simp; exact h2
    change Code.wp _ _ _ _ (W1.alloc (.cells #[.int .i64 k, .int .i64 n, .slice none 0 0] 24))
    rw [← hWC]
    rw [← hC]
    clear hWC hC hN0
    clear p0 p1 p2
    go_wp2_with fail
    go_loopw [7] (fun t wr => ∃ (i : Nat) (f : Fo) (xs : List Value) (vo : Option Addr) (vc : Nat), t = .int .i64 i ∧ i ≤ len ∧ f.length = i ∧ f.app (substF l (ps.drop i)) = substF l ps ∧ RowX N0 C wr (.slice vo i vc) f xs ∧ wr.heap[C]? = some (.cells #[.int .i64 k, .int .i64 n, .slice vo i vc] 24 (0, 0)) ∧ Quiet0 w0 wr ∧ Fr (fun j => j = C) WC wr) (fun t _ => len - (intOf t).toNat)
    case atStart => exact ⟨0, .nil, [], none, 0, rfl, Nat.zero_le _, rfl, by rw [Fo.drop_zero]; rfl, RowX.nil _ _ _, HCB.out, HQWC.out, Fr.refl _ _⟩
    case round =>
      obtain ⟨i, f, xs, vo, vc, rfl, hi, hfl, hap, hrow, hbc, hq, hfw⟩ := hrel
      have HF := Lib.hid hfl
      have HAP := Lib.hid hap
      have HR := Lib.hid hrow
      have HBC := Lib.hid hbc
      have HQ := Lib.hid hq
      have HFW := Lib.hid hfw
      have hbb : wr.heap[B]? = some (.cells #[.int .i64 k, .int .i64 n, .slice o len cap] 24 (0, 0)) := blk_fr hfw (fun h => by have h' : B = C := h; omega) HB0.out
      have hbz : wr.heap[B + 1]? = some (.cells #[.int .i64 0, .int .i64 0, .slice none 0 0] 24 (0, 0)) := blk_fr hfw (fun h => by have h' : B + 1 = C := h; omega) HB1.out
      have HBZ := Lib.hid hbz
      obtain ⟨p0, p1, p2, _, _, _⟩ := box_cells3 hbb
      obtain ⟨g0, g1, g2, _, _, _⟩ := box_cells3 hbc
      have HSW : Hid (Slc wr o len ps) := (HS.out.lt.fr (T := fun j => j < B) (Fr.trans' (HQW.out.mono (fun _ _ h => h.elim)) hfw (fun j _ h => h)) (fun j _ hj => ⟨HBE.out ▸ hj, fun h => by have h' : j = C := h; have h2 : j < w.heap.size := hj; have := HBE.out; omega⟩)).slc
      clear hfl hap hrow hbc hq hfw hbb hbz
      by_cases hlt : i < len
      · have hlt' : (i : Int) < len := by omega
        obtain ⟨bb, off, k1, n1, qs, o1, len1, cap1, rfl, hd, hg, e0, e1, e2, hs1⟩ := HSW.out.nth hlt
        obtain ⟨_, _, _, _, _, _, _, _, hoo, _, _, f0, _, _, _⟩ := HS.out.nth hlt
        have hbl : bb < B := by cases hoo; have := World.block_lt_of_cell? _ _ f0; have := HBE.out; simp at *; omega
        have hsq := Fo.size_get ps i k1 n1 qs hg
        have HC : Hid (∀ W, Quiet0 wr W → Calls Tryd.prog 59 #[.slice a l.length c, .agg #[.int .i64 k1, .int .i64 n1, .slice o1 len1 cap1]] W fun e w' => ∃ o' len' cap', e = .returned (.agg #[.int .i64 (sK l k1 n1), .int .i64 (sN l k1 n1), .slice o' len' cap']) ∧ SlcIn (fun j => j < w0.heap.size ∨ wr.heap.size ≤ j) w' o' len' (sP l k1 n1 qs) ∧ Quiet0 W w') := by
          intro W hq
          refine (IH.out i k1 n1 qs hg W o1 len1 cap1 (HQ.out.trans hq) (hs1.stay hq) (by omega)).mono ?_
          rintro e w' ⟨o', l', c', rfl, h1, h2⟩
          exact ⟨o', l', c', rfl, h1.fr (Fr.refl (fun _ => False) _) (fun j _ hj => ⟨by have h3 := hq.size; have hj' : j < w0.heap.size ∨ W.heap.size ≤ j := hj; show j < w0.heap.size ∨ wr.heap.size ≤ j; omega, fun h => h⟩), h2⟩
        have HD : Hid ((f.app (.cons (sK l k1 n1) (sN l k1 n1) (sP l k1 n1 qs) .nil)).app (substF l (ps.drop (i + 1))) = substF l ps) := by
          show _ = _
          rw [← HAP.out, hd, Fo.app_assoc, substF_cons]; rfl
        have HRO : Hid (wr.ownsRow 0 24 3 (.slice vo i vc) i xs) := by
          have h := HR.out.own
          rw [HF.out] at h
          exact h
        have HLO : Hid (∀ j, (Value.slice vo i vc).ownBlock = some j → B < j) := fun j h => by have := HR.out.low j h; omega
        have HOC : Hid (¬ (fun j => (Value.slice vo i vc).ownBlock = some j) C) := fun h => by have := HR.out.low C h; omega
        have hlC := lt_of_block HBC.out
        have hBC : B < C := by omega
        clear hd hg hs1 hsq hoo f0
        generalize sK l k1 n1 = k2 at *
        generalize sN l k1 n1 = n2 at *
        generalize sP l k1 n1 qs = p2' at *
        have hqc := Quiet0.refl wr
        have hfr1 := Fr.refl (fun j => B < j) wr
        have hfr2 := Fr.refl (fun j => B < j) wr
        go_wp2_with fail
        go_region_law (first
            | (refine step_append_one w1 ?hgd (.tmp 32) (.tmp 40) 22 ?hop 24 _ 3 40 elemTy (.slice vo i vc) i xs ?hs hown1 #[.int .i64 k2, .int .i64 n2, .slice o2 len2 cap2] ?hx ?hnn ?c1 ?c2 ?c3 ?_; (case hgd => rfl); (case hop => rfl); (case hs => rfl); (case hx => rfl); (case hnn => rfl); (case c1 => simp [Value.oneCell']); (case c2 => (unfold maxLen; omega)); (case c3 => omega); intro gg c' w2 ho hf hg2; refine with_fr3 (B := B) hfr1 hf HLO.out ?_; intro hfr2; have hbc2 := blk_fr hf HOC.out hbc1; refine box_use hbc2 ?_; intro x0 x1 x2 y0 y1 y2 _)
            | (refine step_append_one w1.drew ?hgd (.tmp 32) (.tmp 40) 22 ?hop 24 _ 3 40 elemTy (.slice vo i vc) i xs ?hs (ownsRow_fr hown1 (Fr.drew (fun _ => False) _) (fun _ _ h => h)) #[.int .i64 k2, .int .i64 n2, .slice o2 len2 cap2] ?hx ?hnn ?c1 ?c2 ?c3 ?_; (case hgd => rfl); (case hop => rfl); (case hs => rfl); (case hx => rfl); (case hnn => rfl); (case c1 => simp [Value.oneCell']); (case c2 => (unfold maxLen; omega)); (case c3 => omega); intro gg c' w2 ho hf hg2; replace hqw := hqw.trans (Quiet0.drew w1); replace hs2 := hs2.fr (T := fun j => j < w0.heap.size ∨ wr.heap.size ≤ j) (Fr.drew (fun _ => False) w1) (fun j _ hj => ⟨hj, fun h => h⟩); replace hbc1 := blk_drew hbc1; replace hfr1 := hfr1.trans (Fr.drew _ w1); refine with_fr3 (B := B) hfr1 hf HLO.out ?_; intro hfr2; have hbc2 := blk_fr hf HOC.out hbc1; refine box_use hbc2 ?_; intro x0 x1 x2 y0 y1 y2 _)
            | (go_simp; go_at_call 59; (with_reducible refine Calls.mono (HC.out _ ?hq) ?_); (case hq => (repeat (first | with_reducible exact hqc | with_reducible exact Quiet0.refl _ | with_reducible refine Quiet0.trans ?_ (Quiet0.alloc _ _) | with_reducible refine Quiet0.trans ?_ (Quiet0.drew _) | fail))); rintro e w1 ⟨o2, len2, cap2, rfl, hs2, hq1⟩; refine with_q (w0 := wr) ?hq2 hq1 ?_; (case hq2 => (repeat (first | with_reducible exact hqc | with_reducible exact Quiet0.refl _ | with_reducible refine Quiet0.trans ?_ (Quiet0.alloc _ _) | with_reducible refine Quiet0.trans ?_ (Quiet0.drew _) | fail))); intro hqw; have hfr1 : Fr (fun j => B < j) wr w1 := hqw.mono (fun _ _ h => h.elim); have hbc1 := box_after HBC.out hqw; refine box_use hbc1 ?_; intro g0 g1 g2 _ _ _ _; have g2a := (Quiet0.alloc w1 (.cells #[.int .i64 k2, .int .i64 n2, .slice o2 len2 cap2] 24)).at g2; have p2w := hqw.at p2; have hown1 := ownsRow_fr HRO.out hqw (fun _ _ h => h))
            | fail)
        all_goals
          have HEND : Hid (RowX N0 C (w2.setCell ⟨C, 2, none⟩ (.slice (some ⟨gg, 0, none⟩) (i + 1) c')) (.slice (some ⟨gg, 0, none⟩) (i + 1) c') (f.app (.cons k2 n2 p2' .nil)) (xs ++ [.int .i64 k2, .int .i64 n2, .slice o2 len2 cap2]) ∧ Quiet0 w0 (w2.setCell ⟨C, 2, none⟩ (.slice (some ⟨gg, 0, none⟩) (i + 1) c')) ∧ Fr (fun j => j = C) WC (w2.setCell ⟨C, 2, none⟩ (.slice (some ⟨gg, 0, none⟩) (i + 1) c')) ∧ (w2.setCell ⟨C, 2, none⟩ (.slice (some ⟨gg, 0, none⟩) (i + 1) c')).heap[C]? = some (.cells #[.int .i64 k, .int .i64 n, .slice (some ⟨gg, 0, none⟩) (i + 1) c'] 24 (0, 0))) := by
            have hset := Fr.setCell (fun j => j = C) w2 ⟨C, 2, none⟩ (.slice (some ⟨gg, 0, none⟩) (i + 1) c') rfl
            have hf' := HF.out
            subst hf'
            have hr2 := RowX.snoc HR.out hqw (hs2.fr (T := fun j => j < N0 ∨ wr.heap.size ≤ j) (Fr.refl (fun _ => False) _) (fun j _ hj => ⟨by have h4 := HN0.out; have hj' : j < w0.heap.size ∨ wr.heap.size ≤ j := hj; show j < N0 ∨ wr.heap.size ≤ j; omega, fun h => h⟩)) HNC.out.2 hlC (Nat.le_refl _) ho hf hg2
            have hown : ∀ j, (Value.slice vo f.length vc).ownBlock = some j → C < j := fun j h => HR.out.low j h
            refine ⟨hr2.put HNC.out.2 hset, ?_, ?_, box_set2 hbc2⟩
            · exact Fr.trans' (Fr.trans' (HQ.out.trans hqw) hf (fun j hj h => by have := hown j h; have := HNC.out; omega)) hset (fun j hj h => by have h' : j = C := h; have := HNC.out; omega)
            · exact Fr.trans' (Fr.trans' (HFW.out.trans (hqw.mono (fun _ _ h => h.elim))) hf (fun j hj h => by have := hown j h; have := HCW.out; omega)) hset (fun j hj h => h)
          clear ho hf hg2 hfr2 hbc2
          go_wp2_with fail
          go_roundw
          case rel => exact ⟨i + 1, _, _, some ⟨gg, 0, none⟩, c', by go_num, by omega, by rw [Fo.app_length, HF.out]; rfl, HD.out, HEND.out.1, HEND.out.2.2.2, HEND.out.2.1, HEND.out.2.2.1⟩
          case measure => simp [intOf]; omega
      · have hlt' : ¬ (i : Int) < len := by omega
        have hil : i = len := by omega
        obtain ⟨d0, d1, d2, y0, y1, y2⟩ := box_cells3 HBZ.out
        have hap := HAP.out
        rw [Fo.drop_end ps i (by have := HL.out; omega)] at hap
        simp only [substF] at hap
        rw [Fo.app_nil] at hap
        have HFIN := Lib.hid (HR.out.slc HF.out.symm (by unfold maxLen; omega))
        rw [hap] at HFIN
        clear hap
        subst hil
        go_wp2_with fail
        clear d0 d1 d2 y0 y1 y2
        have hf := put3_fr wr (B + 1) (.int .i64 k) (.int .i64 n) (.slice vo i vc)
        obtain ⟨f0, f1, f2⟩ := put3_cells (a := .int .i64 k) (b := .int .i64 n) (c := .slice vo i vc) HBZ.out
        change bodyPost _ _ _ _ _ (put3 wr (B + 1) (.int .i64 k) (.int .i64 n) (.slice vo i vc))
        generalize put3 wr (B + 1) (.int .i64 k) (.int .i64 n) (.slice vo i vc) = wf at *
        refine bodyPost_ret (by simp [results, Tryd.results59, go_sem, f0, f1, f2]; rfl) rfl ?_
        refine ⟨vo, i, ⟨vc, rfl⟩, HFIN.out.fr hf ?_, ?_⟩
        · intro j _ hj
          have hj' : j < N0 ∨ C < j := hj
          have h1 := HNC.out
          have h2 := HBE.out
          have h3 := HCW.out
          have h4 := HN0.out
          have h5 := HQ00.out.size
          exact ⟨by show j < w0.heap.size ∨ w.heap.size ≤ j; omega, fun h => by have h' : j = B + 1 := h; omega⟩
        · exact Fr.trans' (Fr.trans' HQW.out HFW.out (fun j hj h => by have h' : j = C := h; have h3 := HCW.out; omega)) hf (fun j hj h => by have h' : j = B + 1 := h; have := HBE.out; omega)
  · rcases idxB_find n l 0 with ⟨hi1, hi2⟩ | ⟨j, t, hi1, hi2, hi3⟩
    · have hh : hit l k n = none := by unfold hit; rw [hk, hi2]; rfl
      have e1 : sK l k n = k := by unfold sK; rw [hh]
      have e2 : sN l k n = n := by unfold sN; rw [hh]
      have e3 : sP l k n ps = substF l ps := by unfold sP; rw [hh]
      rw [e1, e2, e3]
      rw [hi1] at HFN
      clear e1 e2 e3 hh hi1 hi2
      unfold tyv
      go_enter Tryd.func59, Tryd.ntmps59
      go_upto_region 1 with fail
      rw [← hW1]
      clear hW1
      generalize hB : w.heap.size = B at *
      have HBE := Lib.hid hB
      clear hB
      obtain ⟨p0, p1, p2, _, _, _⟩ := box_cells3 HBT.out
      go_wp2_with fail
      refine (HFN.out _ HQ1.out).mono ?_; rintro e W2 ⟨rfl, hq2⟩
      have HQ2 := Lib.hid (HQ1.out.trans hq2)
      have HBT2 := Lib.hid (box_after HBT.out hq2)
      have HZ2 := Lib.hid (box_after HZ1.out hq2)
      clear p0 p1 p2 hq2
      obtain ⟨p0, p1, p2, _, _, _⟩ := box_cells3 HBT2.out
      go_upto_region 7 with fail
      obtain ⟨WC, hWC⟩ : ∃ WC, WC = W2.alloc (.cells #[.int .i64 k, .int .i64 n, .slice none 0 0] 24) := ⟨_, rfl⟩
      obtain ⟨C, hC⟩ : ∃ C, C = W2.heap.size := ⟨_, rfl⟩
      have HCB : Hid (WC.heap[C]? = some (.cells #[.int .i64 k, .int .i64 n, .slice none 0 0] 24 (0, 0))) := by rw [hWC, hC]; exact heap_alloc_new _ _
      have HQ1C : Hid (Quiet0 W2 WC) := by rw [hWC]; exact Quiet0.alloc _ _
      have hCB : B + 1 < C := by have := lt_of_block HZ2.out; omega
      have HQW := Lib.hid (HQ2.out.trans HQ1C.out)
      have HQWC := Lib.hid (HQ00.out.trans HQW.out)
      have HB0 := Lib.hid (box_after HBT2.out HQ1C.out)
      have HB1 := Lib.hid (box_after HZ2.out HQ1C.out)
      obtain ⟨N0, hN0⟩ : ∃ N0, N0 = w0.heap.size := ⟨_, rfl⟩
      have HN0 := Lib.hid hN0
      have HNC : Hid (w0.heap.size ≤ C ∧ N0 ≤ C) := by have h1 := HQ00.out.size; have h2 := HQ2.out.size; rw [hN0, hC]; exact ⟨Nat.le_trans h1 h2, Nat.le_trans h1 h2⟩
      have HCW : Hid (C < WC.heap.size ∧ WC.heap.size = C + 1 ∧ w.heap.size ≤ C) := by have h2 := HQ2.out.size; rw [hWC, hC]; simp; exact h2
      change Code.wp _ _ _ _ (W2.alloc (.cells #[.int .i64 k, .int .i64 n, .slice none 0 0] 24))
      rw [← hWC]
      rw [← hC]
      clear hWC hC hN0
      clear p0 p1 p2
      go_wp2_with fail
      go_loopw [7] (fun t wr => ∃ (i : Nat) (f : Fo) (xs : List Value) (vo : Option Addr) (vc : Nat), t = .int .i64 i ∧ i ≤ len ∧ f.length = i ∧ f.app (substF l (ps.drop i)) = substF l ps ∧ RowX N0 C wr (.slice vo i vc) f xs ∧ wr.heap[C]? = some (.cells #[.int .i64 k, .int .i64 n, .slice vo i vc] 24 (0, 0)) ∧ Quiet0 w0 wr ∧ Fr (fun j => j = C) WC wr) (fun t _ => len - (intOf t).toNat)
      case atStart => exact ⟨0, .nil, [], none, 0, rfl, Nat.zero_le _, rfl, by rw [Fo.drop_zero]; rfl, RowX.nil _ _ _, HCB.out, HQWC.out, Fr.refl _ _⟩
      case round =>
        obtain ⟨i, f, xs, vo, vc, rfl, hi, hfl, hap, hrow, hbc, hq, hfw⟩ := hrel
        have HF := Lib.hid hfl
        have HAP := Lib.hid hap
        have HR := Lib.hid hrow
        have HBC := Lib.hid hbc
        have HQ := Lib.hid hq
        have HFW := Lib.hid hfw
        have hbb : wr.heap[B]? = some (.cells #[.int .i64 k, .int .i64 n, .slice o len cap] 24 (0, 0)) := blk_fr hfw (fun h => by have h' : B = C := h; omega) HB0.out
        have hbz : wr.heap[B + 1]? = some (.cells #[.int .i64 0, .int .i64 0, .slice none 0 0] 24 (0, 0)) := blk_fr hfw (fun h => by have h' : B + 1 = C := h; omega) HB1.out
        have HBZ := Lib.hid hbz
        obtain ⟨p0, p1, p2, _, _, _⟩ := box_cells3 hbb
        obtain ⟨g0, g1, g2, _, _, _⟩ := box_cells3 hbc
        have HSW : Hid (Slc wr o len ps) := (HS.out.lt.fr (T := fun j => j < B) (Fr.trans' (HQW.out.mono (fun _ _ h => h.elim)) hfw (fun j _ h => h)) (fun j _ hj => ⟨HBE.out ▸ hj, fun h => by have h' : j = C := h; have h2 : j < w.heap.size := hj; have := HBE.out; omega⟩)).slc
        clear hfl hap hrow hbc hq hfw hbb hbz
        by_cases hlt : i < len
        · have hlt' : (i : Int) < len := by omega
          obtain ⟨bb, off, k1, n1, qs, o1, len1, cap1, rfl, hd, hg, e0, e1, e2, hs1⟩ := HSW.out.nth hlt
          obtain ⟨_, _, _, _, _, _, _, _, hoo, _, _, f0, _, _, _⟩ := HS.out.nth hlt
          have hbl : bb < B := by cases hoo; have := World.block_lt_of_cell? _ _ f0; have := HBE.out; simp at *; omega
          have hsq := Fo.size_get ps i k1 n1 qs hg
          have HC : Hid (∀ W, Quiet0 wr W → Calls Tryd.prog 59 #[.slice a l.length c, .agg #[.int .i64 k1, .int .i64 n1, .slice o1 len1 cap1]] W fun e w' => ∃ o' len' cap', e = .returned (.agg #[.int .i64 (sK l k1 n1), .int .i64 (sN l k1 n1), .slice o' len' cap']) ∧ SlcIn (fun j => j < w0.heap.size ∨ wr.heap.size ≤ j) w' o' len' (sP l k1 n1 qs) ∧ Quiet0 W w') := by
            intro W hq
            refine (IH.out i k1 n1 qs hg W o1 len1 cap1 (HQ.out.trans hq) (hs1.stay hq) (by omega)).mono ?_
            rintro e w' ⟨o', l', c', rfl, h1, h2⟩
            exact ⟨o', l', c', rfl, h1.fr (Fr.refl (fun _ => False) _) (fun j _ hj => ⟨by have h3 := hq.size; have hj' : j < w0.heap.size ∨ W.heap.size ≤ j := hj; show j < w0.heap.size ∨ wr.heap.size ≤ j; omega, fun h => h⟩), h2⟩
          have HD : Hid ((f.app (.cons (sK l k1 n1) (sN l k1 n1) (sP l k1 n1 qs) .nil)).app (substF l (ps.drop (i + 1))) = substF l ps) := by
            show _ = _
            rw [← HAP.out, hd, Fo.app_assoc, substF_cons]; rfl
          have HRO : Hid (wr.ownsRow 0 24 3 (.slice vo i vc) i xs) := by
            have h := HR.out.own
            rw [HF.out] at h
            exact h
          have HLO : Hid (∀ j, (Value.slice vo i vc).ownBlock = some j → B < j) := fun j h => by have := HR.out.low j h; omega
          have HOC : Hid (¬ (fun j => (Value.slice vo i vc).ownBlock = some j) C) := fun h => by have := HR.out.low C h; omega
          have hlC := lt_of_block HBC.out
          have hBC : B < C := by omega
          clear hd hg hs1 hsq hoo f0
          generalize sK l k1 n1 = k2 at *
          generalize sN l k1 n1 = n2 at *
          generalize sP l k1 n1 qs = p2' at *
          have hqc := Quiet0.refl wr
          have hfr1 := Fr.refl (fun j => B < j) wr
          have hfr2 := Fr.refl (fun j => B < j) wr
          go_wp2_with fail
          go_region_law (first
              | (refine step_append_one w1 ?hgd (.tmp 32) (.tmp 40) 22 ?hop 24 _ 3 40 elemTy (.slice vo i vc) i xs ?hs hown1 #[.int .i64 k2, .int .i64 n2, .slice o2 len2 cap2] ?hx ?hnn ?c1 ?c2 ?c3 ?_; (case hgd => rfl); (case hop => rfl); (case hs => rfl); (case hx => rfl); (case hnn => rfl); (case c1 => simp [Value.oneCell']); (case c2 => (unfold maxLen; omega)); (case c3 => omega); intro gg c' w2 ho hf hg2; refine with_fr3 (B := B) hfr1 hf HLO.out ?_; intro hfr2; have hbc2 := blk_fr hf HOC.out hbc1; refine box_use hbc2 ?_; intro x0 x1 x2 y0 y1 y2 _)
              | (refine step_append_one w1.drew ?hgd (.tmp 32) (.tmp 40) 22 ?hop 24 _ 3 40 elemTy (.slice vo i vc) i xs ?hs (ownsRow_fr hown1 (Fr.drew (fun _ => False) _) (fun _ _ h => h)) #[.int .i64 k2, .int .i64 n2, .slice o2 len2 cap2] ?hx ?hnn ?c1 ?c2 ?c3 ?_; (case hgd => rfl); (case hop => rfl); (case hs => rfl); (case hx => rfl); (case hnn => rfl); (case c1 => simp [Value.oneCell']); (case c2 => (unfold maxLen; omega)); (case c3 => omega); intro gg c' w2 ho hf hg2; replace hqw := hqw.trans (Quiet0.drew w1); replace hs2 := hs2.fr (T := fun j => j < w0.heap.size ∨ wr.heap.size ≤ j) (Fr.drew (fun _ => False) w1) (fun j _ hj => ⟨hj, fun h => h⟩); replace hbc1 := blk_drew hbc1; replace hfr1 := hfr1.trans (Fr.drew _ w1); refine with_fr3 (B := B) hfr1 hf HLO.out ?_; intro hfr2; have hbc2 := blk_fr hf HOC.out hbc1; refine box_use hbc2 ?_; intro x0 x1 x2 y0 y1 y2 _)
              | (go_simp; go_at_call 59; (with_reducible refine Calls.mono (HC.out _ ?hq) ?_); (case hq => (repeat (first | with_reducible exact hqc | with_reducible exact Quiet0.refl _ | with_reducible refine Quiet0.trans ?_ (Quiet0.alloc _ _) | with_reducible refine Quiet0.trans ?_ (Quiet0.drew _) | fail))); rintro e w1 ⟨o2, len2, cap2, rfl, hs2, hq1⟩; refine with_q (w0 := wr) ?hq2 hq1 ?_; (case hq2 => (repeat (first | with_reducible exact hqc | with_reducible exact Quiet0.refl _ | with_reducible refine Quiet0.trans ?_ (Quiet0.alloc _ _) | with_reducible refine Quiet0.trans ?_ (Quiet0.drew _) | fail))); intro hqw; have hfr1 : Fr (fun j => B < j) wr w1 := hqw.mono (fun _ _ h => h.elim); have hbc1 := box_after HBC.out hqw; refine box_use hbc1 ?_; intro g0 g1 g2 _ _ _ _; have g2a := (Quiet0.alloc w1 (.cells #[.int .i64 k2, .int .i64 n2, .slice o2 len2 cap2] 24)).at g2; have p2w := hqw.at p2; have hown1 := ownsRow_fr HRO.out hqw (fun _ _ h => h))
              | fail)
          all_goals
            have HEND : Hid (RowX N0 C (w2.setCell ⟨C, 2, none⟩ (.slice (some ⟨gg, 0, none⟩) (i + 1) c')) (.slice (some ⟨gg, 0, none⟩) (i + 1) c') (f.app (.cons k2 n2 p2' .nil)) (xs ++ [.int .i64 k2, .int .i64 n2, .slice o2 len2 cap2]) ∧ Quiet0 w0 (w2.setCell ⟨C, 2, none⟩ (.slice (some ⟨gg, 0, none⟩) (i + 1) c')) ∧ Fr (fun j => j = C) WC (w2.setCell ⟨C, 2, none⟩ (.slice (some ⟨gg, 0, none⟩) (i + 1) c')) ∧ (w2.setCell ⟨C, 2, none⟩ (.slice (some ⟨gg, 0, none⟩) (i + 1) c')).heap[C]? = some (.cells #[.int .i64 k, .int .i64 n, .slice (some ⟨gg, 0, none⟩) (i + 1) c'] 24 (0, 0))) := by
              have hset := Fr.setCell (fun j => j = C) w2 ⟨C, 2, none⟩ (.slice (some ⟨gg, 0, none⟩) (i + 1) c') rfl
              have hf' := HF.out
              subst hf'
              have hr2 := RowX.snoc HR.out hqw (hs2.fr (T := fun j => j < N0 ∨ wr.heap.size ≤ j) (Fr.refl (fun _ => False) _) (fun j _ hj => ⟨by have h4 := HN0.out; have hj' : j < w0.heap.size ∨ wr.heap.size ≤ j := hj; show j < N0 ∨ wr.heap.size ≤ j; omega, fun h => h⟩)) HNC.out.2 hlC (Nat.le_refl _) ho hf hg2
              have hown : ∀ j, (Value.slice vo f.length vc).ownBlock = some j → C < j := fun j h => HR.out.low j h
              refine ⟨hr2.put HNC.out.2 hset, ?_, ?_, box_set2 hbc2⟩
              · exact Fr.trans' (Fr.trans' (HQ.out.trans hqw) hf (fun j hj h => by have := hown j h; have := HNC.out; omega)) hset (fun j hj h => by have h' : j = C := h; have := HNC.out; omega)
              · exact Fr.trans' (Fr.trans' (HFW.out.trans (hqw.mono (fun _ _ h => h.elim))) hf (fun j hj h => by have := hown j h; have := HCW.out; omega)) hset (fun j hj h => h)
            clear ho hf hg2 hfr2 hbc2
            go_wp2_with fail
            go_roundw
            case rel => exact ⟨i + 1, _, _, some ⟨gg, 0, none⟩, c', by go_num, by omega, by rw [Fo.app_length, HF.out]; rfl, HD.out, HEND.out.1, HEND.out.2.2.2, HEND.out.2.1, HEND.out.2.2.1⟩
            case measure => simp [intOf]; omega
        · have hlt' : ¬ (i : Int) < len := by omega
          have hil : i = len := by omega
          obtain ⟨d0, d1, d2, y0, y1, y2⟩ := box_cells3 HBZ.out
          have hap := HAP.out
          rw [Fo.drop_end ps i (by have := HL.out; omega)] at hap
          simp only [substF] at hap
          rw [Fo.app_nil] at hap
          have HFIN := Lib.hid (HR.out.slc HF.out.symm (by unfold maxLen; omega))
          rw [hap] at HFIN
          clear hap
          subst hil
          go_wp2_with fail
          clear d0 d1 d2 y0 y1 y2
          have hf := put3_fr wr (B + 1) (.int .i64 k) (.int .i64 n) (.slice vo i vc)
          obtain ⟨f0, f1, f2⟩ := put3_cells (a := .int .i64 k) (b := .int .i64 n) (c := .slice vo i vc) HBZ.out
          change bodyPost _ _ _ _ _ (put3 wr (B + 1) (.int .i64 k) (.int .i64 n) (.slice vo i vc))
          generalize put3 wr (B + 1) (.int .i64 k) (.int .i64 n) (.slice vo i vc) = wf at *
          refine bodyPost_ret (by simp [results, Tryd.results59, go_sem, f0, f1, f2]; rfl) rfl ?_
          refine ⟨vo, i, ⟨vc, rfl⟩, HFIN.out.fr hf ?_, ?_⟩
          · intro j _ hj
            have hj' : j < N0 ∨ C < j := hj
            have h1 := HNC.out
            have h2 := HBE.out
            have h3 := HCW.out
            have h4 := HN0.out
            have h5 := HQ00.out.size
            exact ⟨by show j < w0.heap.size ∨ w.heap.size ≤ j; omega, fun h => by have h' : j = B + 1 := h; omega⟩
          · exact Fr.trans' (Fr.trans' HQW.out HFW.out (fun j hj h => by have h' : j = C := h; have h3 := HCW.out; omega)) hf (fun j hj h => by have h' : j = B + 1 := h; have := HBE.out; omega)
    · have hh : hit l k n = some t := by unfold hit; rw [hk, hi3]; rfl
      have e1 : sK l k n = t.2.1 := by unfold sK; rw [hh]
      have e2 : sN l k n = t.2.2.1 := by unfold sN; rw [hh]
      have e3 : sP l k n ps = t.2.2.2 := by unfold sP; rw [hh]
      rw [e1, e2, e3]
      rw [Nat.zero_add] at hi1
      rw [hi1] at HFN
      have hjl : (j : Int) < l.length := by have := (List.getElem?_eq_some_iff.1 hi2).1; omega
      have hj0 : (0 : Int) ≤ j := by omega
      have hjn : j < l.length := by omega
      have HI2 := Lib.hid hi2
      clear e1 e2 e3 hh hi1 hi2 hi3
      obtain ⟨uk, huk⟩ : ∃ uk, uk = t.2.1 := ⟨_, rfl⟩
      obtain ⟨un, hun⟩ : ∃ un, un = t.2.2.1 := ⟨_, rfl⟩
      rw [← huk, ← hun]
      have HUK := Lib.hid huk
      have HUN := Lib.hid hun
      clear huk hun
      unfold tyv
      go_enter Tryd.func59, Tryd.ntmps59
      go_upto_region 1 with fail
      rw [← hW1]
      clear hW1
      generalize hB : w.heap.size = B at *
      have HBE := Lib.hid hB
      clear hB
      obtain ⟨p0, p1, p2, _, _, _⟩ := box_cells3 HBT.out
      go_wp2_with fail
      refine (HFN.out _ HQ1.out).mono ?_; rintro e W2 ⟨rfl, hq2⟩
      have HQ2 := Lib.hid (HQ1.out.trans hq2)
      have HZ2 := Lib.hid (box_after HZ1.out hq2)
      clear p0 p1 p2
      obtain ⟨bb, off, o1, len1, cap1, rfl, e0, e1, e2, e3, hs1⟩ := (HBD.out.stay (HQ00.out.trans HQ2.out)) j t HI2.out
      obtain ⟨bb', off', o1', len1', cap1', hoo, _, _, _, f3, hs0⟩ := HBD.out j t HI2.out
      cases hoo
      have f3' := (HQ00.out.trans HQ2.out).at f3
      rw [e3] at f3'
      cases f3'
      have HSR : Hid (SlcIn (fun x => x < w0.heap.size) W2 o1 len1 t.2.2.2) := hs0.lt.fr (HQ00.out.trans HQ2.out) (fun x _ hx => ⟨hx, fun h => h⟩)
      obtain ⟨d0, d1, d2, y0, y1, y2⟩ := box_cells3 HZ2.out
      rw [← HUK.out] at e1
      rw [← HUN.out] at e2
      clear hq2 f3 hs0 hs1
      go_wp2_with fail
      clear d0 d1 d2 y0 y1 y2
      have hf := put3_fr W2 (B + 1) (.int .i64 uk) (.int .i64 un) (.slice o1 len1 cap1)
      obtain ⟨f0, f1, f2⟩ := put3_cells (a := .int .i64 uk) (b := .int .i64 un) (c := .slice o1 len1 cap1) HZ2.out
      change bodyPost _ _ _ _ _ (put3 W2 (B + 1) (.int .i64 uk) (.int .i64 un) (.slice o1 len1 cap1))
      generalize put3 W2 (B + 1) (.int .i64 uk) (.int .i64 un) (.slice o1 len1 cap1) = wf at *
      refine bodyPost_ret (by simp [results, Tryd.results59, go_sem, f0, f1, f2]; rfl) rfl ?_
      refine ⟨o1, len1, cap1, rfl, ?_, ?_⟩
      · exact HSR.out.fr hf (fun x _ hx => ⟨.inl hx, fun h => by have hx' : x < w0.heap.size := hx; have h' : x = B + 1 := h; have h1 := HQ00.out.size; have h2 := HBE.out; omega⟩)
      · exact Fr.trans' HQ2.out hf (fun j hj h => by have h' : j = B + 1 := h; have := HBE.out; omega)
end Go.Proofs.YtggidhgifaekbaaDoor
