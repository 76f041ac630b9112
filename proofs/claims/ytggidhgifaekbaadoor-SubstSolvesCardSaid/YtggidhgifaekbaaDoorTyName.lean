/-
  types' texts: bracket and Name. Conditions: a text is of a bounded length; the table of powers of ten holds what its initialiser lays.
-/
import Derived.Test.YtggidhgifaekbaaDoorTyRight2
import Derived.Test.YtggidhgifaekbaaDoorShelf
namespace Go.Proofs.YtggidhgifaekbaaDoor
open Go.RowKit

def brackL (b : Bool) (l : List UInt8) : List UInt8 := if b then 40 :: (l ++ [41]) else l
def tb (l : List UInt8) : ByteArray := ⟨l.toArray⟩
theorem tb_size (l : List UInt8) : (tb l).size = l.length := by simp [tb, ByteArray.size]
theorem tb_app (l m : List UInt8) : tb l ++ tb m = tb (l ++ m) := by
  apply ByteArray.ext
  simp [tb, ByteArray.data_append]
theorem bracket_any (b : Bool) (l : List UInt8) (hs : l.length ≤ 1000000000) (w : World) :
    Calls Tryd.prog 108 #[.bool b, .string (tb l)] w fun e w' => e = .returned (.string (tb (brackL b l))) ∧ w = w' := by
  have e1 : tb [40] ++ tb l ++ tb [41] = tb (brackL true l) := by rw [tb_app, tb_app]; rfl
  have e2 := tb_size l
  have e3 : (tb [40] ++ tb l).size = l.length + 1 := by rw [tb_app, tb_size]; simp
  have E1 := Lib.hid e1
  clear e1
  cases b
  · show Calls _ _ _ _ fun e w' => e = .returned (.string (tb l)) ∧ w = w'
    generalize tb l = s at *
    go_enter Tryd.func108, Tryd.ntmps108
    go_wp2_with fail
    go_ret
    exact ⟨rfl, rfl⟩
  · rw [← E1.out]
    generalize tb l = s at *
    have e4 : (⟨#[40]⟩ ++ s).size = l.length + 1 := e3
    clear E1 e3
    go_enter Tryd.func108, Tryd.ntmps108
    go_wp2_with fail
    go_ret
    exact ⟨rfl, rfl⟩
theorem encode_letter : ∀ k : Fin 26, Utf8.encode (97 + (k.val : Int)) = ⟨#[UInt8.ofNat (97 + k.val)]⟩ := by decide
/-- a variable's text -/
def nameL (n : Int) : List UInt8 := if 0 ≤ n ∧ n < 1073741824 then 39 :: UInt8.ofNat (97 + n.toNat % 26) :: (if n < 26 then [] else Lib.decDigits (n.toNat / 26)) else []
def Pow10 (w : World) : Prop := Lib.TabIs Tryd.prog w "internal/strconv.uint64pow10" .u64 Lib.pow10Tab
theorem name_no (n : Int) (h : ¬ (0 ≤ n ∧ n < 1073741824)) (w : World) : Calls Tryd.prog 107 #[.int .i64 n] w fun e w' => e = .returned (.string (tb (nameL n))) ∧ Quiet0 w w' := by
  have hk := Lib.hid (known_any n)
  have e1 : (decide ((0 : Int) ≤ n) && decide ((n : Int) < 1073741824)) = false := by simp; omega
  rw [e1] at hk
  have e2 : nameL n = [] := by unfold nameL; rw [if_neg h]
  rw [e2]
  go_enter Tryd.func107, Tryd.ntmps107
  go_wp2_with fail
  refine (hk.out _).mono ?_; rintro e w' ⟨rfl, rfl⟩
  go_wp2_with fail
  go_ret
  exact ⟨rfl, Quiet0.refl _⟩
theorem Fr.grow (S : Nat → Prop) (w : World) (os : Array Obj) : Fr S w (Go.Sort.grow w os) :=
  ⟨rfl, rfl, rfl, by simp [Go.Sort.grow], fun k hk _ => by simp [Go.Sort.grow, Array.getElem?_append_left hk]⟩
theorem name_walk (n r q : Int) (c : ByteArray) (h0 : 0 ≤ n) (h1 : n < 1073741824) (hm : n.tmod 26 = r) (hi0 : 0 ≤ r) (hi1 : r < 26) (hq : n.tdiv 26 = q) (hq0 : 0 ≤ q) (hq1 : q ≤ 100000000) (hc : Utf8.encode (97 + r) = c) (hcs : c.size = 1) (hd : (Lib.itoa q).length ≤ 1000000) (w : World) (ht : Pow10 w) :
    Calls Tryd.prog 107 #[.int .i64 n] w fun e w' => e = .returned (.string (if n < 26 then ⟨#[39]⟩ ++ c else ⟨#[39]⟩ ++ c ++ ⟨(Lib.itoa q).toArray⟩)) ∧ Quiet0 w w' := by
  have hk := Lib.hid (known_any n)
  have e1 : (decide ((0 : Int) ≤ n) && decide ((n : Int) < 1073741824)) = true := by simp; omega
  rw [e1] at hk
  clear e1
  have HT := Lib.hid ht
  clear ht
  by_cases hb : n < 26
  · have hb' : ¬ (26 : Int) ≤ n := by omega
    rw [if_pos hb]
    go_enter Tryd.func107, Tryd.ntmps107
    go_wp2_with fail
    refine (hk.out _).mono ?_; rintro e w' ⟨rfl, rfl⟩
    go_wp2_with fail
    go_ret
    exact ⟨rfl, Quiet0.refl _⟩
  · have hb' : (26 : Int) ≤ n := by omega
    rw [if_neg hb]
    have HI := Lib.hid (Tryd.strconv_Itoa q (by omega) (by omega))
    have hs2 : (⟨#[39]⟩ ++ c : ByteArray).size = 2 := by rw [ByteArray.size_append, hcs]; rfl
    have hs3 : (⟨(Lib.itoa q).toArray⟩ : ByteArray).size ≤ 1000000 := by simpa [ByteArray.size] using hd
    clear hd
    generalize (⟨(Lib.itoa q).toArray⟩ : ByteArray) = d at *
    go_enter Tryd.func107, Tryd.ntmps107
    go_wp2_with fail
    refine (hk.out _).mono ?_; rintro e w' ⟨rfl, rfl⟩
    go_wp2_with fail
    refine (HI.out _ HT.out).mono ?_; rintro e w' ⟨rfl, kk, os, rfl⟩
    go_wp2_with fail
    go_ret
    exact ⟨rfl, (Fr.drewN _ _ _).trans (Fr.grow _ _ _)⟩
theorem decDigits_len : ∀ (b m : Nat), m < 10 ^ b → (Lib.decDigits m).length ≤ b + 1
  | 0, m, h => by unfold Lib.decDigits; rw [dif_pos (by omega)]; simp
  | b + 1, m, h => by
    unfold Lib.decDigits
    by_cases hm : m < 10
    · rw [dif_pos hm]; simp
    · rw [dif_neg hm]
      have := decDigits_len b (m / 10) (by rw [Nat.pow_succ] at h; omega)
      simp; omega
theorem name_any (n : Int) (w : World) (ht : Pow10 w) : Calls Tryd.prog 107 #[.int .i64 n] w fun e w' => e = .returned (.string (tb (nameL n))) ∧ Quiet0 w w' := by
  by_cases h : 0 ≤ n ∧ n < 1073741824
  · obtain ⟨m, rfl⟩ := Int.eq_ofNat_of_zero_le h.1
    have hlen := decDigits_len 10 (m / 26) (by omega)
    have hit : Lib.itoa ((m / 26 : Nat) : Int) = Lib.decDigits (m / 26) := by unfold Lib.itoa; rw [if_neg (by omega)]; rfl
    refine (name_walk m ((m % 26 : Nat) : Int) ((m / 26 : Nat) : Int) ⟨#[UInt8.ofNat (97 + m % 26)]⟩ h.1 h.2 (by rw [Int.tmod_eq_emod_of_nonneg h.1]; rfl) (by omega) (by omega) (by rw [Int.tdiv_eq_ediv_of_nonneg h.1]; rfl) (by omega) (by omega) (encode_letter ⟨m % 26, by omega⟩) rfl (by rw [hit]; omega) w ht).mono ?_
    rintro e w' ⟨rfl, hq⟩
    refine ⟨?_, hq⟩
    suffices hs : (if (m : Int) < 26 then ⟨#[39]⟩ ++ ⟨#[UInt8.ofNat (97 + m % 26)]⟩ else ⟨#[39]⟩ ++ ⟨#[UInt8.ofNat (97 + m % 26)]⟩ ++ ⟨(Lib.itoa ((m / 26 : Nat) : Int)).toArray⟩ : ByteArray) = tb (nameL m) by rw [hs]
    rw [hit]
    unfold nameL
    rw [if_pos h]
    have e1 : (m : Int).toNat = m := rfl
    rw [e1]
    by_cases hb : (m : Int) < 26
    · rw [if_pos hb, if_pos hb]; rfl
    · rw [if_neg hb, if_neg hb]
      show tb [39] ++ tb [UInt8.ofNat (97 + m % 26)] ++ tb (Lib.decDigits (m / 26)) = _
      rw [tb_app, tb_app]; rfl
  · exact name_no n h w
theorem nameL_len (n : Int) : (nameL n).length ≤ 13 := by
  unfold nameL
  split
  · rename_i h
    split
    · simp
    · have := decDigits_len 10 (n.toNat / 26) (by omega)
      simp; omega
  · simp
end Go.Proofs.YtggidhgifaekbaaDoor
