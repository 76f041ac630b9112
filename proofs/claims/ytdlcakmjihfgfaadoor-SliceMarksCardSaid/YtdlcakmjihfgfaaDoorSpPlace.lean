/-
  span.Place, and the document's Place. Condition: the text is short.
-/
import Derived.Test.YtdlcakmjihfgfaaDoorSpMem
import Derived.Test.YtdlcakmjihfgfaaDoorShelf
import Derived.IntWalk
namespace Go.Proofs.YtdlcakmjihfgfaaDoor
open Go.RowKit Go.Shelf SpanPlain

/-- how many bytes are ahead -/
def aheadN (n : Nat) (i : Int) : Nat := (max 0 (min i (n : Int))).toNat
def lineN (s : ByteArray) (m : Nat) : Nat := Lib.countByte (s.data.toList.take m) 10
theorem lineN_le (s : ByteArray) (m : Nat) : lineN s m ≤ m := by
  unfold lineN Lib.countByte
  exact Nat.le_trans List.count_le_length (List.length_take_le _ _)
theorem lineN_zero (s : ByteArray) : lineN s 0 = 0 := by simp [lineN, Lib.countByte]
theorem lineN_step (s : ByteArray) (k : Nat) (h : k < s.size) : lineN s (k + 1) = lineN s k + if s[k] = 10 then 1 else 0 := by
  unfold lineN Lib.countByte
  have hk : s.data.toList[k]? = some s[k] := by
    rw [List.getElem?_eq_getElem (by simpa using h)]; rfl
  rw [List.take_add_one, hk, List.count_append]
  congr 1
  simp only [Option.toList_some, List.count_singleton]
  by_cases e : s[k] = 10
  · simp [e]
  · simp [e]
theorem byte_bang (s : ByteArray) (k : Nat) (h : k < s.size) : s.data[k]! = s[k] := by
  rw [getElem!_pos s.data k h]; rfl
theorem lastIdx_ext (s : ByteArray) (c : Int) (m : Nat) (hm : m ≤ s.size) : ∀ k, k ≤ m → Lib.lastIdx (s.extract 0 m) c k = Lib.lastIdx s c k
  | 0, _ => rfl
  | k + 1, hk => by
    have ih := lastIdx_ext s c m hm k (by omega)
    have e : (s.extract 0 m).data[k]! = s.data[k]! := by
      have hsz : (s.extract 0 m).size = m := by simp; omega
      rw [byte_bang (s.extract 0 m) k (by omega), byte_bang s k (by omega), ByteArray.getElem_extract]
      simp
    by_cases hc : ((s.data[k]!).toNat : Int) = c
    · rw [Lib.lastIdx_hit s c k hc, Lib.lastIdx_hit _ c k (by rw [e]; exact hc)]
    · rw [Lib.lastIdx_miss s c k hc, Lib.lastIdx_miss _ c k (by rw [e]; exact hc), ih]
theorem lastIdx_bd (s : ByteArray) (c : Int) : ∀ k : Nat, -1 ≤ Lib.lastIdx s c k ∧ Lib.lastIdx s c k < k
  | 0 => by simp [Lib.lastIdx]
  | k + 1 => by
    have ih := lastIdx_bd s c k
    by_cases hc : ((s.data[k]!).toNat : Int) = c
    · rw [Lib.lastIdx_hit s c k hc]; omega
    · rw [Lib.lastIdx_miss s c k hc]; omega
def PlacePost (s : ByteArray) (m : Nat) (w : World) (e : Ending) (w' : World) : Prop := e = .returned (.tuple #[.int .i64 ((lineN s m : Nat) + 1), .int .i64 ((m : Int) - Lib.lastIdx s 10 m)]) ∧ w = w'
set_option maxHeartbeats 1000000 in
theorem place_any (s : ByteArray) (i : Int) (w : World) (hs : s.size ≤ 1000000) :
    Calls Tryd.prog 28 #[.string s, .int .i64 i] w (PlacePost s (aheadN s.size i) w) := by
  have hm : max 0 (min i (s.size : Int)) = ((aheadN s.size i : Nat) : Int) := by unfold aheadN; omega
  have hms : aheadN s.size i ≤ s.size := by unfold aheadN; omega
  generalize aheadN s.size i = m at *
  have hms' : (m : Int) ≤ (s.size : Int) := by omega
  have hsz : (s.extract 0 m).size = m := by simp; omega
  have hC := Tryd.strings_Count_one (s.extract 0 m) 10 w
  have eC : Lib.countByte (s.extract 0 m).data.toList 10 = lineN s m := by
    unfold lineN
    congr 1
    rw [Lib.extract_data]; simp
  rw [eC] at hC
  have hL := Tryd.strings_LastIndexByte (s.extract 0 m) 10 (by rw [hsz]; omega) w
  have eL : Lib.lastIndexByte (s.extract 0 m) 10 = Lib.lastIdx s 10 m := by
    unfold Lib.lastIndexByte
    rw [hsz]
    exact lastIdx_ext s 10 m hms m (Nat.le_refl _)
  rw [eL] at hL
  have hln := lineN_le s m
  have hli := lastIdx_bd s 10 m
  have HC := Lib.hid hC
  have HL := Lib.hid hL
  unfold PlacePost
  clear hC hL eC eL
  generalize lineN s m = ln at *
  generalize Lib.lastIdx s 10 m = li at *
  obtain ⟨hl1, hl2⟩ := hli
  go_enter Tryd.func28, Tryd.ntmps28
  go_wp2_with fail
  refine HC.out.mono ?_; rintro e w1 ⟨rfl, rfl⟩
  go_wp2_with fail
  refine HL.out.mono ?_; rintro e w1 ⟨rfl, rfl⟩
  go_wp2_with fail
  go_ret2
  exact ⟨rfl, rfl⟩
set_option maxHeartbeats 1000000 in
theorem refPlace_any (s : ByteArray) (i : Int) (w : World) (hs : s.size ≤ 1000000) :
    Calls Tryd.prog 30 #[.string s, .int .i64 i] w (PlacePost s (aheadN s.size i) w) := by
  have hms : aheadN s.size i ≤ s.size := by unfold aheadN; omega
  have hmi : ∀ k : Nat, k < aheadN s.size i ↔ k < s.size ∧ (k : Int) < i := by unfold aheadN; intro k; omega
  have HMI := Lib.hid hmi
  clear hmi
  generalize aheadN s.size i = m at *
  unfold PlacePost
  go_enter Tryd.func30, Tryd.ntmps30
  go_wp2_with fail
  go_loop [6, 7, 8] (fun u v t => ∃ k : Nat, t = .int .i64 k ∧ k ≤ m ∧ u = .int .i64 ((lineN s k : Nat) + 1) ∧ v = .int .i64 ((k : Int) - Lib.lastIdx s 10 k)) (fun _ _ t => m - (intOf t).toNat)
  case atStart => exact ⟨0, rfl, Nat.zero_le _, by rw [lineN_zero]; rfl, by simp [Lib.lastIdx]⟩
  case round =>
    obtain ⟨k, rfl, hk, rfl, rfl⟩ := hrel
    have hln := lineN_le s k
    obtain ⟨hl1, hl2⟩ := lastIdx_bd s 10 k
    by_cases hlt : k < m
    · obtain ⟨hks, hki⟩ := (HMI.out k).1 hlt
      have hks' : (k : Int) < s.size := by omega
      have HS := Lib.hid (lineN_step s k hks)
      have HB := Lib.hid (byte_bang s k hks)
      by_cases hb : s[k] = 10
      · have HL : Hid (lineN s (k + 1) = lineN s k + 1) := by show _ = _; rw [HS.out, if_pos hb]
        have HI : Hid (Lib.lastIdx s 10 (k + 1) = k) := by
          show _ = _
          exact Lib.lastIdx_hit s 10 k (by rw [HB.out, hb]; rfl)
        obtain ⟨x, hx⟩ : ∃ x, s[k] = x := ⟨_, rfl⟩
        have hx10 : x = 10 := by rw [← hx]; exact hb
        have hxb : ((x.toNat : Int) == 10) = true := by rw [hx10]; rfl
        clear hb hx10 HS HB
        generalize lineN s k = ln at *
        generalize Lib.lastIdx s 10 k = li at *
        go_wp2_with fail
        go_round
        case rel => exact ⟨k + 1, by go_num, by omega, by rw [HL.out]; go_num, by rw [HI.out]; go_num⟩
        case measure => simp [intOf]; omega
      · have HL : Hid (lineN s (k + 1) = lineN s k) := by show _ = _; rw [HS.out, if_neg hb]; rfl
        have HI : Hid (Lib.lastIdx s 10 (k + 1) = Lib.lastIdx s 10 k) := by
          show _ = _
          refine Lib.lastIdx_miss s 10 k (fun h => hb ?_)
          rw [HB.out] at h
          apply UInt8.toNat_inj.1
          have : (s[k].toNat : Int) = ((10 : Nat) : Int) := h
          exact Int.ofNat_inj.1 this
        obtain ⟨x, hx⟩ : ∃ x, s[k] = x := ⟨_, rfl⟩
        have hxb : ((x.toNat : Int) == 10) = false := by
          rw [beq_eq_false_iff_ne]
          intro h
          apply hb
          rw [hx]
          apply UInt8.toNat_inj.1
          have : (x.toNat : Int) = ((10 : Nat) : Int) := h
          exact Int.ofNat_inj.1 this
        clear hb HS HB
        generalize lineN s k = ln at *
        generalize Lib.lastIdx s 10 k = li at *
        go_wp2_with fail
        go_round
        case rel => exact ⟨k + 1, by go_num, by omega, by rw [HL.out], by rw [HI.out]; go_num⟩
        case measure => simp [intOf]; omega
    · have hkm : k = m := by omega
      subst hkm
      by_cases h1 : k < s.size
      · have h1' : (k : Int) < s.size := by omega
        have h2 : ¬ (k : Int) < i := fun h => hlt ((HMI.out k).2 ⟨h1, h⟩)
        go_wp2_with fail
        go_ret2
        exact ⟨rfl, rfl⟩
      · have h1' : ¬ (k : Int) < s.size := by omega
        go_wp2_with fail
        go_ret2
        exact ⟨rfl, rfl⟩
end Go.Proofs.YtdlcakmjihfgfaaDoor
