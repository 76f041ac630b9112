/-
  Tokens as a text: the program's Print and the reference's. Conditions: the tokens' cells are as told; they are few, their texts short.
-/
import Derived.Test.YtaojlionebkcoaaDoorLexSame
namespace Go.Proofs.YtaojlionebkcoaaDoor
open Go.RowKit

/-- tokens that lie somewhere: kinds and texts -/
def GTok : Type := Int × ByteArray
def GToks (w : World) (o : Option Addr) (ts : List (Int × ByteArray)) : Prop := ∀ i t, ts[i]? = some t → ∃ b off, o = some ⟨b, off, none⟩ ∧ ∃ f u, w.cell? ⟨b, off + i * 4, none⟩ = some (.int .i64 t.1) ∧ w.cell? ⟨b, off + i * 4 + 1, none⟩ = some (.string t.2) ∧ w.cell? ⟨b, off + i * 4 + 2, none⟩ = some (.int .i64 f) ∧ w.cell? ⟨b, off + i * 4 + 3, none⟩ = some (.int .i64 u)
theorem GToks.stay {w w' : World} {o : Option Addr} {ts : List (Int × ByteArray)} (h : GToks w o ts) (hq : Quiet0 w w') : GToks w' o ts := by
  intro i t hi
  obtain ⟨b, off, ho, f, u, h1, h2, h3, h4⟩ := h i t hi
  have hb : b < w.heap.size := World.block_lt_of_cell? w _ h1
  exact ⟨b, off, ho, f, u, (hq.cellb hb (fun h => h)).trans h1, (hq.cellb hb (fun h => h)).trans h2, (hq.cellb hb (fun h => h)).trans h3, (hq.cellb hb (fun h => h)).trans h4⟩
def texts (ts : List (Int × ByteArray)) : List ByteArray := (ts.filter fun t => !(t.1 == 0)).map (·.2)
def printG (ts : List (Int × ByteArray)) : List UInt8 := Lib.join ((texts ts).map (·.data.toList)) [32]
theorem texts_take_succ {ts : List (Int × ByteArray)} {k : Nat} {t : Int × ByteArray} (h : ts[k]? = some t) : texts (ts.take (k + 1)) = texts (ts.take k) ++ (if t.1 == 0 then [] else [t.2]) := by
  unfold texts
  rw [List.take_add_one, h, List.filter_append, List.map_append]
  congr 1
  cases ht : (t.1 == 0) <;> simp [ht]
theorem texts_le (ts : List (Int × ByteArray)) : (texts ts).length ≤ ts.length := by
  unfold texts; rw [List.length_map]; exact List.length_filter_le _ _
theorem elemStr : Elem Tryd.prog 43 9 (.string ByteArray.empty) 1 16 :=
  ⟨Tryd.underlying43, by kernel_rfl, by decide, by decide⟩
theorem ownsRow_cap {w : World} {base : Nat} {e : TypeId} {size g n c : Nat} {xs : List Value} (h : w.ownsRow base e size (.slice (some ⟨g, 0, none⟩) n c) n xs) : n ≤ c := by
  rcases h.2 with ⟨h1, _⟩ | ⟨g', cap, cur, he, _, _, hc, _⟩
  · cases h1
  · injection he with h1 h2 h3; omega

set_option maxHeartbeats 2000000 in
theorem print_any (o : Option Addr) (n c : Nat) (ts : List (Int × ByteArray)) (w : World) (hT : GToks w o ts) (hn : ts.length = n) (hn5 : n ≤ 100000) (hlen : (printG ts).length ≤ 140737488355328) :
    Calls Tryd.prog 11 #[.slice o n c] w fun e w' => e = .returned (.string (toBA (printG ts))) ∧ Quiet0 w w' := by
  have HT := Lib.hid hT
  have HN := Lib.hid hn
  have HLEN := Lib.hid hlen
  clear hT hn hlen
  obtain ⟨B, hB⟩ : ∃ B, B = w.heap.size := ⟨_, rfl⟩
  have HBB := Lib.hid hB
  clear hB
  go_enter Tryd.func11, Tryd.ntmps11
  go_wp2_with fail
  go_loopw [3, 8] (fun v t wr => ∃ (k m : Nat) (vo : Option Addr) (vc : Nat), t = .int .i64 k ∧ k ≤ n ∧ v = .slice vo m vc ∧ m = (texts (ts.take k)).length ∧ wr.ownsRow 0 9 1 (.slice vo m vc) m ((texts (ts.take k)).map Value.string) ∧ (∀ g, (Value.slice vo m vc).ownBlock = some g → B ≤ g) ∧ Quiet0 w wr) (fun _ t _ => n - (intOf t).toNat)
  case atStart => exact ⟨0, 0, none, 0, rfl, Nat.zero_le _, rfl, rfl, World.ownsRow_nil _ _ _ _, (fun g hg => by cases hg), Quiet0.refl _⟩
  case round =>
    obtain ⟨k, m, vo, vc, rfl, hk, rfl, hm, hrow, hge, hq⟩ := hrel
    have HM := Lib.hid hm
    have HR := Lib.hid hrow
    have HG := Lib.hid hge
    have HQ := Lib.hid hq
    have hmk : m ≤ n := by
      have h1 := texts_le (ts.take k)
      have h2 := List.length_take_le k ts
      omega
    clear hm hrow hge hq
    by_cases hlt : k < n
    · have hlt' : (k : Int) < n := by omega
      obtain ⟨t, ht⟩ : ∃ t, ts[k]? = some t := ⟨_, List.getElem?_eq_getElem (by have := HN.out; omega)⟩
      obtain ⟨b, off, rfl, f, u, c0, c1, c2, c3⟩ := (HT.out.stay HQ.out) k t ht
      have HTT := Lib.hid (texts_take_succ ht)
      have HKT := Lib.hid ht
      clear ht
      obtain ⟨kd, tx⟩ := t
      simp only at c0 c1
      have hbl : b < wr.heap.size := World.block_lt_of_cell? wr _ c0
      cases hz : (kd == 0)
      · have hz' : (kd != 0) = true := by rw [bne, hz]; rfl
        have HZ := Lib.hid hz
        clear hz
        have HRA : ∀ cs, Hid ((wr.alloc (.cells cs 34)).ownsRow 0 9 1 (.slice vo m vc) m ((texts (ts.take k)).map Value.string)) := fun cs => HR.out.alloc _
        go_wp2_with (at_builtin; go_must (refine wpList_append_one _ rfl (.tmp 15) (.tmp 18) 43 rfl 9 _ 1 16 elemStr (.slice vo m vc) m ((texts (ts.take k)).map Value.string) rfl (HRA _).out #[.string tx] (by show Value.slice (some ⟨wr.heap.size + 1, 0, none⟩) 1 1 = _; simp) rfl ?c1 ?c2 ?c3 ?_))
        case c1 => simp [Value.oneCell']
        case c2 => unfold maxLen; omega
        case c3 => omega
        intro g c' w2 ho hf hg
        have HO : Hid (w2.ownsRow 0 9 1 (.slice (some ⟨g, 0, none⟩) (m + 1) c') (m + 1) ((texts (ts.take (k + 1))).map Value.string)) := by
          show World.ownsRow _ _ _ _ _ _ _
          rw [HTT.out, HZ.out]
          simpa using ho
        have HQ2 : Hid (Quiet0 w w2) := by
          exact Fr.trans' (HQ.out.trans (Quiet0.alloc wr (.cells #[.int .i64 kd, .string tx, .int .i64 f, .int .i64 u] 34))) hf (fun i hi h => absurd (HG.out i h) (by have := HBB.out; omega))
        have HG2 : Hid (∀ g', (Value.slice (some ⟨g, 0, none⟩) (m + 1) c').ownBlock = some g' → B ≤ g') := by
          intro g' h
          simp [Value.ownBlock] at h
          subst h
          rcases hg with h | h
          · exact HG.out _ h
          · have h1 := HQ.out.size
            have h2 := HBB.out
            have h3 : wr.heap.size + 1 ≤ g := by first | exact h | simpa using h
            omega
        have HML : Hid (m + 1 = (texts (ts.take (k + 1))).length) := by
          show _ = _
          rw [HTT.out, HZ.out]; simp; exact HM.out
        clear ho hf hg
        go_wp2_with fail
        go_roundw
        case rel => exact ⟨k + 1, m + 1, some ⟨g, 0, none⟩, c', by go_num, by omega, rfl, HML.out, HO.out, HG2.out, HQ2.out⟩
        case measure => simp [intOf]; omega
      · have hz' : (kd != 0) = false := by rw [bne, hz]; rfl
        have HZ := Lib.hid hz
        clear hz
        go_wp2_with fail
        go_roundw
        case rel =>
          refine ⟨k + 1, m, vo, vc, by go_num, by omega, rfl, ?_, ?_, HG.out, HQ.out.trans (Quiet0.alloc _ _)⟩
          · rw [HTT.out, HZ.out]; simp; exact HM.out
          · rw [HTT.out, HZ.out]; simp only [if_true, List.append_nil]; exact HR.out.alloc _
        case measure => simp [intOf]; omega
    · have hkn : k = n := by omega
      subst hkn
      have hlt' : ¬ (k : Int) < k := by omega
      have HTK : Hid (ts.take k = ts) := by show _ = _; rw [List.take_of_length_le (by have := HN.out; omega)]
      rw [HTK.out] at HM HR
      by_cases hm0 : m = 0
      · subst hm0
        have HP : Hid (printG ts = []) := by
          show _ = _
          have : texts ts = [] := List.eq_nil_of_length_eq_zero HM.out.symm
          unfold printG; rw [this]; rfl
        go_wp2_with fail
        refine (Tryd.strings_Join_none vo vc _ _).mono ?_; rintro e w2 ⟨rfl, rfl⟩
        go_wp2_with fail
        go_ret
        exact ⟨by rw [HP.out]; rfl, HQ.out⟩
      · obtain ⟨g, hvo⟩ : ∃ g, vo = some ⟨g, 0, none⟩ := by
          rcases HR.out.2 with ⟨h1, h2⟩ | ⟨g, cap, cur, he, _⟩
          · exact absurd h2 hm0
          · injection he with h1 h2 h3; exact ⟨g, h1⟩
        subst hvo
        have hcap := ownsRow_cap HR.out
        have hgl := (HR.out.lt g rfl).2
        have hcells : ∀ (j : Nat) x, (texts ts)[j]? = some x → wr.cell? ⟨g, 0 + j, none⟩ = some (.string x) := by
          intro j x hx
          have := HR.out.cells (g := g) rfl j (.string x) (by rw [List.getElem?_map, hx]; rfl)
          simpa [Addr.add_lit] using this
        have hJ := Tryd.strings_Join g 0 vc (texts ts) ⟨#[32]⟩ wr hcells hgl (by have := HM.out; omega) (by rw [← HM.out]; exact hcap) HLEN.out
        rw [← HM.out] at hJ
        have HJ := Lib.hid hJ
        clear hJ hcells hm0
        go_wp2_with fail
        refine HJ.out.mono ?_; rintro e w2 ⟨rfl, hb⟩
        have HB2 := Lib.hid (Quiet0.of_below hb)
        clear hb
        go_wp2_with fail
        go_ret
        exact ⟨rfl, HQ.out.trans HB2.out⟩

/-- as the reference makes it: from the left -/
def prR : Bool → List UInt8 → List (Int × ByteArray) → List UInt8
  | _, s, [] => s
  | first, s, t :: r => if t.1 == 0 then prR first s r else prR false ((if first then s else s ++ [32]) ++ t.2.data.toList) r
theorem prR_false (s : List UInt8) : ∀ ts : List (Int × ByteArray), prR false s ts = s ++ Lib.joinTail [32] ((texts ts).map (·.data.toList)) := by
  intro ts
  induction ts generalizing s with
  | nil => simp [prR, texts, Lib.joinTail]
  | cons t r ih =>
    unfold prR
    cases ht : (t.1 == 0)
    · simp only [Bool.false_eq_true, if_false]
      rw [ih]
      simp [texts, ht, Lib.joinTail]
    · simp only [if_true]
      rw [ih]
      simp [texts, ht]
theorem prR_true : ∀ ts : List (Int × ByteArray), prR true [] ts = printG ts := by
  intro ts
  induction ts with
  | nil => rfl
  | cons t r ih =>
    unfold prR
    cases ht : (t.1 == 0)
    · simp only [Bool.false_eq_true, if_false, if_true, List.nil_append]
      rw [prR_false]
      unfold printG
      have : (texts (t :: r)).map (·.data.toList) = t.2.data.toList :: (texts r).map (·.data.toList) := by simp [texts, ht]
      rw [this, Lib.join_cons]
    · simp only [if_true]
      rw [ih]
      simp [printG, texts, ht]
theorem prR_len : ∀ (first : Bool) (s : List UInt8) (ts : List (Int × ByteArray)), s.length ≤ (prR first s ts).length
  | _, s, [] => Nat.le_refl _
  | first, s, t :: r => by
    unfold prR
    cases ht : (t.1 == 0)
    · simp only [Bool.false_eq_true, if_false]
      refine Nat.le_trans ?_ (prR_len false _ r)
      cases first <;> simp
    · simp only [if_true]; exact prR_len first s r
theorem drop_some {α : Type} {l : List α} {k : Nat} {t : α} (h : l[k]? = some t) : l.drop k = t :: l.drop (k + 1) := by
  obtain ⟨hl, rfl⟩ := List.getElem?_eq_some_iff.1 h
  exact List.drop_eq_getElem_cons hl

set_option maxHeartbeats 2000000 in
theorem refPrint_any (o : Option Addr) (n c : Nat) (ts : List (Int × ByteArray)) (w : World) (hT : GToks w o ts) (hn : ts.length = n) (hn5 : n ≤ 100000) (hlen : (printG ts).length ≤ 1000000) :
    Calls Tryd.prog 16 #[.slice o n c] w fun e w' => e = .returned (.string (toBA (printG ts))) ∧ w = w' := by
  have HT := Lib.hid hT
  have HN := Lib.hid hn
  have HLEN := Lib.hid hlen
  clear hT hn hlen
  go_enter Tryd.func16, Tryd.ntmps16
  go_wp2_with fail
  go_loop [3, 4, 5] (fun sv fv t => ∃ (k : Nat) (s : ByteArray) (first : Bool), t = .int .i64 k ∧ k ≤ n ∧ sv = .string s ∧ fv = .bool first ∧ prR first s.data.toList (ts.drop k) = printG ts) (fun _ _ t => n - (intOf t).toNat)
  case atStart => exact ⟨0, ⟨#[]⟩, true, rfl, Nat.zero_le _, rfl, rfl, by rw [List.drop_zero]; exact prR_true ts⟩
  case round =>
    obtain ⟨k, s, first, rfl, hk, rfl, rfl, hp⟩ := hrel
    have HP := Lib.hid hp
    clear hp
    by_cases hlt : k < n
    · have hlt' : (k : Int) < n := by omega
      obtain ⟨t, ht⟩ : ∃ t, ts[k]? = some t := ⟨_, List.getElem?_eq_getElem (by have := HN.out; omega)⟩
      obtain ⟨b, off, rfl, f, u, c0, c1, c2, c3⟩ := HT.out k t ht
      have HD := Lib.hid (drop_some ht)
      clear ht
      obtain ⟨kd, tx⟩ := t
      simp only at c0 c1
      cases hz : (kd == 0)
      · have HZ := Lib.hid hz
        have HPL : Hid (prR false ((if first then s.data.toList else s.data.toList ++ [32]) ++ tx.data.toList) (ts.drop (k + 1)) = printG ts) := by
          show _ = _
          rw [← HP.out, HD.out]; simp [prR, HZ.out]
        have hsz := prR_len false ((if first then s.data.toList else s.data.toList ++ [32]) ++ tx.data.toList) (ts.drop (k + 1))
        rw [HPL.out] at hsz
        have hl := HLEN.out
        rw [List.length_append] at hsz
        cases first
        · simp only [Bool.false_eq_true, if_false, List.length_append, bytes_length, List.length_cons, List.length_nil] at hsz
          have hs1 : s.size ≤ 1000000 := by omega
          have hs2 : tx.size ≤ 1000000 := by omega
          clear hsz hl
          go_wp2_with fail
          go_round
          case rel => exact ⟨k + 1, s ++ ⟨#[32]⟩ ++ tx, false, by go_num, by omega, rfl, rfl, by rw [← HPL.out]; congr 1; (first | done | simp)⟩
          case measure => simp [intOf]; omega
        · simp only [if_true, bytes_length] at hsz
          have hs1 : s.size ≤ 1000000 := by omega
          have hs2 : tx.size ≤ 1000000 := by omega
          clear hsz hl
          go_wp2_with fail
          go_round
          case rel => exact ⟨k + 1, s ++ tx, false, by go_num, by omega, rfl, rfl, by rw [← HPL.out]; congr 1; (first | done | simp)⟩
          case measure => simp [intOf]; omega
      · have HZ := Lib.hid hz
        go_wp2_with fail
        go_round
        case rel => exact ⟨k + 1, s, first, by go_num, by omega, rfl, rfl, by rw [← HP.out, HD.out]; simp [prR, HZ.out]⟩
        case measure => simp [intOf]; omega
    · have hlt' : ¬ (k : Int) < n := by omega
      have HE : Hid (s.data.toList = printG ts) := by
        show _ = _
        rw [← HP.out, List.drop_eq_nil_of_le (by have := HN.out; omega)]; rfl
      go_wp2_with fail
      go_ret
      exact ⟨by rw [← HE.out, toBA_of]; rfl, rfl⟩
end Go.Proofs.YtaojlionebkcoaaDoor
