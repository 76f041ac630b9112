/-
  Texts laid together (ScNm, ScIdx, TyRef, TySame, TyRight, TyRight2): what each one proves, and its conditions, stands at its head.
-/
import Derived.ArgAppend
import Derived.Deep.RegionLawGrows
import Derived.StillTailTactics
import Derived.BigQuiet
import Derived.Shelf.Abstract
import Derived.Test.YtnfodiedalhlhaaDoorSA1
import Derived.Test.YtnfodiedalhlhaaDoorSA2
section
/-
  Names in memory, the nearest one last: what is around a term. No condition.
-/
namespace Go.Proofs.YtnfodiedalhlhaaDoor
open Go.RowKit
namespace Sc

/-- a row of names, in a block of which T is so: e has the nearest first, memory has it last -/
def NmIn (T : Nat → Prop) (w : World) (o : Option Addr) (n : Nat) (e : List ByteArray) : Prop :=
  n = e.length ∧ n ≤ maxLen ∧ (0 < n → ∃ b, o = some ⟨b, 0, none⟩ ∧ T b ∧ ∀ i s, e.reverse[i]? = some s → w.cell? ⟨b, i, none⟩ = some (.string s))
theorem NmIn.nil (T : Nat → Prop) (w : World) (o : Option Addr) : NmIn T w o 0 [] := ⟨rfl, Nat.zero_le _, fun h => absurd h (Nat.lt_irrefl _)⟩
theorem NmIn.lt {T : Nat → Prop} {w : World} {b n : Nat} {e : List ByteArray} (h : NmIn T w (some ⟨b, 0, none⟩) n e) (hn : 0 < n) : b < w.heap.size ∧ T b := by
  obtain ⟨b', he, ht, hc⟩ := h.2.2 hn
  injection he with he; injection he with he
  subst he
  have hl : 0 < e.reverse.length := by simp; have := h.1; omega
  exact ⟨World.block_lt_of_cell? w _ (hc 0 _ (List.getElem?_eq_getElem hl)), ht⟩
theorem NmIn.fr {T T' S : Nat → Prop} {w w' : World} {o : Option Addr} {n : Nat} {e : List ByteArray} (h : NmIn T w o n e) (hf : Fr S w w') (hT : ∀ k, k < w.heap.size → T k → T' k ∧ ¬ S k) : NmIn T' w' o n e := by
  refine ⟨h.1, h.2.1, fun hn => ?_⟩
  obtain ⟨b, he, ht, hc⟩ := h.2.2 hn
  subst he
  have hl := (h.lt hn).1
  obtain ⟨h1, h2⟩ := hT b hl ht
  exact ⟨b, rfl, h1, fun i s hi => (hf.cellb hl h2).trans (hc i s hi)⟩
theorem NmIn.stay {T : Nat → Prop} {w w' : World} {o : Option Addr} {n : Nat} {e : List ByteArray} (h : NmIn T w o n e) (hq : Quiet0 w w') : NmIn T w' o n e := h.fr hq (fun _ _ hk => ⟨hk, fun h => h⟩)
/-- the i-th nearest one -/
theorem NmIn.at {T : Nat → Prop} {w : World} {o : Option Addr} {n : Nat} {e : List ByteArray} (h : NmIn T w o n e) {i : Nat} {s : ByteArray} (hi : e[i]? = some s) : ∃ b, o = some ⟨b, 0, none⟩ ∧ w.cell? ⟨b, n - 1 - i, none⟩ = some (.string s) := by
  have hl := (List.getElem?_eq_some_iff.1 hi).1
  obtain ⟨b, he, _, hc⟩ := h.2.2 (by have := h.1; omega)
  refine ⟨b, he, hc _ s ?_⟩
  rw [List.getElem?_reverse (by have := h.1; omega), h.1]
  rw [← hi]; congr 1; omega
/-- one more name: the nearest -/
theorem NmIn.of_own {T : Nat → Prop} {w : World} {base g n c : Nat} {e : List ByteArray} {s : ByteArray} (ho : w.ownsRow base 9 1 (.slice (some ⟨g, 0, none⟩) n c) n (e.reverse.map Value.string ++ [.string s])) (hn : n = e.length + 1) (hm : n ≤ maxLen) (ht : T g) : NmIn T w (some ⟨g, 0, none⟩) n (s :: e) := by
  refine ⟨by simpa using hn, hm, fun _ => ⟨g, rfl, ht, fun i u hi => ?_⟩⟩
  have hx : (e.reverse.map Value.string ++ [.string s])[i]? = some (.string u) := by
    have : e.reverse.map Value.string ++ [Value.string s] = ((s :: e).reverse).map Value.string := by simp
    rw [this, List.getElem?_map, hi]; rfl
  have := ho.cells (g := g) rfl i (.string u) hx
  simpa [Addr.add_lit] using this
theorem elemStr : Elem Tryd.prog 40 9 (.string ⟨#[]⟩) 1 16 :=
  ⟨Tryd.underlying40, by kernel_rfl, by decide, by decide⟩
theorem NmIn.none {T : Nat → Prop} {w : World} {n : Nat} {e : List ByteArray} (h : NmIn T w none n e) : n = 0 := by
  rcases Nat.eq_zero_or_pos n with h0 | h0
  · exact h0
  · obtain ⟨b, he, _⟩ := h.2.2 h0; cases he
theorem names_cells {T : Nat → Prop} {w : World} {o : Option Addr} {n : Nat} {e : List ByteArray} (h : NmIn T w o n e) : ∀ b, o = some b → ∀ j u, (e.reverse.map Value.string)[j]? = some u → w.cell? (b.add j) = some u := by
  rintro b rfl j u hj
  have hl := (List.getElem?_eq_some_iff.1 hj).1
  obtain ⟨b', he, _, hc⟩ := h.2.2 (by have := h.1; simp at hl; omega)
  injection he with he
  subst he
  rw [List.getElem?_map] at hj
  obtain ⟨s, hs, rfl⟩ := Option.map_eq_some_iff.1 hj
  rw [Addr.add_lit, Nat.zero_add]
  exact hc j s hs
/-- one name more, in a row of its own, of what is clipped -/
theorem wpList_append_name {ops : Array Oper} {rest : List Oper} {o : Oper} {a : Act} {Q : Exit → Act → World → Prop} (W : World) (hgd : o.guard = none) (s x : Operand)
    (hop : o.op = Op.call { callee := Callee.builtin Builtin.append, args := #[s, x], argTypes := #[40, 40] }) {T : Nat → Prop} {ao : Option Addr} {n : Nat} {e : List ByteArray} (hN : NmIn T W ao n e) (str : ByteArray)
    (hs : a.eval s = .slice ao n n) (hx : a.eval x = .slice (some ⟨W.heap.size, 0, none⟩) 1 1) (b1 : n + 1 ≤ 1000000)
    (hK : ∀ g c w', NmIn (fun k => W.heap.size ≤ k) w' (some ⟨g, 0, none⟩) (n + 1) (str :: e) → Quiet0 W w' → wpList Tryd.prog ops Q rest (a.put o.dst (.slice (some ⟨g, 0, none⟩) (n + 1) c)) w') :
    wpList Tryd.prog ops Q (o :: rest) a (W.alloc (.cells #[.string str] 9)) := by
  obtain ⟨i0, hi, hz0, hz1, hz2⟩ := info_parts elemStr.info
  have hN2 := hN.stay (Quiet0.alloc W (.cells #[.string str] 9))
  refine wpList_append_grows (W.alloc (.cells #[.string str] 9)) hgd s x 40 hop 9 i0 (.string ⟨#[]⟩) 1 16 elemStr.under hi hz0 hz1 hz2 elemStr.cells elemStr.pos ao n n (e.reverse.map Value.string) hs
    (fun h => by subst h; exact ⟨hN.none, hN.none⟩) (by simp [hN.1]) (names_cells hN2) ⟨W.heap.size, 0, none⟩ 1 1 [.string str] hx rfl ?_ (by simp [Value.oneCell']) (by omega) (by unfold maxLen; omega) (by omega) ?_
  · intro j u hu
    rw [Addr.add_lit, cell_of_row (W.alloc (.cells #[.string str] 9)) W.heap.size (0 + j) #[.string str] 9 (0, 0) (heap_alloc_new W _)]
    simpa using hu
  · intro v' w' hown hgr
    obtain ⟨g, c, rfl, hb, _⟩ := hown.form (by omega)
    simp at hb
    exact hK g c w' (NmIn.of_own hown (by rw [hN.1]) (by unfold maxLen; omega) (by omega)) ((Quiet0.alloc _ _).trans (Fr.grown hgr (fun k hk => by cases hk)))
theorem ix_take {e : List ByteArray} {s : ByteArray} {i : Nat} (hn : s ∉ e.take i) (hi : e.length ≤ i) : ix e s = -1 := ixE_miss (by rwa [List.take_of_length_le hi] at hn)
theorem take_no {e : List ByteArray} {s a : ByteArray} {i : Nat} (hn : s ∉ e.take i) (hi : e[i]? = some a) (ha : a ≠ s) : s ∉ e.take (i + 1) := by
  rw [List.take_add_one, hi]
  simp only [Option.toList_some, List.mem_append, List.mem_singleton, not_or]
  exact ⟨hn, fun h => ha h.symm⟩
theorem str_eq {a s : ByteArray} : (a.toList == s.toList) = true ↔ a = s := by
  rw [beq_iff_eq]
  constructor
  · intro h
    rw [ByteArray.toList_eq, ByteArray.toList_eq] at h
    exact ByteArray.ext (Array.toList_inj.1 h)
  · intro h; rw [h]
end Sc
end Go.Proofs.YtnfodiedalhlhaaDoor
end
section
/-
  scope.binds, scope.index, slices.Clip of names; the document's Index. Condition: the names lie in memory as told.
-/
namespace Go.Proofs.YtnfodiedalhlhaaDoor
open Go.RowKit
namespace Sc

theorem binds_any (k : Int) (i : Nat) (w : World) : Calls Tryd.prog 47 #[.int .i64 k, .int .i64 (i : Nat)] w fun e w' => e = .returned (.bool (bindsB k i)) ∧ w = w' := by
  unfold bindsB
  have e1 : ((i : Int) == 1) = (i == 1) := by rw [Bool.eq_iff_iff, beq_iff_eq, beq_iff_eq]; omega
  generalize (i == 1) = r at *
  cases h4 : (k == 4)
  · cases h7 : (k == 7)
    · cases h6 : (k == 6)
      · go_enter Tryd.func47, Tryd.ntmps47
        go_wp2_with fail
        go_ret
        exact ⟨rfl, rfl⟩
      · go_enter Tryd.func47, Tryd.ntmps47
        go_wp2_with fail
        go_ret
        exact ⟨by simp, rfl⟩
    · go_enter Tryd.func47, Tryd.ntmps47
      go_wp2_with fail
      go_ret
      exact ⟨rfl, rfl⟩
  · go_enter Tryd.func47, Tryd.ntmps47
    go_wp2_with fail
    go_ret
    exact ⟨rfl, rfl⟩
theorem clip_any (o : Option Addr) (n c : Nat) (w : World) (hc : n ≤ c) (_ : o = none → n = 0) : Calls Tryd.prog 55 #[.slice o n c] w fun e w' => e = .returned (.slice o n n) ∧ w = w' := by
  go_enter Tryd.func55, Tryd.ntmps55
  go_wp2_with fail
  go_ret
  exact ⟨rfl, rfl⟩
set_option maxHeartbeats 1000000 in
theorem index_any (T : Nat → Prop) (e : List ByteArray) (s : ByteArray) (o : Option Addr) (n c : Nat) (w : World) (h : NmIn T w o n e) (hz : n ≤ 1000000) : Calls Tryd.prog 53 #[.slice o n c, .string s] w fun x w' => x = .returned (.int .i64 (ix e s)) ∧ w = w' := by
  have H := Lib.hid h
  have HN := Lib.hid h.1
  clear h
  go_enter Tryd.func53, Tryd.ntmps53
  go_wp2_with fail
  go_loopw [8] (fun t wr => ∃ i : Nat, t = .int .i64 i ∧ i ≤ n ∧ s ∉ e.take i ∧ w = wr) (fun t _ => n - (intOf t).toNat)
  case atStart => exact ⟨0, rfl, Nat.zero_le _, by simp, rfl⟩
  case round =>
    obtain ⟨i, rfl, hi, hns, rfl⟩ := hrel
    by_cases hlt : i < n
    · have hlt' : (i : Int) < n := by omega
      obtain ⟨a, ha⟩ : ∃ a, e[i]? = some a := ⟨_, List.getElem?_eq_getElem (by have := HN.out; omega)⟩
      obtain ⟨b, rfl, c0⟩ := H.out.at ha
      have hidx : ((n : Int) - 1 - i) = ((n - 1 - i : Nat) : Int) := by omega
      have hb1 : (0 : Int) ≤ (n : Int) - 1 - i := by omega
      have hb2 : (n : Int) - 1 - i < n := by omega
      have HNS := Lib.hid hns
      have HA := Lib.hid ha
      clear hns ha
      cases hx : (a.toList == s.toList)
      · go_wp2_with fail
        go_roundw
        case rel => exact ⟨i + 1, by go_num, by omega, take_no HNS.out HA.out (fun e => by rw [str_eq.2 e] at hx; cases hx), trivial⟩
        case measure => simp [intOf]; omega
      · have HR : Hid (ix e s = i) := ixE_hit (by rw [← str_eq.1 hx]; exact HA.out) HNS.out
        go_wp2_with fail
        go_ret
        exact ⟨by first | (rw [HR.out]; done) | (rw [HR.out]; rfl), rfl⟩
    · have hlt' : ¬ (i : Int) < n := by omega
      have HR : Hid (ix e s = -1) := ix_take hns (by have := HN.out; omega)
      clear hns
      go_wp2_with fail
      go_ret
      exact ⟨by first | (rw [HR.out]; done) | (rw [HR.out]; rfl), rfl⟩
theorem ix_rev {e : List ByteArray} {s : ByteArray} {i : Nat} (hn : s ∉ e.take i) (h : e.length ≤ i) : ix e s = -1 := ix_take hn h
set_option maxHeartbeats 1000000 in
theorem refIndex_any (T : Nat → Prop) (e : List ByteArray) (s : ByteArray) (o : Option Addr) (n c : Nat) (w : World) (h : NmIn T w o n e) (hz : n ≤ 1000000) : Calls Tryd.prog 20 #[.slice o n c, .string s] w fun x w' => x = .returned (.int .i64 (ix e s)) ∧ w = w' := by
  have H := Lib.hid h
  have HN := Lib.hid h.1
  clear h
  go_enter Tryd.func20, Tryd.ntmps20
  go_wp2_with fail
  go_loopw [5] (fun t wr => ∃ (i : Nat) (p : Int), t = .int .i64 p ∧ p = (n : Int) - 1 - i ∧ i ≤ n ∧ s ∉ e.take i ∧ w = wr) (fun t _ => (intOf t + 1).toNat)
  case atStart => exact ⟨0, (n : Int) - 1, rfl, by omega, Nat.zero_le _, by simp, rfl⟩
  case round =>
    obtain ⟨i, p, rfl, hp, hi, hns, rfl⟩ := hrel
    by_cases hlt : i < n
    · have hp0 : (0 : Int) ≤ p := by omega
      have hp0' : p ≥ 0 := hp0
      have hpn : p < n := by omega
      obtain ⟨q, hq⟩ : ∃ q : Nat, p = q := ⟨p.toNat, by omega⟩
      subst hq
      obtain ⟨a, ha⟩ : ∃ a, e[i]? = some a := ⟨_, List.getElem?_eq_getElem (by have := HN.out; omega)⟩
      obtain ⟨b, rfl, c0⟩ := H.out.at ha
      rw [show n - 1 - i = q from by omega] at c0
      have hidx : (n : Int) - 1 - q = i := by omega
      have HNS := Lib.hid hns
      have HA := Lib.hid ha
      have HP := Lib.hid hp
      clear hns ha hp
      cases hx : (a.toList == s.toList)
      · go_wp2_with fail
        go_roundw
        case rel => exact ⟨i + 1, (q : Int) - 1, rfl, by have := HP.out; omega, by omega, take_no HNS.out HA.out (fun e => by rw [str_eq.2 e] at hx; cases hx), trivial⟩
        case measure => simp [intOf] <;> omega
      · have HR : Hid (ix e s = i) := ixE_hit (by rw [← str_eq.1 hx]; exact HA.out) HNS.out
        go_wp2_with fail
        go_ret
        exact ⟨by first | (rw [HR.out]; done) | (rw [HR.out]; rfl), rfl⟩
    · have hp0 : ¬ (0 : Int) ≤ p := by omega
      have hp0' : ¬ p ≥ 0 := hp0
      have HR : Hid (ix e s = -1) := ix_take hns (by have := HN.out; omega)
      clear hns hp
      go_wp2_with fail
      go_ret
      exact ⟨by first | (rw [HR.out]; done) | (rw [HR.out]; rfl), rfl⟩
end Sc
end Go.Proofs.YtnfodiedalhlhaaDoor
end
section
/-
  The reference on types (Size, Depth, Same, Right, In) and the law's bound (room, Great). Conditions: the types lie in memory as told; where numbers are added up, there are few types.
-/
namespace Go.Proofs.YtnfodiedalhlhaaDoor
open Go.RowKit

theorem ret_int {k : IntKind} {a b : Int} (h : a = b) : Ending.returned (.int k a) = .returned (.int k b) := by rw [h]

/-- numbers in a row -/
def IntsAt (w : World) (o : Option Addr) (l : List Int) : Prop := ∀ i x, l[i]? = some x → ∃ b off, o = some ⟨b, off, none⟩ ∧ w.cell? ⟨b, off + i, none⟩ = some (.int .i64 x)
theorem IntsAt.stay {w w' : World} {o : Option Addr} {l : List Int} (h : IntsAt w o l) (hq : Quiet0 w w') : IntsAt w' o l := by
  intro i x hi
  obtain ⟨b, off, ho, hc⟩ := h i x hi
  exact ⟨b, off, ho, hq.at hc⟩
theorem drop_some {α : Type} {l : List α} {k : Nat} {t : α} (h : l[k]? = some t) : l.drop k = t :: l.drop (k + 1) := by
  obtain ⟨hl, rfl⟩ := List.getElem?_eq_some_iff.1 h
  exact List.drop_eq_getElem_cons hl
set_option maxHeartbeats 1000000 in
theorem refIn_any (o : Option Addr) (len cap : Nat) (l : List Int) (v : Int) (w : World) (h : IntsAt w o l) (hl : len = l.length) (hb : len ≤ 1000000) :
    Calls Tryd.prog 104 #[.slice o len cap, .int .i64 v] w fun e w' => e = .returned (.bool (inB l v)) ∧ w = w' := by
  have H := Lib.hid h
  have HL := Lib.hid hl
  clear h hl
  go_enter Tryd.func104, Tryd.ntmps104
  go_wp2_with fail
  go_loop [5] (fun t => ∃ i : Nat, t = .int .i64 i ∧ i ≤ len ∧ inB l v = inB (l.drop i) v) (fun t => len - (intOf t).toNat)
  case atStart => exact ⟨0, rfl, Nat.zero_le _, rfl⟩
  case round =>
    obtain ⟨i, rfl, hi, hc⟩ := hrel
    have HC := Lib.hid hc
    clear hc
    by_cases hlt : i < len
    · have hlt' : (i : Int) < len := by omega
      obtain ⟨x, hx⟩ : ∃ x, l[i]? = some x := ⟨_, List.getElem?_eq_getElem (by have := HL.out; omega)⟩
      obtain ⟨b, off, rfl, c⟩ := H.out i x hx
      have HD := Lib.hid (drop_some hx)
      clear hx
      cases hxv : (x == v)
      · have HX : Hid ((v == x) = false) := by
          show _ = _
          rw [beq_eq_false_iff_ne] at hxv ⊢; exact fun h => hxv h.symm
        go_wp2_with fail
        go_round
        case rel => exact ⟨i + 1, by go_num, by omega, by rw [HC.out, HD.out, inB_cons, HX.out]; rfl⟩
        case measure => simp [intOf]; omega
      · have HX : Hid (v = x) := by show _ = _; exact (beq_iff_eq.1 hxv).symm
        go_wp2_with fail
        go_ret
        exact ⟨by rw [HC.out, HD.out, inB_cons, HX.out]; simp, rfl⟩
    · have hlt' : ¬ (i : Int) < len := by omega
      go_wp2_with fail
      go_ret
      exact ⟨by rw [HC.out, List.drop_eq_nil_of_le (by have := HL.out; omega)]; rfl, rfl⟩

/-- the law's room -/
def LRoom (k n : Int) (ps : Fo) : Prop := ∀ (w : World) (o : Option Addr) (len cap : Nat) (d : Nat) (m : Int) (di : Int), di = d → Slc w o len ps → 0 ≤ m → m ≤ 100000 → d ≤ 100000 →
  Calls Tryd.prog 103 #[tyv k n o len cap, .int .i64 m, .int .i64 di] w fun e w' => e = .returned (.int .i64 (if d = 0 then -1 else Fo.room (d - 1) (m - 1) ps)) ∧ Quiet0 w w'
set_option maxHeartbeats 2000000 in
theorem room_any (k n : Int) (ps : Fo) : LRoom k n ps := by
  refine Fo.ind' (T := LRoom) ?_ k n ps
  intro k n ps ih w o len cap d m di ed hs hm0 hm1 hd1
  subst ed
  have HS := Lib.hid hs
  have IH := Lib.hid ih
  have HL := Lib.hid hs.1
  have hmx := hs.2.1
  unfold maxLen at hmx
  clear hs ih
  by_cases hd0 : d = 0
  · subst hd0
    unfold tyv
    go_enter Tryd.func103, Tryd.ntmps103
    go_wp2_with fail
    go_ret
    exact ⟨rfl, Quiet0.alloc _ _⟩
  · obtain ⟨D, hD⟩ : ∃ D, D = d - 1 := ⟨_, rfl⟩
    have hd0' : ((d : Int) == 0) = false := by simp; omega
    have hdD : d = D + 1 := by omega
    obtain ⟨res, hres⟩ : ∃ res, res = Fo.room D (m - 1) ps := ⟨_, rfl⟩
    have HRES := Lib.hid hres
    have HF : Hid ((if d = 0 then -1 else Fo.room (d - 1) (m - 1) ps) = res) := by show _ = _; rw [if_neg (by omega), ← hD, hres]
    rw [HF.out]
    have HDD := Lib.hid hdD
    have hD1 : D ≤ 100000 := by omega
    have hd1' : 1 ≤ d := by omega
    clear hres hd0 hD hdD
    unfold tyv
    go_enter Tryd.func103, Tryd.ntmps103
    go_wp2_with fail
    obtain ⟨W0, hW0⟩ : ∃ W0, W0 = w.alloc (.cells #[.int .i64 k, .int .i64 n, .slice o len cap] 25) := ⟨_, rfl⟩
    have HB0 : Hid (∀ W, Quiet0 W0 W → W.cell? ⟨w.heap.size, 0, none⟩ = some (.int .i64 k)) := by
      intro W hq; rw [hW0] at hq; exact (box_cells w k n o len cap _ W hq).1
    have HB1 : Hid (∀ W, Quiet0 W0 W → W.cell? ⟨w.heap.size, 1, none⟩ = some (.int .i64 n)) := by
      intro W hq; rw [hW0] at hq; exact (box_cells w k n o len cap _ W hq).2.1
    have HB : Hid (∀ W, Quiet0 W0 W → W.cell? ⟨w.heap.size, 2, none⟩ = some (.slice o len cap)) := by
      intro W hq; rw [hW0] at hq; exact (box_cells w k n o len cap _ W hq).2.2
    have HQ0 : Hid (Quiet0 w W0) := by rw [hW0]; exact Quiet0.alloc _ _
    change Code.wp _ _ _ _ (w.alloc (.cells #[.int .i64 k, .int .i64 n, .slice o len cap] 25))
    rw [← hW0]
    clear hW0
    generalize w.heap.size = nb at *
    go_loopw [1, 7] (fun s t wr => ∃ (i : Nat) (x : Int), t = .int .i64 i ∧ s = .int .i64 x ∧ i ≤ len ∧ -1 ≤ x ∧ x ≤ 100000 ∧ res = Fo.room D x (ps.drop i) ∧ Quiet0 W0 wr) (fun _ t _ => len - (intOf t).toNat)
    case atStart => exact ⟨0, m - 1, rfl, rfl, Nat.zero_le _, by omega, by omega, by rw [Fo.drop_zero]; exact HRES.out, Quiet0.refl _⟩
    case round =>
      obtain ⟨i, x, rfl, rfl, hi, hx0, hx1, hr, hq⟩ := hrel
      have HR := Lib.hid hr
      have HQ := Lib.hid hq
      have c2 := HB.out wr hq
      clear hr hq
      by_cases hlt : i < len
      · have hlt' : (i : Int) < len := by omega
        by_cases hx : 0 ≤ x
        · obtain ⟨b, off, k', n', qs, o', len', cap', rfl, hd, hg, e0, e1, e2, hs'⟩ := (HS.out.stay (HQ0.out.trans HQ.out)).nth hlt
          have HD := Lib.hid hd
          have HC := Lib.hid (IH.out i k' n' qs hg wr o' len' cap' D x ((d : Int) - 1) (by have := HDD.out; omega) hs' hx hx1 hD1)
          obtain ⟨y, hy⟩ : ∃ y, y = if D = 0 then -1 else Fo.room (D - 1) (x - 1) qs := ⟨_, rfl⟩
          have hyb : -1 ≤ y ∧ y ≤ 100000 := by
            rw [hy]; split
            · omega
            · by_cases h1 : 0 ≤ x - 1
              · have := Fo.room_le qs (D - 1) (x - 1) h1; omega
              · rw [Fo.room_neg _ _ _ (by omega)]; omega
          have HY : Hid (res = Fo.room D y (ps.drop (i + 1))) := by
            show _ = _
            rw [HR.out, hd, hy]
            cases D with
            | zero => conv => lhs; unfold Fo.room
                      rw [if_neg (by omega)]; rfl
            | succ E => conv => lhs; unfold Fo.room
                        rw [if_neg (by omega), if_neg (by omega)]; rfl
          rw [← hy] at HC
          unfold tyv at HC
          clear hd hg hs' hy
          go_wp2_with fail
          refine HC.out.mono ?_; rintro e w1 ⟨rfl, hq1⟩
          have HQ1 := Lib.hid (HQ.out.trans hq1)
          clear hq1
          go_wp2_with fail
          go_roundw
          case rel => exact ⟨i + 1, y, by go_num, rfl, by omega, hyb.1, hyb.2, HY.out, HQ1.out⟩
          case measure => simp [intOf]; omega
        · have hx' : x < 0 := by omega
          have HY : Hid (res = x) := by show _ = _; rw [HR.out]; exact Fo.room_neg _ _ _ hx'
          go_wp2_with fail
          go_ret
          exact ⟨by rw [HY.out]; rfl, HQ0.out.trans HQ.out⟩
      · have hlt' : ¬ (i : Int) < len := by omega
        have HY : Hid (res = x) := by
          show _ = _
          rw [HR.out, Fo.drop_end ps i (by have := HL.out; omega)]
          unfold Fo.room; rfl
        go_wp2_with fail
        go_ret
        exact ⟨by rw [HY.out]; rfl, HQ0.out.trans HQ.out⟩
/-- Great: is there more than is asked of? -/
def greatF (ps : Fo) : Bool := decide (Fo.room 39 299 ps < 0)
theorem great_size {ps : Fo} (h : greatF ps = false) : ps.size + 1 ≤ 300 := by
  unfold greatF at h
  have h0 : 0 ≤ Fo.room 39 299 ps := by simpa using h
  have := Fo.room_size ps 39 299 h0
  omega
set_option maxHeartbeats 1000000 in
theorem great_any (k n : Int) (ps : Fo) (w : World) (o : Option Addr) (len cap : Nat) (hs : Slc w o len ps) :
    Calls Tryd.prog 74 #[tyv k n o len cap] w fun e w' => e = .returned (.bool (greatF ps)) ∧ Quiet0 w w' := by
  have HC := Lib.hid (fun (W : World) (hq : Quiet0 w W) => room_any k n ps W o len cap 40 300 40 rfl (hs.stay hq) (by omega) (by omega) (by omega))
  unfold greatF
  rw [if_neg (by omega), show (40 : Nat) - 1 = 39 from rfl, show (300 : Int) - 1 = 299 from rfl] at HC
  generalize Fo.room 39 299 ps = r at *
  unfold tyv at *
  go_enter Tryd.func74, Tryd.ntmps74
  go_wp2_with fail
  refine (HC.out _ (Quiet0.alloc _ _)).mono ?_; rintro e w1 ⟨rfl, hq⟩
  go_wp2_with fail
  go_ret
  exact ⟨rfl, (Quiet0.alloc _ _).trans hq⟩
end Go.Proofs.YtnfodiedalhlhaaDoor
end
section
/-
  The reference's Same and Right on types. Condition: the types lie in memory as told.
-/
namespace Go.Proofs.YtnfodiedalhlhaaDoor
open Go.RowKit

def sameT (k n : Int) (ps : Fo) (k' n' : Int) (ps' : Fo) : Bool := (k == k') && (n == n') && ps.same ps'
theorem same_cons (k n : Int) (ps r : Fo) (k' n' : Int) (ps' r' : Fo) : (Fo.cons k n ps r).same (Fo.cons k' n' ps' r') = (sameT k n ps k' n' ps' && r.same r') := by simp [Fo.same, sameT]
/-- ref.Same -/
def RSame (k n : Int) (ps : Fo) : Prop := ∀ (k' n' : Int) (ps' : Fo) (w : World) (o : Option Addr) (len cap : Nat) (o' : Option Addr) (len' cap' : Nat), Slc w o len ps → Slc w o' len' ps' →
  Calls Tryd.prog 48 #[tyv k n o len cap, tyv k' n' o' len' cap'] w fun e w' => e = .returned (.bool (sameT k n ps k' n' ps')) ∧ Quiet0 w w'
theorem box_cells2 (w : World) (k n : Int) (o : Option Addr) (len cap : Nat) (k' n' : Int) (o' : Option Addr) (len' cap' : Nat) (t : TypeId) (W : World) (hW : Quiet0 ((w.alloc (.cells #[.int .i64 k, .int .i64 n, .slice o len cap] t)).alloc (.cells #[.int .i64 k', .int .i64 n', .slice o' len' cap'] t)) W) :
    (W.cell? ⟨w.heap.size, 0, none⟩ = some (.int .i64 k) ∧ W.cell? ⟨w.heap.size, 1, none⟩ = some (.int .i64 n) ∧ W.cell? ⟨w.heap.size, 2, none⟩ = some (.slice o len cap)) ∧
    (W.cell? ⟨w.heap.size + 1, 0, none⟩ = some (.int .i64 k') ∧ W.cell? ⟨w.heap.size + 1, 1, none⟩ = some (.int .i64 n') ∧ W.cell? ⟨w.heap.size + 1, 2, none⟩ = some (.slice o' len' cap')) := by
  refine ⟨box_cells w k n o len cap t W ((Quiet0.alloc _ _).trans hW), ?_⟩
  have h := box_cells (w.alloc (.cells #[.int .i64 k, .int .i64 n, .slice o len cap] t)) k' n' o' len' cap' t W hW
  have e : (w.alloc (.cells #[.int .i64 k, .int .i64 n, .slice o len cap] t)).heap.size = w.heap.size + 1 := by simp
  rw [e] at h
  exact h

set_option maxRecDepth 100000 in
set_option maxHeartbeats 2000000 in
theorem refSame_any (k n : Int) (ps : Fo) : RSame k n ps := by
  refine Fo.ind' (T := RSame) ?_ k n ps
  intro k n ps ih k' n' ps' w o len cap o' len' cap' hs hs'
  have HS := Lib.hid hs
  have HS' := Lib.hid hs'
  have IH := Lib.hid ih
  have HL := Lib.hid hs.1
  have HL' := Lib.hid hs'.1
  have hmx := hs.2.1
  unfold maxLen at hmx
  clear hs hs' ih
  obtain ⟨res, hres⟩ : ∃ res, res = sameT k n ps k' n' ps' := ⟨_, rfl⟩
  have HRES := Lib.hid hres
  rw [← hres]
  clear hres
  by_cases hk : k = k'
  · by_cases hn : n = n'
    · by_cases hlen : len = len'
      · have HR2 : Hid (res = ps.same ps') := by show _ = _; rw [HRES.out]; simp [sameT, hk, hn]
        subst hk hn hlen
        have b1 : (k != k) = false := by simp
        have b2 : (n != n) = false := by simp
        have b3 : ((len : Int) != (len : Int)) = false := by simp
        unfold tyv
        go_enter Tryd.func48, Tryd.ntmps48
        go_wp2_with fail
        obtain ⟨W0, hW0⟩ : ∃ W0, W0 = (w.alloc (.cells #[.int .i64 k, .int .i64 n, .slice o len cap] 25)).alloc (.cells #[.int .i64 k, .int .i64 n, .slice o' len cap'] 25) := ⟨_, rfl⟩
        have HBB : Hid (∀ W, Quiet0 W0 W → W.cell? ⟨w.heap.size, 2, none⟩ = some (.slice o len cap) ∧ W.cell? ⟨w.heap.size + 1, 2, none⟩ = some (.slice o' len cap')) := by
          intro W hq; rw [hW0] at hq
          have := box_cells2 w k n o len cap k n o' len cap' _ W hq
          exact ⟨this.1.2.2, this.2.2.2⟩
        have HQ0 : Hid (Quiet0 w W0) := by rw [hW0]; exact (Quiet0.alloc _ _).trans (Quiet0.alloc _ _)
        change Code.wp _ _ _ _ ((w.alloc (.cells #[.int .i64 k, .int .i64 n, .slice o len cap] 25)).alloc (.cells #[.int .i64 k, .int .i64 n, .slice o' len cap'] 25))
        rw [← hW0]
        clear hW0
        generalize w.heap.size = nb at *
        go_loopw [5] (fun t wr => ∃ (i : Nat), t = .int .i64 i ∧ i ≤ len ∧ res = (ps.drop i).same (ps'.drop i) ∧ Quiet0 W0 wr) (fun t _ => len - (intOf t).toNat)
        case atStart => exact ⟨0, rfl, Nat.zero_le _, by rw [Fo.drop_zero, Fo.drop_zero]; exact HR2.out, Quiet0.refl _⟩
        case round =>
          obtain ⟨i, rfl, hi, hr, hq⟩ := hrel
          have HR := Lib.hid hr
          have HQ := Lib.hid hq
          obtain ⟨c1, c2⟩ := HBB.out wr hq
          clear hr hq
          by_cases hlt : i < len
          · have hlt' : (i : Int) < len := by omega
            obtain ⟨b, off, k1, n1, qs1, o1, len1, cap1, rfl, hd1, hg1, e0, e1, e2, hs1⟩ := (HS.out.stay (HQ0.out.trans HQ.out)).nth hlt
            obtain ⟨b2, off2, k2, n2, qs2, o2, len2, cap2, rfl, hd2, hg2, f0, f1, f2, hs2⟩ := (HS'.out.stay (HQ0.out.trans HQ.out)).nth hlt
            have HC := Lib.hid (fun (W : World) (hq : Quiet0 wr W) => IH.out i k1 n1 qs1 hg1 k2 n2 qs2 W o1 len1 cap1 o2 len2 cap2 (hs1.stay hq) (hs2.stay hq))
            have HN : Hid (res = (sameT k1 n1 qs1 k2 n2 qs2 && (ps.drop (i + 1)).same (ps'.drop (i + 1)))) := by
              show _ = _
              rw [HR.out, hd1, hd2, same_cons]
            unfold tyv at HC
            clear hd1 hg1 hs1 hd2 hg2 hs2
            cases hb : sameT k1 n1 qs1 k2 n2 qs2
            all_goals
              have HBV := Lib.hid hb
              clear hb
              go_wp2_with fail
              refine wp_region_still_tail 10 (by kernel_rfl) (by kernel_rfl) ?_
              simp only [List.take_succ_cons, List.take_zero, List.drop_succ_cons, List.drop_zero]
              change wpStill _ _ (World.drew wr) _ _ _
              repeat still_step
              refine wpStill_nil ?_
              change wpList _ _ _ _ _ (World.drew wr)
              go_wp2_with fail
              refine (HC.out _ (Quiet0.drew _)).mono ?_; rintro e w1 ⟨rfl, hq1⟩
              rw [HBV.out]
              have HQ1 := Lib.hid ((HQ.out.trans (Quiet0.drew _)).trans hq1)
              clear hq1
              go_wp2_with fail
            · go_ret
              exact ⟨by rw [HN.out, HBV.out]; rfl, HQ0.out.trans HQ1.out⟩
            · go_roundw
              case rel => exact ⟨i + 1, by go_num, by omega, by rw [HN.out, HBV.out]; rfl, HQ1.out⟩
              case measure => simp [intOf]; omega
          · have hlt' : ¬ (i : Int) < len := by omega
            have HY : Hid (res = true) := by
              show _ = _
              rw [HR.out, Fo.drop_end ps i (by have := HL.out; omega), Fo.drop_end ps' i (by have := HL'.out; omega)]; rfl
            go_wp2_with fail
            go_ret
            exact ⟨by rw [HY.out]; rfl, HQ0.out.trans HQ.out⟩
      · have HF : Hid (res = false) := by
          show _ = _
          rw [HRES.out]
          have : ps.same ps' = false := by
            cases h : ps.same ps'
            · rfl
            · exact absurd (Fo.same_length _ _ h) (by have := HL.out; have := HL'.out; omega)
          simp [sameT, this]
        subst hk hn
        have b1 : (k != k) = false := by simp
        have b2 : (n != n) = false := by simp
        have b3 : ((len : Int) != (len' : Int)) = true := by simp; omega
        unfold tyv
        go_enter Tryd.func48, Tryd.ntmps48
        go_wp2_with fail
        go_ret
        exact ⟨by rw [HF.out]; rfl, (Quiet0.alloc _ _).trans (Quiet0.alloc _ _)⟩
    · have HF : Hid (res = false) := by show _ = _; rw [HRES.out]; simp [sameT, hn]
      subst hk
      have b1 : (k != k) = false := by simp
      have b2 : (n != n') = true := by simpa using hn
      clear hn
      unfold tyv
      go_enter Tryd.func48, Tryd.ntmps48
      go_wp2_with fail
      go_ret
      exact ⟨by rw [HF.out]; rfl, (Quiet0.alloc _ _).trans (Quiet0.alloc _ _)⟩
  · have HF : Hid (res = false) := by show _ = _; rw [HRES.out]; simp [sameT, hk]
    have b1 : (k != k') = true := by simpa using hk
    clear hk
    unfold tyv
    go_enter Tryd.func48, Tryd.ntmps48
    go_wp2_with fail
    go_ret
    exact ⟨by rw [HF.out]; rfl, (Quiet0.alloc _ _).trans (Quiet0.alloc _ _)⟩
end Go.Proofs.YtnfodiedalhlhaaDoor
end
section
/-
  Whether a type is: the program's Right (plain, known, and a closure handed to slices.ContainsFunc), the reference's Right. Condition: the types lie in memory as told.
-/
namespace Go.Proofs.YtnfodiedalhlhaaDoor
open Go.RowKit

def rightT (k n : Int) (ps : Fo) : Bool := Fo.plain k n ps.length && ps.right
theorem right_cons (k n : Int) (ps r : Fo) : (Fo.cons k n ps r).right = (rightT k n ps && r.right) := by simp [Fo.right, rightT]
/-- a tree's first place at which something holds -/
def idxF (p : Int → Int → Fo → Bool) : Fo → Nat → Int
  | .nil, _ => -1
  | .cons k n ps r, i => if p k n ps then (i : Int) else idxF p r (i + 1)
def anyF (p : Int → Int → Fo → Bool) : Fo → Bool
  | .nil => false
  | .cons k n ps r => p k n ps || anyF p r
theorem idx_any (p : Int → Int → Fo → Bool) : ∀ (f : Fo) (i : Nat), decide (0 ≤ idxF p f i) = anyF p f
  | .nil, i => by simp [idxF, anyF]
  | .cons k n ps r, i => by
    unfold idxF anyF
    cases h : p k n ps
    · simp only [Bool.false_eq_true, if_false, Bool.false_or]; exact idx_any p r (i + 1)
    · simp
theorem any_not_right : ∀ f : Fo, anyF (fun k n ps => !rightT k n ps) f = !f.right
  | .nil => rfl
  | .cons k n ps r => by unfold anyF; rw [right_cons, any_not_right r, Bool.not_and]

theorem known_any (n : Int) (w : World) : Calls Tryd.prog 124 #[.int .i64 n] w fun e w' => e = .returned (.bool (decide (0 ≤ n) && decide (n < 1073741824))) ∧ w = w' := by
  by_cases h : 0 ≤ n
  · go_enter Tryd.func124, Tryd.ntmps124
    go_wp2_with fail
    go_ret
    exact ⟨by first | (simp [h]; done) | (simp; omega), rfl⟩
  · go_enter Tryd.func124, Tryd.ntmps124
    go_wp2_with fail
    go_ret
    exact ⟨by first | (simp; done) | (simp; omega), rfl⟩

set_option maxHeartbeats 2000000 in
theorem plain_any (k n : Int) (len : Nat) (o : Option Addr) (cap : Nat) (w : World) : Calls Tryd.prog 116 #[tyv k n o len cap] w fun e w' => e = .returned (.bool (Fo.plain k n len)) ∧ Quiet0 w w' := by
  obtain ⟨res, hres⟩ : ∃ res, res = Fo.plain k n len := ⟨_, rfl⟩
  have HR := Lib.hid hres
  rw [← hres]
  clear hres
  unfold tyv
  by_cases k1 : k = 1
  · subst k1
    cases hkn : (decide (0 ≤ n) && decide (n < 1073741824))
    · have HK := Lib.hid (known_any n)
      rw [hkn] at HK
      have HF : Hid (res = false) := by show _ = _; rw [HR.out]; unfold Fo.plain; simp only [beq_self_eq_true, if_true]; rw [hkn]; rfl
      clear hkn
      go_enter Tryd.func116, Tryd.ntmps116
      go_wp2_with fail
      refine (HK.out _).mono ?_; rintro e w1 ⟨rfl, rfl⟩
      go_wp2_with fail
      go_ret
      exact ⟨by rw [HF.out]; rfl, Quiet0.alloc _ _⟩
    · have HK := Lib.hid (known_any n)
      rw [hkn] at HK
      have HF : Hid (res = ((len : Int) == 0)) := by
        show _ = _
        rw [HR.out]; unfold Fo.plain; simp only [beq_self_eq_true, if_true]; rw [hkn, Bool.eq_iff_iff]; simp
      clear hkn
      go_enter Tryd.func116, Tryd.ntmps116
      go_wp2_with fail
      refine (HK.out _).mono ?_; rintro e w1 ⟨rfl, rfl⟩
      go_wp2_with fail
      all_goals
        go_ret
        exact ⟨by rw [HF.out]; first | rfl | simp_all, Quiet0.alloc _ _⟩
  have b1 : (k == 1) = false := by simpa using k1
  by_cases hn : n = 0
  · subst hn
    by_cases k2 : k = 2
    · subst k2
      have HF : Hid (res = ((len : Int) == 0)) := by show _ = _; rw [HR.out, Bool.eq_iff_iff]; simp [Fo.plain]
      go_enter Tryd.func116, Tryd.ntmps116
      go_wp2_with fail
      all_goals
        go_ret
        exact ⟨by rw [HF.out]; first | rfl | simp_all, Quiet0.alloc _ _⟩
    have b2 : (k == 2) = false := by simpa using k2
    by_cases k3 : k = 3
    · subst k3
      have HF : Hid (res = ((len : Int) == 0)) := by show _ = _; rw [HR.out, Bool.eq_iff_iff]; simp [Fo.plain]
      go_enter Tryd.func116, Tryd.ntmps116
      go_wp2_with fail
      all_goals
        go_ret
        exact ⟨by rw [HF.out]; first | rfl | simp_all, Quiet0.alloc _ _⟩
    have b3 : (k == 3) = false := by simpa using k3
    by_cases k4 : k = 4
    · subst k4
      have HF : Hid (res = ((len : Int) == 2)) := by show _ = _; rw [HR.out, Bool.eq_iff_iff]; simp [Fo.plain]; omega
      go_enter Tryd.func116, Tryd.ntmps116
      go_wp2_with fail
      all_goals
        go_ret
        exact ⟨by rw [HF.out]; first | rfl | simp_all, Quiet0.alloc _ _⟩
    have b4 : (k == 4) = false := by simpa using k4
    by_cases k5 : k = 5
    · subst k5
      by_cases h2 : 2 ≤ len
      · have h2' : (2 : Int) ≤ (len : Int) := by omega
        by_cases h8 : len ≤ 8
        · have h8' : (len : Int) ≤ 8 := by omega
          have HF : Hid (res = true) := by show _ = _; rw [HR.out]; simp [Fo.plain, h2, h8]
          go_enter Tryd.func116, Tryd.ntmps116
          go_wp2_with fail
          go_ret
          exact ⟨by rw [HF.out]; rfl, Quiet0.alloc _ _⟩
        · have h8' : ¬ (len : Int) ≤ 8 := by omega
          have HF : Hid (res = false) := by show _ = _; rw [HR.out]; simp [Fo.plain, h8]
          go_enter Tryd.func116, Tryd.ntmps116
          go_wp2_with fail
          go_ret
          exact ⟨by rw [HF.out]; rfl, Quiet0.alloc _ _⟩
      · have h2' : ¬ (2 : Int) ≤ (len : Int) := by omega
        have HF : Hid (res = false) := by show _ = _; rw [HR.out]; simp [Fo.plain, h2]
        go_enter Tryd.func116, Tryd.ntmps116
        go_wp2_with fail
        go_ret
        exact ⟨by rw [HF.out]; rfl, Quiet0.alloc _ _⟩
    have b5 : (k == 5) = false := by simpa using k5
    have HF : Hid (res = false) := by show _ = _; rw [HR.out]; unfold Fo.plain; simp only [b1, b2, b3, b4, b5]; rfl
    clear k1 k2 k3 k4 k5
    go_enter Tryd.func116, Tryd.ntmps116
    go_wp2_with fail
    go_ret
    exact ⟨by rw [HF.out]; rfl, Quiet0.alloc _ _⟩
  · have HF : Hid (res = false) := by
      show _ = _
      rw [HR.out]
      have hn' : (n == 0) = false := by simpa using hn
      unfold Fo.plain
      simp only [b1, hn', Bool.false_and]
      repeat' split
      all_goals first | rfl | simp_all
    have hn' : (n == 0) = false := by simpa using hn
    clear k1 hn
    go_enter Tryd.func116, Tryd.ntmps116
    go_wp2_with fail
    all_goals
      go_ret
      exact ⟨by rw [HF.out]; rfl, Quiet0.alloc _ _⟩

/-- what a predicate handed to slices.IndexFunc has to tell of each type of a row -/
def PredTy (g : Nat) (lb : Array Value) (w0 : World) (f : Fo) (p : Int → Int → Fo → Bool) : Prop := ∀ i k n ps, f.get i = some (k, n, ps) → ∀ (W : World) (o : Option Addr) (len cap : Nat), Quiet0 w0 W → Slc W o len ps →
  Calls Tryd.prog g (#[tyv k n o len cap] ++ lb) W fun e W' => e = .returned (.bool (p k n ps)) ∧ Quiet0 W W'
set_option maxHeartbeats 1000000 in
theorem indexFunc_any (g : Nat) (lb : Array Value) (p : Int → Int → Fo → Bool) (eg : ∀ args w, (callFunc g args).run Tryd.prog w = .ok (.enter g args) w) (f : Fo) (o : Option Addr) (len cap : Nat) (w : World) (hs : Slc w o len f) (hp : PredTy g lb w f p) :
    Calls Tryd.prog 125 #[.slice o len cap, .func (.func g) #[] lb] w fun e w' => e = .returned (.int .i64 (idxF p f 0)) ∧ Quiet0 w w' := by
  have HS := Lib.hid hs
  have HP := Lib.hid hp
  have HL := Lib.hid hs.1
  have hmx := hs.2.1
  unfold maxLen at hmx
  clear hs hp
  obtain ⟨res, hres⟩ : ∃ res, res = idxF p f 0 := ⟨_, rfl⟩
  have HR := Lib.hid hres
  rw [← hres]
  clear hres
  go_enter Tryd.func125, Tryd.ntmps125
  go_wp2_with fail
  go_loopw [8] (fun t wr => ∃ i : Nat, t = .int .i64 i ∧ i ≤ len ∧ res = idxF p (f.drop i) i ∧ Quiet0 w wr) (fun t _ => len - (intOf t).toNat)
  case atStart => exact ⟨0, rfl, Nat.zero_le _, by rw [Fo.drop_zero]; exact HR.out, Quiet0.refl _⟩
  case round =>
    obtain ⟨i, rfl, hi, hr, hq⟩ := hrel
    have HRR := Lib.hid hr
    have HQ := Lib.hid hq
    clear hr hq
    by_cases hlt : i < len
    · have hlt' : (i : Int) < len := by omega
      obtain ⟨b, off, k1, n1, qs, o1, len1, cap1, rfl, hd, hg, e0, e1, e2, hs1⟩ := (HS.out.stay HQ.out).nth hlt
      have HD := Lib.hid hd
      have HC := Lib.hid (HP.out i k1 n1 qs hg wr o1 len1 cap1 HQ.out hs1)
      unfold tyv at HC
      clear hd hg hs1
      cases hb : p k1 n1 qs
      all_goals
        have HBV := Lib.hid hb
        rw [hb] at HC
        clear hb
        go_wp2_with fail
        refine HC.out.mono ?_; rintro e w1 ⟨rfl, hq1⟩
        have HQ1 := Lib.hid (HQ.out.trans hq1)
        clear hq1
        go_wp2_with fail
      · go_roundw
        case rel => exact ⟨i + 1, by go_num, by omega, by rw [HRR.out, HD.out, idxF, HBV.out]; rfl, HQ1.out⟩
        case measure => simp [intOf]; omega
      · go_ret
        exact ⟨by rw [HRR.out, HD.out, idxF, HBV.out]; rfl, HQ1.out⟩
    · have hlt' : ¬ (i : Int) < len := by omega
      go_wp2_with fail
      go_ret
      exact ⟨by rw [HRR.out, Fo.drop_end f i (by have := HL.out; omega)]; rfl, HQ.out⟩
set_option maxHeartbeats 1000000 in
theorem containsFunc_any (g : Nat) (lb : Array Value) (p : Int → Int → Fo → Bool) (eg : ∀ args w, (callFunc g args).run Tryd.prog w = .ok (.enter g args) w) (f : Fo) (o : Option Addr) (len cap : Nat) (w : World) (hs : Slc w o len f) (hp : PredTy g lb w f p) :
    Calls Tryd.prog 117 #[.slice o len cap, .func (.func g) #[] lb] w fun e w' => e = .returned (.bool (anyF p f)) ∧ Quiet0 w w' := by
  have HC := Lib.hid (indexFunc_any g lb p eg f o len cap w hs hp)
  rw [← idx_any p f 0]
  clear hs hp eg
  generalize idxF p f 0 = r at *
  go_enter Tryd.func117, Tryd.ntmps117
  go_wp2_with fail
  refine HC.out.mono ?_; rintro e w1 ⟨rfl, hq⟩
  go_wp2_with fail
  go_ret
  exact ⟨rfl, hq⟩
end Go.Proofs.YtnfodiedalhlhaaDoor
end
section
/-
  Whether a type is: the program's Right and the reference's Right, by induction over the type. Condition: the types lie in memory as told.
-/
namespace Go.Proofs.YtnfodiedalhlhaaDoor
open Go.RowKit Go.Shelf

theorem eg_right : ∀ args w, (callFunc 118 args).run Tryd.prog w = .ok (.enter 118 args) w := enters_of Tryd.func118 (by kernel_rfl) rfl
/-- types.Right -/
def TRight (k n : Int) (ps : Fo) : Prop := ∀ (w : World) (o : Option Addr) (len cap : Nat), Slc w o len ps →
  Calls Tryd.prog 101 #[tyv k n o len cap] w fun e w' => e = .returned (.bool (rightT k n ps)) ∧ Quiet0 w w'
set_option maxHeartbeats 1000000 in
theorem not_right (k n : Int) (ps : Fo) (h : TRight k n ps) (w : World) (o : Option Addr) (len cap : Nat) (hs : Slc w o len ps) :
    Calls Tryd.prog 118 #[tyv k n o len cap] w fun e w' => e = .returned (.bool (!rightT k n ps)) ∧ Quiet0 w w' := by
  have HC := Lib.hid (fun (W : World) (hq : Quiet0 w W) => h W o len cap (hs.stay hq))
  clear h hs
  generalize rightT k n ps = r at *
  unfold tyv at *
  go_enter Tryd.func118, Tryd.ntmps118
  go_wp2_with fail
  refine (HC.out _ (Quiet0.alloc _ _)).mono ?_; rintro e w1 ⟨rfl, hq⟩
  go_wp2_with fail
  go_ret
  exact ⟨rfl, (Quiet0.alloc _ _).trans hq⟩
set_option maxHeartbeats 1000000 in
theorem right_any (k n : Int) (ps : Fo) : TRight k n ps := by
  refine Fo.ind' (T := TRight) ?_ k n ps
  intro k n ps ih w o len cap hs
  have hl := hs.1
  have HP := Lib.hid (plain_any k n len o cap)
  have HC : Hid (∀ W, Quiet0 w W → Calls Tryd.prog 117 #[.slice o len cap, .func (.func 118) #[] #[]] W fun e w' => e = .returned (.bool (!ps.right)) ∧ Quiet0 W w') := by
    intro W hq
    have := containsFunc_any 118 #[] (fun k n ps => !rightT k n ps) eg_right ps o len cap W (hs.stay hq) (fun i k1 n1 qs hg W1 o1 len1 cap1 _ hs1 => not_right k1 n1 qs (ih i k1 n1 qs hg) W1 o1 len1 cap1 hs1)
    rw [any_not_right] at this
    exact this
  have HR : Hid (rightT k n ps = (Fo.plain k n len && ps.right)) := by show _ = _; unfold rightT; rw [hl]
  rw [HR.out]
  clear hs ih hl HR
  cases hp : Fo.plain k n len
  · have HPV := Lib.hid hp
    rw [hp] at HP
    clear hp
    unfold tyv at *
    go_enter Tryd.func101, Tryd.ntmps101
    go_wp2_with fail
    refine (HP.out _).mono ?_; rintro e w1 ⟨rfl, hq⟩
    go_wp2_with fail
    go_ret
    exact ⟨rfl, (Quiet0.alloc _ _).trans hq⟩
  · have HPV := Lib.hid hp
    rw [hp] at HP
    clear hp
    generalize ps.right = r at *
    unfold tyv at *
    go_enter Tryd.func101, Tryd.ntmps101
    go_wp2_with fail
    refine (HP.out _).mono ?_; rintro e w1 ⟨rfl, hq⟩
    have HQ := Lib.hid ((Quiet0.alloc w (.cells #[.int .i64 k, .int .i64 n, .slice o len cap] 25)).trans hq)
    have c2 := (box_cells w k n o len cap 25 w1 hq).2.2
    clear hq
    go_wp2_with fail
    refine (HC.out _ HQ.out).mono ?_; rintro e w2 ⟨rfl, hq2⟩
    go_wp2_with fail
    go_ret
    exact ⟨by simp, HQ.out.trans hq2⟩

/-- ref.Right -/
def RRight (k n : Int) (ps : Fo) : Prop := ∀ (w : World) (o : Option Addr) (len cap : Nat), Slc w o len ps →
  Calls Tryd.prog 77 #[tyv k n o len cap] w fun e w' => e = .returned (.bool (rightT k n ps)) ∧ Quiet0 w w'
/-- why a type isn't, but for its parts -/
theorem not_plain {k n : Int} {m : Nat} (h : Fo.plain k n m = false) : (k = 1 ∧ (n < 0 ∨ 1073741824 ≤ n ∨ 0 < m)) ∨ (k ≠ 1 ∧ n ≠ 0) ∨ (n = 0 ∧ (k = 2 ∨ k = 3) ∧ 0 < m) ∨ (n = 0 ∧ k = 4 ∧ m ≠ 2) ∨ (n = 0 ∧ k = 5 ∧ (m < 2 ∨ 8 < m)) ∨ (n = 0 ∧ (k < 1 ∨ 5 < k)) := by
  unfold Fo.plain at h
  by_cases k1 : k = 1
  · subst k1; simp at h; omega
  by_cases hn : n = 0
  · subst hn
    by_cases k2 : k = 2
    · subst k2; simp at h; omega
    by_cases k3 : k = 3
    · subst k3; simp at h; omega
    by_cases k4 : k = 4
    · subst k4; simp at h; omega
    by_cases k5 : k = 5
    · subst k5; simp at h; omega
    omega
  · omega
theorem is_plain {k n : Int} {m : Nat} (h : Fo.plain k n m = true) : (k = 1 ∧ 0 ≤ n ∧ n < 1073741824 ∧ m = 0) ∨ (n = 0 ∧ k = 2 ∧ m = 0) ∨ (n = 0 ∧ k = 3 ∧ m = 0) ∨ (n = 0 ∧ k = 4 ∧ m = 2) ∨ (n = 0 ∧ k = 5 ∧ 2 ≤ m ∧ m ≤ 8) := by
  unfold Fo.plain at h
  by_cases k1 : k = 1
  · subst k1; simp at h; omega
  by_cases k2 : k = 2
  · subst k2; simp at h; omega
  by_cases k3 : k = 3
  · subst k3; simp at h; omega
  by_cases k4 : k = 4
  · subst k4; simp at h; omega
  by_cases k5 : k = 5
  · subst k5; simp at h; omega
  · simp [k1, k2, k3, k4, k5] at h
set_option maxRecDepth 100000 in
set_option maxHeartbeats 4000000 in
theorem refRight_any (k n : Int) (ps : Fo) : RRight k n ps := by
  refine Fo.ind' (T := RRight) ?_ k n ps
  intro k n ps ih w o len cap hs
  have HS := Lib.hid hs
  have IH := Lib.hid ih
  have HL := Lib.hid hs.1
  have hmx := hs.2.1
  unfold maxLen at hmx
  have HR : Hid (rightT k n ps = (Fo.plain k n len && ps.right)) := by show _ = _; unfold rightT; rw [hs.1]
  rw [HR.out]
  clear hs ih HR
  cases hp : Fo.plain k n len
  · simp only [Bool.false_and]
    have hw := not_plain hp
    clear hp HS IH HL
    unfold tyv
    rcases hw with ⟨rfl, h | h | h⟩ | ⟨h1, h2⟩ | ⟨rfl, rfl | rfl, h⟩ | ⟨rfl, rfl, h⟩ | ⟨rfl, rfl, h | h⟩ | ⟨rfl, h | h⟩
    · go_enter Tryd.func77, Tryd.ntmps77
      go_wp2_with fail
      all_goals
        go_ret
        exact ⟨rfl, Quiet0.alloc _ _⟩
    · go_enter Tryd.func77, Tryd.ntmps77
      go_wp2_with fail
      all_goals
        go_ret
        exact ⟨rfl, Quiet0.alloc _ _⟩
    · have h' : (0 : Int) < (len : Int) := by omega
      go_enter Tryd.func77, Tryd.ntmps77
      go_wp2_with fail
      all_goals
        go_ret
        exact ⟨rfl, Quiet0.alloc _ _⟩
    · have b1 : (k == 1) = false := by simpa using h1
      have b2 : (k != 1) = true := by simpa using h1
      have b3 : (n != 0) = true := by simpa using h2
      clear h1 h2
      go_enter Tryd.func77, Tryd.ntmps77
      go_wp2_with fail
      all_goals
        go_ret
        exact ⟨rfl, Quiet0.alloc _ _⟩
    · have h' : (0 : Int) < (len : Int) := by omega
      go_enter Tryd.func77, Tryd.ntmps77
      go_wp2_with fail
      all_goals
        go_ret
        exact ⟨rfl, Quiet0.alloc _ _⟩
    · have h' : (0 : Int) < (len : Int) := by omega
      go_enter Tryd.func77, Tryd.ntmps77
      go_wp2_with fail
      all_goals
        go_ret
        exact ⟨rfl, Quiet0.alloc _ _⟩
    · have h' : ((len : Int) != 2) = true := by simp; omega
      go_enter Tryd.func77, Tryd.ntmps77
      go_wp2_with fail
      all_goals
        go_ret
        exact ⟨rfl, Quiet0.alloc _ _⟩
    · have h' : (len : Int) < 2 := by omega
      go_enter Tryd.func77, Tryd.ntmps77
      go_wp2_with fail
      all_goals
        go_ret
        exact ⟨rfl, Quiet0.alloc _ _⟩
    · have h' : (8 : Int) < (len : Int) := by omega
      have h2 : ¬ (len : Int) < 2 := by omega
      go_enter Tryd.func77, Tryd.ntmps77
      go_wp2_with fail
      all_goals
        go_ret
        exact ⟨rfl, Quiet0.alloc _ _⟩
    · have b1 : (k == 1) = false := by simp; omega
      have b1' : (k != 1) = true := by simp; omega
      have b2 : (k == 2) = false := by simp; omega
      have b3 : (k == 3) = false := by simp; omega
      have b4 : (k == 4) = false := by simp; omega
      have b5 : (k == 5) = false := by simp; omega
      go_enter Tryd.func77, Tryd.ntmps77
      go_wp2_with fail
      all_goals
        go_ret
        exact ⟨rfl, Quiet0.alloc _ _⟩
    · have b1 : (k == 1) = false := by simp; omega
      have b1' : (k != 1) = true := by simp; omega
      have b2 : (k == 2) = false := by simp; omega
      have b3 : (k == 3) = false := by simp; omega
      have b4 : (k == 4) = false := by simp; omega
      have b5 : (k == 5) = false := by simp; omega
      have h' : ¬ k < 1 := by omega
      go_enter Tryd.func77, Tryd.ntmps77
      go_wp2_with fail
      all_goals
        go_ret
        exact ⟨rfl, Quiet0.alloc _ _⟩
  · simp only [Bool.true_and]
    obtain ⟨res, hres⟩ : ∃ res, res = ps.right := ⟨_, rfl⟩
    have HRES := Lib.hid hres
    rw [← hres]
    have hw := is_plain hp
    clear hp hres
    rcases hw with ⟨rfl, h1, h2, h3⟩ | ⟨rfl, rfl, h3⟩ | ⟨rfl, rfl, h3⟩ | ⟨rfl, rfl, h3⟩ | ⟨rfl, rfl, h3, h4⟩
    · have h3' : ¬ (0 : Int) < (len : Int) := by omega
      clear h3
      unfold tyv
      obtain ⟨W0, hW0⟩ : ∃ W0, W0 = w.alloc (.cells #[.int .i64 1, .int .i64 n, .slice o len cap] 25) := ⟨_, rfl⟩
      have HB : Hid (∀ W, Quiet0 W0 W → W.cell? ⟨w.heap.size, 2, none⟩ = some (.slice o len cap)) := by
        intro W hq; rw [hW0] at hq; exact (box_cells w _ _ o len cap _ W hq).2.2
      have HQ0 : Hid (Quiet0 w W0) := by rw [hW0]; exact Quiet0.alloc _ _
      go_enter Tryd.func77, Tryd.ntmps77
      go_wp2_with fail
      change Code.wp _ _ _ _ (w.alloc (.cells #[.int .i64 1, .int .i64 n, .slice o len cap] 25))
      rw [← hW0]
      clear hW0
      generalize w.heap.size = nb at *
      go_loopw [4] (fun t wr => ∃ i : Nat, t = .int .i64 i ∧ i ≤ len ∧ res = (ps.drop i).right ∧ Quiet0 W0 wr) (fun t _ => len - (intOf t).toNat)
      case atStart => exact ⟨0, rfl, Nat.zero_le _, by rw [Fo.drop_zero]; exact HRES.out, Quiet0.refl _⟩
      case round =>
        obtain ⟨i, rfl, hi, hr, hq⟩ := hrel
        have HRR := Lib.hid hr
        have HQ := Lib.hid hq
        have c2 := HB.out wr hq
        clear hr hq
        by_cases hlt : i < len
        · exact absurd hlt (by omega)
        · have hlt' : ¬ (i : Int) < len := by omega
          go_wp2_with fail
          go_ret
          exact ⟨by rw [HRR.out, Fo.drop_end ps i (by have := HL.out; omega)]; rfl, HQ0.out.trans HQ.out⟩
    · have h3' : ¬ (0 : Int) < (len : Int) := by omega
      clear h3
      unfold tyv
      obtain ⟨W0, hW0⟩ : ∃ W0, W0 = w.alloc (.cells #[.int .i64 2, .int .i64 0, .slice o len cap] 25) := ⟨_, rfl⟩
      have HB : Hid (∀ W, Quiet0 W0 W → W.cell? ⟨w.heap.size, 2, none⟩ = some (.slice o len cap)) := by
        intro W hq; rw [hW0] at hq; exact (box_cells w _ _ o len cap _ W hq).2.2
      have HQ0 : Hid (Quiet0 w W0) := by rw [hW0]; exact Quiet0.alloc _ _
      go_enter Tryd.func77, Tryd.ntmps77
      go_wp2_with fail
      change Code.wp _ _ _ _ (w.alloc (.cells #[.int .i64 2, .int .i64 0, .slice o len cap] 25))
      rw [← hW0]
      clear hW0
      generalize w.heap.size = nb at *
      go_loopw [4] (fun t wr => ∃ i : Nat, t = .int .i64 i ∧ i ≤ len ∧ res = (ps.drop i).right ∧ Quiet0 W0 wr) (fun t _ => len - (intOf t).toNat)
      case atStart => exact ⟨0, rfl, Nat.zero_le _, by rw [Fo.drop_zero]; exact HRES.out, Quiet0.refl _⟩
      case round =>
        obtain ⟨i, rfl, hi, hr, hq⟩ := hrel
        have HRR := Lib.hid hr
        have HQ := Lib.hid hq
        have c2 := HB.out wr hq
        clear hr hq
        by_cases hlt : i < len
        · exact absurd hlt (by omega)
        · have hlt' : ¬ (i : Int) < len := by omega
          go_wp2_with fail
          go_ret
          exact ⟨by rw [HRR.out, Fo.drop_end ps i (by have := HL.out; omega)]; rfl, HQ0.out.trans HQ.out⟩
    · have h3' : ¬ (0 : Int) < (len : Int) := by omega
      clear h3
      unfold tyv
      obtain ⟨W0, hW0⟩ : ∃ W0, W0 = w.alloc (.cells #[.int .i64 3, .int .i64 0, .slice o len cap] 25) := ⟨_, rfl⟩
      have HB : Hid (∀ W, Quiet0 W0 W → W.cell? ⟨w.heap.size, 2, none⟩ = some (.slice o len cap)) := by
        intro W hq; rw [hW0] at hq; exact (box_cells w _ _ o len cap _ W hq).2.2
      have HQ0 : Hid (Quiet0 w W0) := by rw [hW0]; exact Quiet0.alloc _ _
      go_enter Tryd.func77, Tryd.ntmps77
      go_wp2_with fail
      change Code.wp _ _ _ _ (w.alloc (.cells #[.int .i64 3, .int .i64 0, .slice o len cap] 25))
      rw [← hW0]
      clear hW0
      generalize w.heap.size = nb at *
      go_loopw [4] (fun t wr => ∃ i : Nat, t = .int .i64 i ∧ i ≤ len ∧ res = (ps.drop i).right ∧ Quiet0 W0 wr) (fun t _ => len - (intOf t).toNat)
      case atStart => exact ⟨0, rfl, Nat.zero_le _, by rw [Fo.drop_zero]; exact HRES.out, Quiet0.refl _⟩
      case round =>
        obtain ⟨i, rfl, hi, hr, hq⟩ := hrel
        have HRR := Lib.hid hr
        have HQ := Lib.hid hq
        have c2 := HB.out wr hq
        clear hr hq
        by_cases hlt : i < len
        · exact absurd hlt (by omega)
        · have hlt' : ¬ (i : Int) < len := by omega
          go_wp2_with fail
          go_ret
          exact ⟨by rw [HRR.out, Fo.drop_end ps i (by have := HL.out; omega)]; rfl, HQ0.out.trans HQ.out⟩
    · have h3' : ((len : Int) != 2) = false := by simp; omega
      clear h3
      unfold tyv
      obtain ⟨W0, hW0⟩ : ∃ W0, W0 = w.alloc (.cells #[.int .i64 4, .int .i64 0, .slice o len cap] 25) := ⟨_, rfl⟩
      have HB : Hid (∀ W, Quiet0 W0 W → W.cell? ⟨w.heap.size, 2, none⟩ = some (.slice o len cap)) := by
        intro W hq; rw [hW0] at hq; exact (box_cells w _ _ o len cap _ W hq).2.2
      have HQ0 : Hid (Quiet0 w W0) := by rw [hW0]; exact Quiet0.alloc _ _
      go_enter Tryd.func77, Tryd.ntmps77
      go_wp2_with fail
      change Code.wp _ _ _ _ (w.alloc (.cells #[.int .i64 4, .int .i64 0, .slice o len cap] 25))
      rw [← hW0]
      clear hW0
      generalize w.heap.size = nb at *
      go_loopw [4] (fun t wr => ∃ i : Nat, t = .int .i64 i ∧ i ≤ len ∧ res = (ps.drop i).right ∧ Quiet0 W0 wr) (fun t _ => len - (intOf t).toNat)
      case atStart => exact ⟨0, rfl, Nat.zero_le _, by rw [Fo.drop_zero]; exact HRES.out, Quiet0.refl _⟩
      case round =>
        obtain ⟨i, rfl, hi, hr, hq⟩ := hrel
        have HRR := Lib.hid hr
        have HQ := Lib.hid hq
        have c2 := HB.out wr hq
        clear hr hq
        by_cases hlt : i < len
        · have hlt' : (i : Int) < len := by omega
          obtain ⟨b, off, k1, n1, qs, o1, len1, cap1, rfl, hd, hg, e0, e1, e2, hs1⟩ := (HS.out.stay (HQ0.out.trans HQ.out)).nth hlt
          have HD := Lib.hid hd
          have HC := Lib.hid (IH.out i k1 n1 qs hg wr o1 len1 cap1 hs1)
          unfold tyv at HC
          clear hd hg hs1
          cases hb : rightT k1 n1 qs
          all_goals
            have HBV := Lib.hid hb
            rw [hb] at HC
            clear hb
            go_wp2_with fail
            refine HC.out.mono ?_; rintro e w1 ⟨rfl, hq1⟩
            have HQ1 := Lib.hid (HQ.out.trans hq1)
            clear hq1
            go_wp2_with fail
          · go_ret
            exact ⟨by rw [HRR.out, HD.out, right_cons, HBV.out]; rfl, HQ0.out.trans HQ1.out⟩
          · go_roundw
            case rel => exact ⟨i + 1, by go_num, by omega, by rw [HRR.out, HD.out, right_cons, HBV.out]; rfl, HQ1.out⟩
            case measure => simp [intOf]; omega
        · have hlt' : ¬ (i : Int) < len := by omega
          go_wp2_with fail
          go_ret
          exact ⟨by rw [HRR.out, Fo.drop_end ps i (by have := HL.out; omega)]; rfl, HQ0.out.trans HQ.out⟩
    · have h3' : ¬ (len : Int) < 2 := by omega
      have h4' : ¬ (8 : Int) < (len : Int) := by omega
      unfold tyv
      obtain ⟨W0, hW0⟩ : ∃ W0, W0 = w.alloc (.cells #[.int .i64 5, .int .i64 0, .slice o len cap] 25) := ⟨_, rfl⟩
      have HB : Hid (∀ W, Quiet0 W0 W → W.cell? ⟨w.heap.size, 2, none⟩ = some (.slice o len cap)) := by
        intro W hq; rw [hW0] at hq; exact (box_cells w _ _ o len cap _ W hq).2.2
      have HQ0 : Hid (Quiet0 w W0) := by rw [hW0]; exact Quiet0.alloc _ _
      go_enter Tryd.func77, Tryd.ntmps77
      go_wp2_with fail
      change Code.wp _ _ _ _ (w.alloc (.cells #[.int .i64 5, .int .i64 0, .slice o len cap] 25))
      rw [← hW0]
      clear hW0
      generalize w.heap.size = nb at *
      go_loopw [4] (fun t wr => ∃ i : Nat, t = .int .i64 i ∧ i ≤ len ∧ res = (ps.drop i).right ∧ Quiet0 W0 wr) (fun t _ => len - (intOf t).toNat)
      case atStart => exact ⟨0, rfl, Nat.zero_le _, by rw [Fo.drop_zero]; exact HRES.out, Quiet0.refl _⟩
      case round =>
        obtain ⟨i, rfl, hi, hr, hq⟩ := hrel
        have HRR := Lib.hid hr
        have HQ := Lib.hid hq
        have c2 := HB.out wr hq
        clear hr hq
        by_cases hlt : i < len
        · have hlt' : (i : Int) < len := by omega
          obtain ⟨b, off, k1, n1, qs, o1, len1, cap1, rfl, hd, hg, e0, e1, e2, hs1⟩ := (HS.out.stay (HQ0.out.trans HQ.out)).nth hlt
          have HD := Lib.hid hd
          have HC := Lib.hid (IH.out i k1 n1 qs hg wr o1 len1 cap1 hs1)
          unfold tyv at HC
          clear hd hg hs1
          cases hb : rightT k1 n1 qs
          all_goals
            have HBV := Lib.hid hb
            rw [hb] at HC
            clear hb
            go_wp2_with fail
            refine HC.out.mono ?_; rintro e w1 ⟨rfl, hq1⟩
            have HQ1 := Lib.hid (HQ.out.trans hq1)
            clear hq1
            go_wp2_with fail
          · go_ret
            exact ⟨by rw [HRR.out, HD.out, right_cons, HBV.out]; rfl, HQ0.out.trans HQ1.out⟩
          · go_roundw
            case rel => exact ⟨i + 1, by go_num, by omega, by rw [HRR.out, HD.out, right_cons, HBV.out]; rfl, HQ1.out⟩
            case measure => simp [intOf]; omega
        · have hlt' : ¬ (i : Int) < len := by omega
          go_wp2_with fail
          go_ret
          exact ⟨by rw [HRR.out, Fo.drop_end ps i (by have := HL.out; omega)]; rfl, HQ0.out.trans HQ.out⟩
end Go.Proofs.YtnfodiedalhlhaaDoor
end
