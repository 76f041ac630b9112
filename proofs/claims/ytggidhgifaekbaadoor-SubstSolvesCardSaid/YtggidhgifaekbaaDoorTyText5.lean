/-
  types.text of a tuple. Conditions: as TyText's; the parts by induction.
-/
import Derived.Test.YtggidhgifaekbaaDoorTyText4
import Derived.Deep.AppendLies
namespace Go.Proofs.YtggidhgifaekbaaDoor
open Go.RowKit

theorem elemStr : Elem Tryd.prog 110 9 (.string ByteArray.empty) 1 16 :=
  ⟨Tryd.underlying110, by kernel_rfl, by decide, by decide⟩
theorem ownsRow_cap {w : World} {base : Nat} {e : TypeId} {size g n c : Nat} {xs : List Value} (h : w.ownsRow base e size (.slice (some ⟨g, 0, none⟩) n c) n xs) : n ≤ c := by
  rcases h.2 with ⟨h1, _⟩ | ⟨g', cap, cur, he, _, _, hc, _⟩
  · cases h1
  · injection he with h1 h2 h3; omega
/-- append of one element, in a region that draws its order -/
theorem step_append_one {P : Program} (W : World) {ops : Array Oper} {o : Oper} {a : Act} {K : Act → World → Prop} {Q : Exit → Act → World → Prop} {E : Prop}
    (hg : o.guard = none) (s x : Operand) (t : TypeId) (hop : o.op = Op.call { callee := Callee.builtin Builtin.append, args := #[s, x], argTypes := #[t, t] })
    (e : TypeId) (z : Value) (size bytes : Nat) (he : Elem P t e z size bytes)
    (v : Value) (n : Nat) (xs : List Value) (hs : a.eval s = v) (hown : W.ownsRow 0 e size v n xs)
    (news : Array Value) (hx : a.eval x = .slice (some ⟨W.heap.size, 0, none⟩) 1 1) (hn : news.size = size) (h1c : ∀ u ∈ news.toList, u.oneCell' = true)
    (b1 : n + 1 ≤ maxLen) (b2 : (n + 1) * bytes ≤ 140737488355328)
    (hK : ∀ g c w', w'.ownsRow 0 e size (.slice (some ⟨g, 0, none⟩) (n + 1) c) (n + 1) (xs ++ news.toList) → Fr (fun k => v.ownBlock = some k) W w' → (v.ownBlock = some g ∨ W.heap.size ≤ g) → K (a.put o.dst (.slice (some ⟨g, 0, none⟩) (n + 1) c)) w') :
    if Region.wanted o (yielded ops a.tmps) = true then Oper.wp P o a (W.alloc (.cells news e)) K Q else E := by
  obtain ⟨i0, hi, hz0, hz1, hz2⟩ := info_parts he.info
  refine step_append_lies (w := W.alloc (.cells news e)) hg s x t hop 0 e i0 z size bytes he.under hi hz0 hz1 hz2 he.cells he.pos v n xs hs (hown.alloc _) ⟨W.heap.size, 0, none⟩ 1 1 news.toList hx (by simpa using hn) ?_ h1c (by omega) b1 b2 (Nat.zero_le _) _ rfl ?_
  · intro j u hu
    rw [Addr.add_lit, cell_of_row (W.alloc (.cells news e)) W.heap.size (0 + j) news e (0, 0) (heap_alloc_new W _)]
    simpa using hu
  · intro g cap w' ho hgr hg' _
    refine hK g cap w' ho ((Fr.alloc _ W _).trans (Fr.grown hgr (fun k hk => hk))) ?_
    rcases hg' with h | h
    · exact .inl h
    · exact .inr (by simp at h; omega)
def bl (t : Int × List UInt8) : ByteArray := tb (brackL (t.1 == 4) t.2)
theorem Fo.texts_length : ∀ f : Fo, f.texts.length = f.length
  | .nil => rfl
  | .cons k n ps r => by simp [Fo.texts, Fo.length, Fo.texts_length r]
set_option maxHeartbeats 4000000 in
set_option maxRecDepth 100000 in
theorem text_5 (n : Int) (ps : Fo) (ih : ∀ i k' n' qs, ps.get i = some (k', n', qs) → TText k' n' qs) : TText 5 n ps := by
  intro w o len cap hs hp hr hsz ht
  have hl : 2 ≤ len ∧ len ≤ 8 := by
    have := hs.1
    simp [Fo.plain] at hp
    omega
  obtain ⟨hl2, hl8⟩ := hl
  have HS := Lib.hid hs
  have HL := Lib.hid hs.1
  have HT := Lib.hid ht
  have HR := Lib.hid hr
  have IH := Lib.hid ih
  obtain ⟨sj, hsj⟩ : ∃ s, s = tb (Lib.join (ps.texts.map fun t => brackL (t.1 == 4) t.2) [32, 42, 32]) := ⟨_, rfl⟩
  have hjt := join_tot ps.texts
  have htt := tot_texts ps
  have hjz : sj.size ≤ 20000 := by rw [hsj, tb_size]; omega
  have HJZ : Hid ((Lib.join ((ps.texts.map bl).map (·.data.toList)) (⟨#[32, 42, 32]⟩ : ByteArray).data.toList).length ≤ 140737488355328 ∧ (⟨(Lib.join ((ps.texts.map bl).map (·.data.toList)) (⟨#[32, 42, 32]⟩ : ByteArray).data.toList).toArray⟩ : ByteArray) = sj) := by
    have e : (ps.texts.map bl).map (·.data.toList) = ps.texts.map fun t => brackL (t.1 == 4) t.2 := by
      rw [List.map_map]; rfl
    rw [e]
    refine ⟨?_, by rw [hsj]; rfl⟩
    show (Lib.join (ps.texts.map fun t => brackL (t.1 == 4) t.2) [32, 42, 32]).length ≤ _
    omega
  have HFIN : Hid (⟨#[40]⟩ ++ sj ++ ⟨#[41]⟩ = tb (txt 5 n ps.texts)) := by
    show _ = _
    have e : txt 5 n ps.texts = [40] ++ Lib.join (ps.texts.map fun t => brackL (t.1 == 4) t.2) [32, 42, 32] ++ [41] := rfl
    rw [e, hsj, ← tb_app, ← tb_app]; rfl
  have u1 : (⟨#[40]⟩ ++ sj : ByteArray).size = sj.size + 1 := by rw [ByteArray.size_append, Nat.add_comm]; rfl
  rw [← HFIN.out]
  clear hs hp hr ht ih hsj hjt htt HFIN
  unfold tyv
  go_enter Tryd.func70, Tryd.ntmps70
  go_wp2_with fail
  obtain ⟨W0, hW0⟩ : ∃ W0, W0 = w.alloc (.cells #[.int .i64 5, .int .i64 n, .slice o len cap] 24) := ⟨_, rfl⟩
  change Code.wp _ _ _ _ (w.alloc (.cells #[.int .i64 5, .int .i64 n, .slice o len cap] 24))
  have HQ0 : Hid (Quiet0 w W0) := by rw [hW0]; exact Quiet0.alloc _ _
  rw [← hW0]
  clear hW0
  generalize hB : w.heap.size = B at *
  clear hB
  go_loopw [3, 41] (fun v t wr => ∃ (i : Nat) (vo : Option Addr) (vc : Nat), t = .int .i64 i ∧ i ≤ len ∧ v = .slice vo i vc ∧ wr.ownsRow 0 9 1 (.slice vo i vc) i ((ps.texts.take i).map fun t => .string (bl t)) ∧ (∀ g, (Value.slice vo i vc).ownBlock = some g → W0.heap.size ≤ g) ∧ Quiet0 W0 wr) (fun _ t _ => len - (intOf t).toNat)
  case atStart => exact ⟨0, none, 0, rfl, Nat.zero_le _, rfl, World.ownsRow_nil _ _ _ _, (fun g hg => by cases hg), Quiet0.refl _⟩
  case round =>
    obtain ⟨i, vo, vc, rfl, hi, rfl, hrow, hge, hq⟩ := hrel
    have HRW := Lib.hid hrow
    have HG := Lib.hid hge
    have HQ := Lib.hid hq
    clear hrow hge hq
    by_cases hlt : i < len
    · have hlt' : (i : Int) < len := by omega
      obtain ⟨b, off, k1, n1, qs, o1, len1, cap1, rfl, hd, hg, e0, e1, e2, hs1⟩ := (HS.out.stay (HQ0.out.trans HQ.out)).nth hlt
      have hsq := Fo.size_get ps i k1 n1 qs hg
      obtain ⟨hp1, hr1⟩ := Fo.right_get _ _ _ _ _ HR.out hg
      have HTX := Lib.hid (Fo.texts_get _ _ _ _ _ hg)
      obtain ⟨s1, hs1'⟩ : ∃ s, s = tb (txt k1 n1 qs.texts) := ⟨_, rfl⟩
      obtain ⟨sb, hsb'⟩ : ∃ s, s = tb (brackL (k1 == 4) (txt k1 n1 qs.texts)) := ⟨_, rfl⟩
      have HC : Hid (∀ W, Quiet0 wr W → Calls Tryd.prog 70 #[.agg #[.int .i64 k1, .int .i64 n1, .slice o1 len1 cap1]] W fun e w' => e = .returned (.string s1) ∧ Quiet0 W w') := by
        intro W hq; rw [hs1']; exact IH.out i k1 n1 qs hg W o1 len1 cap1 (hs1.stay hq) hp1 hr1 (by omega) (HT.out.stay ((HQ0.out.trans HQ.out).trans hq))
      have HBR : Hid (∀ W, Calls Tryd.prog 108 #[.bool (k1 == 4), .string s1] W fun e w' => e = .returned (.string sb) ∧ W = w') := by
        intro W; rw [hs1', hsb']; exact bracket_any (k1 == 4) (txt k1 n1 qs.texts) (by have := txt_bound k1 n1 qs; omega) W
      have HROW : Hid ((ps.texts.take (i + 1)).map (fun t => Value.string (bl t)) = (ps.texts.take i).map (fun t => Value.string (bl t)) ++ [.string sb]) := by
        show _ = _
        rw [List.take_add_one, HTX.out, List.map_append, hsb']; rfl
      clear hd hg hs1 hsq hp1 hr1 hs1' hsb' HTX
      go_wp2_with fail
      obtain ⟨g0, g1, g2⟩ := box_cells wr k1 n1 o1 len1 cap1 24 _ (Quiet0.refl _)
      have hvb : ∀ kk, (Value.slice vo i vc).ownBlock = some kk → kk < wr.heap.size := fun kk h => (HRW.out.lt kk h).2
      go_region_held3 (fun w' => w'.cell? ⟨wr.heap.size, 0, none⟩ = some (.int .i64 k1) ∧ w'.cell? ⟨wr.heap.size, 1, none⟩ = some (.int .i64 n1) ∧ w'.cell? ⟨wr.heap.size, 2, none⟩ = some (.slice o1 len1 cap1))
        (first
          | (go_keep; done)
          | (exact ⟨j0, j1, j2⟩)
          | (exact ⟨h0, h1, h2⟩)
          | (exact ⟨(Quiet0.alloc _ _).at h0, (Quiet0.alloc _ _).at h1, (Quiet0.alloc _ _).at h2⟩)
          | (exact ⟨g0, g1, g2⟩))
        (first
          | (go_at_call 70; with_reducible refine (HC.out _ ((Quiet0.alloc _ _).trans (Quiet0.drew _))).mono ?_; rintro e w1 ⟨rfl, hq1⟩; have hqb := (Quiet0.drew _).trans hq1; have h0 := hqb.at g0; have h1 := hqb.at g1; have h2 := hqb.at g2; have hbx := World.block_lt_of_cell? w1 _ h0; have HQ1 := Lib.hid ((Quiet0.alloc _ _).trans hqb); clear hq1 hqb)
          | (go_at_call 108; with_reducible refine (HBR.out _).mono ?_; rintro e w1' ⟨rfl, rfl⟩)
          | (refine step_append_one w1 (by rfl) (.tmp 45) (.tmp 52) 110 (by rfl) 9 _ 1 16 elemStr (.slice vo i vc) i ((ps.texts.take i).map fun t => .string (bl t)) (by rfl) (ownsRow_fr HRW.out HQ1.out (fun _ _ h => h)) #[.string sb] (by rfl) (by rfl) (by simp [Value.oneCell']) (by unfold maxLen; omega) (by omega) ?_; intro g2' c' w2 ho hf hg2; have j0 := (hf.cellb hbx (fun h => by have := hvb _ h; omega)).trans h0; have j1 := (hf.cellb hbx (fun h => by have := hvb _ h; omega)).trans h1; have j2 := (hf.cellb hbx (fun h => by have := hvb _ h; omega)).trans h2))
      all_goals
        have HO : Hid (w2.ownsRow 0 9 1 (.slice (some ⟨g2', 0, none⟩) (i + 1) c') (i + 1) ((ps.texts.take (i + 1)).map fun t => .string (bl t))) := by
          show World.ownsRow _ _ _ _ _ _ _
          rw [HROW.out]; simpa using ho
        have HQ2 : Hid (Quiet0 W0 w2) := by
          exact Fr.trans' (HQ.out.trans HQ1.out) hf (fun kk hkk h => absurd (HG.out kk h) (by omega))
        have HG2 : Hid (∀ g', (Value.slice (some ⟨g2', 0, none⟩) (i + 1) c').ownBlock = some g' → W0.heap.size ≤ g') := by
          intro g' h
          simp [Value.ownBlock] at h
          subst h
          rcases hg2 with h | h
          · exact HG.out _ h
          · exact Nat.le_trans (HQ.out.trans HQ1.out).size h
        clear ho hf hg2
        go_wp2_with fail
        go_roundw
        case rel => exact ⟨i + 1, some ⟨g2', 0, none⟩, c', by go_num, by omega, rfl, HO.out, HG2.out, HQ2.out⟩
        case measure => simp [intOf]; omega
    · have hil : i = len := by omega
      subst hil
      have hlt' : ¬ (i : Int) < i := by omega
      have htk : ps.texts.take i = ps.texts := List.take_of_length_le (by rw [Fo.texts_length]; have := HL.out; omega)
      rw [htk] at HRW
      obtain ⟨g, hvo⟩ : ∃ g, vo = some ⟨g, 0, none⟩ := by
        rcases HRW.out.2 with ⟨h1, h2⟩ | ⟨g, cap, cur, he, _⟩
        · omega
        · injection he with h1 h2 h3; exact ⟨g, h1⟩
      subst hvo
      have hcap := ownsRow_cap HRW.out
      have hgl := (HRW.out.lt g rfl).2
      have hcells : ∀ (j : Nat) x, (ps.texts.map bl)[j]? = some x → wr.cell? ⟨g, 0 + j, none⟩ = some (.string x) := by
        intro j x hx
        have := HRW.out.cells (g := g) rfl j (.string x) (by
          rw [List.getElem?_map] at hx ⊢
          cases ht : ps.texts[j]? with
          | none => rw [ht] at hx; cases hx
          | some t => rw [ht] at hx; simp at hx ⊢; exact hx)
        simpa [Addr.add_lit] using this
      have hlen' : (ps.texts.map bl).length = i := by rw [List.length_map, Fo.texts_length]; exact HL.out.symm
      have hJ := Tryd.strings_Join g 0 vc (ps.texts.map bl) ⟨#[32, 42, 32]⟩ wr hcells hgl (by omega) (by omega) HJZ.out.1
      rw [HJZ.out.2, hlen'] at hJ
      have HJ := Lib.hid hJ
      clear hJ hcells htk hlen'
      go_wp2_with fail
      refine HJ.out.mono ?_; rintro e w2 ⟨rfl, hb⟩
      have HB2 := Lib.hid (Quiet0.of_below hb)
      clear hb
      go_wp2_with fail
      go_ret
      exact ⟨rfl, (HQ0.out.trans HQ.out).trans HB2.out⟩
theorem text_any (k n : Int) (ps : Fo) : TText k n ps := by
  refine Fo.ind' (T := TText) ?_ k n ps
  intro k n ps ih
  by_cases h : k = 1 ∨ k = 2 ∨ k = 3
  · exact text_123 k n ps h
  · by_cases h4 : k = 4
    · subst h4; exact text_4 n ps ih
    · by_cases h5 : k = 5
      · subst h5; exact text_5 n ps ih
      · intro w o len cap hs hp
        exfalso
        have q1 : ¬ k = 1 := fun e => h (.inl e)
        have q2 : ¬ k = 2 := fun e => h (.inr (.inl e))
        have q3 : ¬ k = 3 := fun e => h (.inr (.inr e))
        simp [Fo.plain, q1, q2, q3, h4, h5] at hp
end Go.Proofs.YtggidhgifaekbaaDoor
