/-
  types.Vars. Conditions: the types lie in memory as told; their numbers are in range; there are few of them.
-/
import Derived.Test.YtggidhgifaekbaaDoorTySize
import Derived.Test.YtggidhgifaekbaaDoorTyMap
import Derived.Test.YtggidhgifaekbaaDoorTyChange
namespace Go.Proofs.YtggidhgifaekbaaDoor
open Go.RowKit Go.Maps

theorem elemInt : Elem Tryd.prog 45 3 (.int .i64 0) 1 8 :=
  ⟨Tryd.underlying45, by kernel_rfl, by decide, by decide⟩
def varStep (l : List Int) (k n : Int) (_ : Fo) : List Int := if k == 1 && !inB l n then l ++ [n] else l
theorem vars_fold : ∀ (f : Fo) (l : List Int), foldF varStep l f = Fo.vars l f
  | .nil, l => rfl
  | .cons k n ps r, l => by
    show foldF varStep (foldF varStep (varStep l k n ps) ps) r = _
    rw [vars_fold ps, vars_fold r]; rfl
def seenP (l : List Int) (v : Int) : Int := if inB l v then 1 else 0
def ints (l : List Int) : List Value := l.map (Value.int .i64)
/-- what Vars' closure has under way -/
def VarsJ (w0 : World) (cs co bm : Nat) (m : Nat) (l : List Int) (W : World) : Prop :=
  ∃ vo, Box1 W cs (.map (some bm)) 84 ∧ Box1 W co vo 45 ∧ MapOf W bm m (seenP l) ∧ W.ownsRow 0 3 1 vo l.length (ints l) ∧ (∀ g, vo.ownBlock = some g → w0.heap.size ≤ g ∧ g ≠ cs ∧ g ≠ co ∧ g ≠ bm) ∧ l.length ≤ m ∧ Quiet0 w0 W
def VarsS (co bm : Nat) (W : World) (k : Nat) : Prop := k = co ∨ k = bm ∨ ∃ vo, Box1 W co vo 45 ∧ vo.ownBlock = some k
theorem Box1.inj {w : World} {c : Nat} {v u : Value} {t t' : TypeId} (h : Box1 w c v t) (h' : Box1 w c u t') : v = u := by
  unfold Box1 at *
  rw [h] at h'
  injection h' with h'
  injection h' with h1 h2 h3
  have := congrArg (fun a : Array Value => a[0]?) h1
  simpa using this
theorem Box1.back {w : World} {c : Nat} {v u : Value} {t t' : TypeId} {o : Obj} (h : Box1 w c v t) (h' : Box1 (w.alloc o) c u t') : Box1 w c u t' := by
  have := lt_of_block h
  unfold Box1 at *
  rw [Below.heap_alloc _ _ _ this] at h'; exact h'
theorem Box1.fr {w w' : World} {c : Nat} {v : Value} {t : TypeId} {S : Nat → Prop} (h : Box1 w c v t) (hf : Fr S w w') (hS : ¬ S c) : Box1 w' c v t := by
  have := lt_of_block h
  unfold Box1 at *
  rw [hf.block c this hS]; exact h
theorem inB_snoc (l : List Int) (n v : Int) : inB (l ++ [n]) v = (inB l v || v == n) := by
  unfold inB; rw [Bool.eq_iff_iff]; simp
set_option maxHeartbeats 2000000 in
set_option maxRecDepth 100000 in
theorem vars1_any (w0 : World) (cs co bm : Nat) (hcs : w0.heap.size ≤ cs) (hco : w0.heap.size ≤ co) (hbm : w0.heap.size ≤ bm) (h12 : cs ≠ co) (h13 : cs ≠ bm) (h23 : co ≠ bm) :
    EachK 82 #[.pointer (some ⟨cs, 0, none⟩), .pointer (some ⟨co, 0, none⟩)] 10000000 w0 wfI (VarsS co bm) varStep (VarsJ w0 cs co bm) where
  quiet := fun m l W h => by obtain ⟨vo, _, _, _, _, _, _, h⟩ := h; exact h
  alloc := fun m l W o h => by
    obtain ⟨vo, h1, h2, h3, h4, h5, h6, h7⟩ := h
    exact ⟨vo, h1.alloc o, h2.alloc o, h3.stay (Quiet0.alloc _ _), h4.alloc o, h5, h6, h7.trans (Quiet0.alloc _ _)⟩
  low := fun m l W h k hk => by
    obtain ⟨vo, h1, h2, h3, h4, h5, h6, h7⟩ := h
    rcases hk with rfl | rfl | ⟨vo', hb, hk⟩
    · exact lt_of_block h2
    · exact h3.lt
    · have := h2.inj hb
      subst this
      exact (h4.lt k hk).2
  back := fun m l W o k h hk => by
    obtain ⟨vo, h1, h2, h3, h4, h5, h6, h7⟩ := h
    rcases hk with rfl | rfl | ⟨vo', hb, hk⟩
    · exact .inl rfl
    · exact .inr (.inl rfl)
    · exact .inr (.inr ⟨vo', h2.back hb, hk⟩)
  call := by
    intro m l k n ps W o len cap hm hJ hs hgn
    have HJ := Lib.hid hJ
    obtain ⟨vo, h1, h2, h3, h4, h5, h6, h7⟩ := hJ
    have HW := Lib.hid hgn
    have H1 := Lib.hid h1
    have H2 := Lib.hid h2
    have H3 := Lib.hid (h3.stay (Quiet0.alloc W (.cells #[.int .i64 k, .int .i64 n, .slice o len cap] 24)))
    have H4 := Lib.hid h4
    have H5 := Lib.hid h5
    have H6 := Lib.hid h6
    have H7 := Lib.hid h7
    have hb1 := h1.alloc (.cells #[.int .i64 k, .int .i64 n, .slice o len cap] 24)
    have hb2 := h2.alloc (.cells #[.int .i64 k, .int .i64 n, .slice o len cap] 24)
    have c1 := cell_of_one hb1
    have c2 := cell_of_one hb2
    have z2 := free_of_one hb2
    have hcl := lt_of_block h1
    have hol := lt_of_block h2
    have HQA : Hid (Quiet0 W (W.alloc (.cells #[.int .i64 k, .int .i64 n, .slice o len cap] 24))) := Quiet0.alloc _ _
    have HNO : Hid (varStep l k n ps = l → ∀ W', Quiet0 W W' → VarsJ w0 cs co bm (m + 1) (varStep l k n ps) W' ∧ Fr (VarsS co bm W) W W') := by
      intro e W' hq
      rw [e]
      refine ⟨⟨vo, h1.fr hq (fun h => h), h2.fr hq (fun h => h), ?_, ownsRow_fr h4 hq (fun _ _ h => h), h5, by omega, h7.trans hq⟩, hq.mono (fun _ _ h => h.elim)⟩
      obtain ⟨D, hD, hM, hA⟩ := h3.stay hq
      exact ⟨D, hD.mono (by omega), hM, hA⟩
    clear h1 h2 h3 h4 h5 h6 h7 hgn hs hb1 hb2
    have hlk := H3.out.look HW.out
    unfold tyv
    cases hk : (k == 1)
    · go_enter Tryd.func82, Tryd.ntmps82
      go_wp2_with fail
      go_end0
      exact ⟨rfl, HNO.out (by unfold varStep; rw [hk]; rfl) _ HQA.out⟩
    · cases hin : inB l n
      · have hsn : (seenP l n == 0) = true := by unfold seenP; rw [hin]; rfl
        have hsz : seenP l n = 0 := by unfold seenP; rw [hin]; rfl
        have HV : Hid (varStep l k n ps = l ++ [n]) := by show _ = _; unfold varStep; rw [hk, hin]; rfl
        have HIN := Lib.hid hin
        clear hin
        rw [hsz] at hlk
        have hbm := H3.out.lt
        have hbmW : bm < W.heap.size := by
          obtain ⟨vo', _, _, h3, _⟩ := HJ.out
          exact h3.lt
        have hbx := heap_alloc_new W (.cells #[.int .i64 k, .int .i64 n, .slice o len cap] 24)
        have HBX := Lib.hid hbx
        clear hbx hsz hsn
        go_enter Tryd.func82, Tryd.ntmps82
        go_wp2_with (at_mapUpdate; go_must (refine wpList_store _ rfl _ _ _ rfl rfl H3.out ?hn n 1 HW.out (wfI_of (by omega) (by omega)) rfl rfl ?_))
        case hn => unfold maxLen; omega
        intro w1 hm1 hf1
        have B1 := Lib.hid (Box1.fr (H1.out.alloc _) hf1 (fun h => h13 h))
        have B2 := Lib.hid (Box1.fr (H2.out.alloc _) hf1 (fun h => h23 h))
        have HB1 : Hid (w1.heap[W.heap.size]? = some (.cells #[.int .i64 k, .int .i64 n, .slice o len cap] 24 (0, 0))) := by
          show _ = _
          rw [hf1.block W.heap.size (by simp) (fun h => by have h' : W.heap.size = bm := h; omega)]; exact HBX.out
        have HM1 := Lib.hid hm1
        have HF1 := Lib.hid hf1
        have H41 : Hid (w1.ownsRow 0 3 1 vo l.length (ints l)) := ownsRow_fr (H4.out.alloc _) hf1 (fun g hg h => (H5.out g hg).2.2.2 h)
        obtain ⟨g0, g1, g2, _, _, _⟩ := box_cells3 HB1.out
        have d2 := cell_of_one B2.out
        clear c1 c2 z2 hlk hm1 hf1
        go_wp2_with (at_builtin; go_must (refine wpList_append_one w1 rfl (.tmp 19) (.tmp 22) 45 rfl 3 _ 1 8 elemInt vo l.length (ints l) rfl H41.out #[.int .i64 n] rfl rfl ?c1 ?c2 ?c3 ?_))
        case c1 => simp [Value.oneCell']
        case c2 => have := H6.out; unfold maxLen; omega
        case c3 => have := H6.out; omega
        intro gg c' w2 ho hf hgg
        have hz1 : W.heap.size + 1 ≤ w1.heap.size := by have := HF1.out.size; simpa using this
        have C1 := Lib.hid (Box1.fr B1.out hf (fun h => (H5.out _ h).2.1 rfl))
        have C2 := Lib.hid (Box1.fr B2.out hf (fun h => (H5.out _ h).2.2.1 rfl))
        have CM := Lib.hid (HM1.out.fr hf (fun h => (H5.out _ h).2.2.2 rfl))
        have e2 := cell_of_one C2.out
        have y2 := free_of_one C2.out
        have HOW := Lib.hid ho
        have HFW := Lib.hid hf
        have HGG : Hid (w0.heap.size ≤ gg ∧ gg ≠ cs ∧ gg ≠ co ∧ gg ≠ bm) := by
          rcases hgg with h | h
          · exact H5.out gg h
          · have := H7.out.size
            exact ⟨by omega, by omega, by omega, by omega⟩
        clear g0 g1 g2 d2 ho hf hgg
        go_wp2_with fail
        go_end0
        have hset := Fr.setCell (fun j => j = co) w2 ⟨co, 0, none⟩ (.slice (some ⟨gg, 0, none⟩) (l.length + 1) c') rfl
        refine ⟨rfl, ?_, ?_⟩
        · rw [HV.out]
          refine ⟨.slice (some ⟨gg, 0, none⟩) (l.length + 1) c', C1.out.fr hset (fun h => h12 h), one_setCell C2.out, (CM.out.fr hset (fun h => h23 h.symm)).cong ?_, ?_, ?_, by simp; have := H6.out; omega, ?_⟩
          · intro v hv
            unfold seenP
            rw [inB_snoc]
            by_cases he : v = n
            · simp [he]
            · simp [he]
          · have hrow := ownsRow_setCell_other HOW.out ⟨co, 0, none⟩ (.slice (some ⟨gg, 0, none⟩) (l.length + 1) c') (by
              intro h; simp [Value.ownBlock] at h; exact HGG.out.2.2.1 h)
            simpa [ints] using hrow
          · intro g hg
            simp [Value.ownBlock] at hg
            subst hg
            exact HGG.out
          · refine Fr.trans' (Fr.trans' (Fr.trans' (H7.out.trans HQA.out) HF1.out (fun i hi h => ?_)) HFW.out (fun i hi h => ?_)) hset (fun i hi h => ?_)
            · have h' : i = bm := h; omega
            · have := (H5.out i h).1; omega
            · have h' : i = co := h; omega
        · refine Fr.trans' (Fr.trans' (Fr.trans' (HQA.out.mono (fun _ _ h => h.elim)) HF1.out (fun i hi h => .inr (.inl h))) HFW.out (fun i hi h => .inr (.inr ⟨vo, H2.out, h⟩))) hset (fun i hi h => .inl h)
      · have hsn : (seenP l n == 0) = false := by unfold seenP; rw [hin]; rfl
        go_enter Tryd.func82, Tryd.ntmps82
        go_wp2_with fail
        go_end0
        exact ⟨rfl, HNO.out (by unfold varStep; rw [hk, hin]; rfl) _ HQA.out⟩
end Go.Proofs.YtggidhgifaekbaaDoor
