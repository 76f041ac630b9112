/-
  Texts laid together (EqPart, EqPk, EqTerm, EqHeld, EqTVar): laws and walks, with their conditions.
-/
import Derived.Test.YtcninopmelmajaaGreatDoorMN12
set_option maxHeartbeats 8000000
set_option maxRecDepth 1000000
namespace Go.Proofs.YtcninopmelmajaaGreatDoor
open Go.Lib (hid)
section
open Go.RowKit
namespace Em
theorem tv_inj {a b : Nat} (h : tv a = tv b) : a = b := by
 have : ((a : Int), Fo.nil) = ((b : Int), Fo.nil) := (Prod.mk.inj h).2
 have := (Prod.mk.inj this).1
 omega
def RowV : List Value -> List Ty -> Prop
 | xs, [] => xs = []
 | xs, t :: r => ∃ (n : Nat) (o : Option Addr) (c : Nat) (ys : List Value), t = tv n /\ xs = [.int .i64 1, .int .i64 n, .slice o 0 c] ++ ys /\ RowV ys r
theorem RowV.snoc (n : Nat) (o : Option Addr) (c : Nat) : ∀ (l : List Ty) (xs : List Value), RowV xs l -> RowV (xs ++ [.int .i64 1, .int .i64 n, .slice o 0 c]) (l ++ [tv n])
 | [], xs, h => by cases h; exact ⟨n, o, c, [], rfl, by simp, rfl⟩
 | t :: r, xs, h => by
  obtain ⟨n', o', c', ys, e, rfl, hr⟩ := h
  exact ⟨n', o', c', _, e, by rw [List.append_assoc], RowV.snoc n o c r ys hr⟩
theorem RowV.get : ∀ (l : List Ty) (xs : List Value) (i : Nat), RowV xs l -> i < l.length -> ∃ (n : Nat) (o : Option Addr) (c : Nat), l[i]? = some (tv n) /\ xs[i * 3]? = some (.int .i64 1) /\ xs[i * 3 + 1]? = some (.int .i64 n) /\ xs[i * 3 + 2]? = some (.slice o 0 c)
 | [], xs, i, _, h => by simp at h
 | t :: r, xs, 0, h, _ => by
  obtain ⟨n, o, c, ys, rfl, rfl, hr⟩ := h
  exact ⟨n, o, c, by simp⟩
 | t :: r, xs, i + 1, h, hi => by
  obtain ⟨n, o, c, ys, rfl, rfl, hr⟩ := h
  obtain ⟨n', o', c', k⟩ := RowV.get r ys i hr (by simpa using hi)
  refine ⟨n', o', c', ?_⟩
  rw [show (i + 1) * 3 = i * 3 + 3 from by omega]
  simpa using k
theorem RowV.at {T : Nat -> Prop} {w : World} {g : Nat} (hg : T g) (hgl : g < w.heap.size) : ∀ (l : List Ty) (xs : List Value) (off : Nat), RowV xs l -> (∀ j u, xs[j]? = some u -> w.cell? ⟨g, off + j, none⟩ = some u) -> AtIn T w g off (foOf l)
 | [], _, _, _, _ => trivial
 | t :: r, xs, off, h, hc => by
  obtain ⟨n, o, c, ys, rfl, rfl, hr⟩ := h
  refine ⟨hg, hc 0 _ rfl, hc 1 _ rfl, ⟨o, 0, c, hc 2 _ rfl, rfl, Nat.zero_le _, fun h => absurd h (Nat.lt_irrefl _)⟩, RowV.at hg hgl r ys (off + 3) hr ?_⟩
  intro j u hj
  have := hc (j + 3) u (by simpa using hj)
  rw [<- this]; congr 2; omega
def PtAt (T : Nat -> Prop) (w : World) (o : Option Addr) (l : List Ty) : Prop := l.length <= maxLen /\ (l = [] ∨ ∃ g, o = some ⟨g, 0, none⟩ /\ T g /\ g < w.heap.size /\ ∃ xs, RowV xs l /\ ∀ j u, xs[j]? = some u -> w.cell? ⟨g, j, none⟩ = some u)
theorem foOf_length : ∀ l : List Ty, (foOf l).length = l.length
 | [] => rfl
 | t :: r => by simp only [foOf, Fo.length, List.length_cons]; rw [foOf_length r]
theorem PtAt.slc {T : Nat -> Prop} {w : World} {o : Option Addr} {l : List Ty} (h : PtAt T w o l) : SlcIn T w o l.length (foOf l) := by
 refine ⟨(foOf_length l).symm, h.1, fun hl => ?_⟩
 rcases h.2 with e | ⟨g, h1, h2, h3, xs, h4, h5⟩
 ·subst e; simp at hl
 ·exact ⟨g, 0, h1, RowV.at h2 h3 l xs 0 h4 (fun j u hj => by rw [Nat.zero_add]; exact h5 j u hj)⟩
theorem PtAt.get {T : Nat -> Prop} {w : World} {o : Option Addr} {l : List Ty} (h : PtAt T w o l) {i : Nat} (hi : i < l.length) : ∃ (g n : Nat) (oo : Option Addr) (cc : Nat), o = some ⟨g, 0, none⟩ /\ tat l i = tv n /\ w.cell? ⟨g, i * 3, none⟩ = some (.int .i64 1) /\ w.cell? ⟨g, i * 3 + 1, none⟩ = some (.int .i64 n) /\ w.cell? ⟨g, i * 3 + 2, none⟩ = some (.slice oo 0 cc) := by
 rcases h.2 with e | ⟨g, h1, h2, h3, xs, h4, h5⟩
 ·subst e; simp at hi
 ·obtain ⟨n, oo, cc, k0, k1, k2, k3⟩ := RowV.get l xs i h4 hi
  exact ⟨g, n, oo, cc, h1, by unfold tat; rw [List.getD_eq_getElem?_getD, k0]; rfl, h5 _ _ k1, h5 _ _ k2, h5 _ _ k3⟩
structure PRow (W0 W : World) (v : Value) (l : List Ty) (xs : List Value) : Prop where
 own : W.ownsRow 0 24 3 v l.length xs
 low : ∀ k, v.ownBlock = some k -> W0.heap.size <= k
 cells : RowV xs l
theorem PRow.nil (W0 W : World) : PRow W0 W (.slice none 0 0) [] [] := ⟨World.ownsRow_nil _ _ _ _, fun k hk => (by cases hk), rfl⟩
def PtQ (X : Nat -> Prop) (most : Int) (pb : Nat) (W : World) (r : List Ty × Mk) (x : Ending) (w' : World) : Prop := ∃ o c, x = .returned (.slice o r.1.length c) /\ r.1.length <= c /\ PtAt (TF X pb w') w' o r.1 /\ MkE X most pb w' r.2 /\ Later pb W w'
abbrev XO (X : Nat -> Prop) (v : Value) : Nat -> Prop := fun i => X i ∨ v.ownBlock = some i
theorem PRow.later {X : Nat -> Prop} {most : Int} {pb : Nat} {W0 W W' : World} {k : Mk} {v : Value} {l : List Ty} {xs : List Value} (h : PRow W0 W v l xs) (hm : MkE (XO X v) most pb W k) (hl : Later pb W W') : PRow W0 W' v l xs :=
 ⟨ownsRow_fr h.own hl.fr (fun _ hg => hm.far (.inr hg)), h.low, h.cells⟩
theorem PRow.snoc {X : Nat -> Prop} {most : Int} {pb : Nat} {W0 W w' : World} {k : Mk} {v : Value} {l : List Ty} {xs : List Value} (h : PRow W0 W v l xs) (hm : MkE (XO X v) most pb W k) (hl : Later pb W0 W) (hp : pb < W0.heap.size) (n : Nat) (o : Option Addr) (c : Nat) {g c' : Nat}
    (ho : w'.ownsRow 0 24 3 (.slice (some ⟨g, 0, none⟩) (l.length + 1) c') (l.length + 1) (xs ++ [.int .i64 1, .int .i64 n, .slice o 0 c])) (hf : Fr (fun i => v.ownBlock = some i) W w') (hg : v.ownBlock = some g ∨ (W.heap.size <= g /\ Quiet0 W w')) :
    PRow W0 w' (.slice (some ⟨g, 0, none⟩) (l.length + 1) c') (l ++ [tv n]) (xs ++ [.int .i64 1, .int .i64 n, .slice o 0 c]) /\ MkE (XO X (.slice (some ⟨g, 0, none⟩) (l.length + 1) c')) most pb w' k /\ Later pb W0 w' := by
 have hb : ∀ i, (Value.slice (some ⟨g, 0, none⟩) (l.length + 1) c').ownBlock = some i -> i = g := fun i hi => by simp [Value.ownBlock] at hi; exact hi.symm
 refine ⟨⟨by rw [List.length_append]; exact ho, fun i hi => ?_, RowV.snoc n o c l xs h.cells⟩, ?_, hl.put hf hp (fun i hi => h.low i hi)⟩
 ·rw [hb i hi]
  rcases hg with e | ⟨e, _⟩
  ·exact h.low g e
  ·exact Nat.le_trans hl.size e
 ·rcases hg with e | ⟨e, hq⟩
  ·exact (hm.put (hf.mono (fun i _ hi => .inr hi))).less (fun i hi => hi.elim .inl (fun hi => .inr (by rw [hb i hi]; exact e)))
  ·exact (hm.more hq (fun i => i = g) (fun i hi => by subst hi; exact ⟨e, (ho.lt i rfl).2⟩)).less (fun i hi => hi.elim (fun hx => .inl (.inl hx)) (fun hi => .inr (hb i hi)))
theorem ptq_of {X : Nat -> Prop} {most : Int} {pb : Nat} {W W' : World} {r : List Ty × Mk} {o : Option Addr} {n c : Nat} {xs : List Value} (hx : ∀ i, X i -> i < W.heap.size) (hn : n = r.1.length) (h : PRow W W' (.slice o n c) r.1 xs) (hm : MkE (XO X (.slice o n c)) most pb W' r.2) (hl : Later pb W W') (hz : r.1.length <= maxLen) : PtQ X most pb W r (.returned (.slice o n c)) W' := by
 subst hn
 have hc : r.1.length <= c /\ PtAt (TF X pb W') W' o r.1 := by
  rcases h.own.2 with ⟨h1, h2⟩ | ⟨g, cap, cur, h1, h2, h3, h4, h5, _⟩
  ·injection h1 with e1 e2 e3
   exact ⟨by omega, hz, .inl (List.eq_nil_of_length_eq_zero h2)⟩
  ·injection h1 with e1 e2 e3
   subst e1
   have hlow := h.low g rfl
   have hfar := hm.far (i := g) (.inr rfl)
   refine ⟨by omega, hz, .inr ⟨g, rfl, ⟨fun e => hfar (.inl e), fun e => hfar (.inr e), fun e => by have := hx g e; omega⟩, (h.own.lt g rfl).2, xs, h.cells, fun j u hj => ?_⟩⟩
   have := h.own.cells (g := g) rfl j u hj
   simpa [Addr.add_lit] using this
 exact ⟨o, c, rfl, hc.1, hc.2, hm.less (fun i hi => .inl hi), hl⟩
theorem elemTy : Elem Tryz.prog 22 24 (.agg #[.int .i64 0, .int .i64 0, .slice none 0 0]) 3 40 :=
 ⟨Tryz.underlying22, by kernel_rfl, by decide, by decide⟩
theorem mapE_drop (e : Env) : ∀ (vs : List (Env -> Pm Ty)) (i : Nat) (v : Env -> Pm Ty) (m : Mk), vs[i]? = some v -> mapE e (vs.drop i) m = ((v e m).1 :: (mapE e (vs.drop (i + 1)) (v e m).2).1, (mapE e (vs.drop (i + 1)) (v e m).2).2)
 | [], i, v, m, h => by simp at h
 | u :: r, 0, v, m, h => by simp at h; subst h; rfl
 | u :: r, i + 1, v, m, h => by simpa using mapE_drop e r i v m (by simpa using h)
theorem mapE_length (e : Env) : ∀ (vs : List (Env -> Pm Ty)) (m : Mk), (mapE e vs m).1.length = vs.length
 | [], _ => rfl
 | v :: r, m => by
  show ((v e m).1 :: (mapE e r (v e m).2).1).length = _
  rw [List.length_cons, mapE_length e r, List.length_cons]
def PtI (X : Nat -> Prop) (most : Int) (pb : Nat) (W0 : World) (E : Env) (vs : List (Env -> Pm Ty)) (fin : List Ty × Mk) (lo : Nat) (a t : Value) (wr : World) : Prop :=
 ∃ (i : Nat) (mki : Mk) (l : List Ty) (o : Option Addr) (c : Nat) (xs : List Value), t = .int .i64 i /\ a = .slice o i c /\ i <= vs.length /\ l.length = i /\ l ++ (mapE E (vs.drop i) mki).1 = fin.1 /\ (mapE E (vs.drop i) mki).2 = fin.2 /\ PRow W0 wr (.slice o i c) l xs /\ MkE (XO X (.slice o i c)) most pb wr mki /\ Later pb W0 wr /\ lo <= mki.next
theorem parts_any (h : Nd) (ps : To) (ih : ∀ i g qs, ps.get i = some (g, qs) -> TmT g qs) (W : World) (R X : Nat -> Prop) (most : Int) (pb : Nat) (mk : Mk) (o1 : Option Addr) (l1 c1 : Nat) (o2 : Option Addr) (l2 c2 : Nat) (eo : Option Addr) (en ec : Nat) (e : FEnv) (E : Env)
    (hs2 : TSlc R W o2 l2 ps) (hR : ∀ i, R i -> i < pb) (hm : MkE X most pb W mk) (hmost : most <= 4096) (hb : BfE pb W eo en e) (hec : en <= ec) (hz : en + ps.size <= 100000) (hE : EnvM most pb mk.next W e E) (hokl : okTL ps) (hfr : ∀ j g qs, ps.get j = some (g, qs) -> Sc.free1 (names e) g qs = []) (hN : (mapE E (valsM most ps) mk).2.next <= NBd) :
    Calls Tryz.prog 71 #[.pointer (some ⟨pb, 0, none⟩), tmv h o1 l1 c1 o2 l2 c2, .slice eo en ec] W (PtQ X most pb W (mapE E (valsM most ps) mk)) := by
 obtain ⟨W0, hW0⟩ : ∃ W0, W0 = W.alloc (.cells (cells9 h o1 l1 c1 o2 l2 c2) 29) := ⟨_, rfl⟩
 have hq0 : Quiet0 W W0 := by rw [hW0]; exact Quiet0.alloc _ _
 have h4 : Bx pb W0 W.heap.size (cells9 h o1 l1 c1 o2 l2 c2) 29 := Bx.new hm hq0 (Nat.le_refl _) (by rw [hW0]; exact heap_alloc_new W _)
 have hp := hm.lt
 have hl0 := Later.of_quiet hq0 hp
 have HL0 := hid hl0
 have HM := hid hm
 have HM0 := hid (hm.stay hq0)
 have HX := hid hm.old
 have H4 := hid h4
 have HP := hid hp
 have HS2 := hid hs2
 have HR := hid hR
 have HBF := hid hb
 have HE := hid hE
 have HOKL := hid hokl
 have HFR := hid hfr
 have HMO := hid hmost
 have HLEN : Hid (l2 = ps.length) := hs2.1
 have HMX : Hid (l2 <= 100000) := by have := To.length_le ps; rw [<- hs2.1] at this; show _ <= _; omega
 have HVL : Hid ((valsM most ps).length = l2) := by show _ = _; rw [valsM_length, hs2.1]
 have IH := hid ih
 have hmx : l2 <= 100000 := HMX.out
 obtain ⟨fin, hfin⟩ : ∃ fin, mapE E (valsM most ps) mk = fin := ⟨_, rfl⟩
 have HFIN := hid hfin
 have HNB : Hid (fin.2.next <= NBd) := by show _ <= _; rw [<- hfin]; exact hN
 have HFL : Hid (fin.1.length = l2) := by show _ = _; rw [<- hfin, mapE_length]; exact HVL.out
 rw [hfin]
 have HST : Hid (PtI X most pb W E (valsM most ps) fin mk.next (.slice none 0 0) (.int .i64 0) W0) := by
  refine ⟨0, mk, [], none, 0, [], rfl, rfl, Nat.zero_le _, rfl, by rw [List.drop_zero, HFIN.out]; rfl, by rw [List.drop_zero, HFIN.out], PRow.nil _ _, HM0.out.less (fun i hi => hi.elim id (fun hi => by cases hi)), HL0.out, Nat.le_refl _⟩
 have HNE := hid hE.ne
 clear ih hs2 hR hm hb hE hokl hfr hN hl0 hq0 h4 hp hfin hmost
 generalize hvs : valsM most ps = vs at *
 have HVS := hid hvs
 clear hvs
 unfold tmv
 go_enter Tryz.func71, Tryz.ntmps71
 generalize hBB : W.heap.size = B at *
 go_upto_region 1 with fail
 rw [<- hW0]
 clear hW0
 obtain ⟨a0, a1, a2, a3, a4, a5, a6, a7, a8⟩ := cells9_block H4.out.1
 go_wp2_with fail
 clear a0 a1 a2 a3 a4 a5 a6 a7 a8
 go_loopw [7, 13] (fun a t wr => PtI X most pb W E vs fin mk.next a t wr) (fun _ t _ => l2 - (intOf t).toNat)
 case atStart => exact HST.out
 case round =>
  have hPP : pb < W.heap.size := by rw [hBB]; exact HP.out
  have hXX : ∀ i, X i -> i < W.heap.size := by rw [hBB]; exact HX.out
  obtain ⟨i, mki, l, o, c, xs, rfl, rfl, hi, hll, hf1, hf2, hrow, hmi, hli, hlo⟩ := hrel
  have hil : i <= l2 := by rw [<- HVL.out]; exact hi
  by_cases hlt : i < l2
  ·have hlt' : (i : Int) < l2 := by omega
   obtain ⟨b, off, g, qs, p1, m1, d1, p2, m2, d2, rfl, hdr, hgt, hRb, hc9, hs3, hs4⟩ := HS2.out.nth hlt
   have hbp := HR.out b hRb
   have hc9' := cells_later hc9 hbp HM.out hli
   have HS3 := hid (slcin_later hs3 HR.out HM.out hli)
   have HS4 := hid (tslc_later hs4 HR.out HM.out hli)
   obtain ⟨a0, a1, a2, a3, a4, a5, a6, a7, a8⟩ := hc9'
   obtain ⟨W1, hW1⟩ : ∃ W1, W1 = wr.alloc (.cells (cells9 g p1 m1 d1 p2 m2 d2) 29) := ⟨_, rfl⟩
   have hqw : Quiet0 wr W1 := by rw [hW1]; exact Quiet0.alloc _ _
   have hbx := heap_alloc_new wr (.cells (cells9 g p1 m1 d1 p2 m2 d2) 29)
   rw [<- hW1] at hbx
   have hmw := hmi.stay hqw
   have hlw := hli.quiet hqw hPP
   have hrw := hrow.later hmi (Later.of_quiet hqw hmi.lt)
   have hvi : vs[i]? = some (termM most g qs) := by rw [<- HVS.out]; exact valsM_get most ps i g qs hgt
   have hmd := mapE_drop E vs i _ mki hvi
   rw [hmd] at hf1 hf2
   have hnx := mapE_nm HNE.out (vs := vs.drop (i + 1)) (fun v hv => by
    rw [<- HVS.out] at hv
    exact valsM_nm most ps v (List.mem_of_mem_drop hv)) (termM most g qs E mki).2
   replace hnx := hnx.1
   have hok := okTL_get ps i g qs HOKL.out hgt
   have hcall := IH.out i g qs hgt W1 R (XO X (.slice o i c)) most pb mki p1 m1 d1 p2 m2 d2 eo en ec e E (HS3.out.stay hqw) (HS4.out.stay hqw) HR.out hmw HMO.out (HBF.out.later hlw) hec (by have := To.size_get ps i g qs hgt; omega) (HE.out.later hlw hlo) hok.1 hok.2 (HFR.out i g qs hgt) (Nat.le_trans (by rw [<- hf2]; exact hnx) HNB.out)
   have HC := hid hcall
   have HMW := hid hmw
   have HLW := hid hlw
   have HRW := hid hrw
   have HF1 := hid hf1
   have HF2 := hid hf2
   have HNM := hid (termM_nm most g qs E HNE.out mki).1
   obtain ⟨d0, d1', d2', d3, d4, d5, d6, d7, d8⟩ := cells9_block hbx
   clear hf1 hf2 hrow hmi hli hmw hlw hrw hcall hnx hmd hqw hc9 hs3 hs4 hbx
   generalize termM most g qs E mki = res at *
   obtain ⟨rt, mk2⟩ := res
   dsimp only at HF1 HF2 HNM
   unfold tmv at HC
   go_upto_region 5 with fail
   change Code.wp _ _ _ _ (wr.alloc (.cells (cells9 g p1 m1 d1 p2 m2 d2) 29))
   rw [<- hW1]
   clear hW1 a0 a1 a2 a3 a4 a5 a6 a7 a8
   generalize hE1 : wr.heap.size = E1 at *
   go_wp2_with fail
   refine HC.out.mono ?_; rintro x w3 ⟨n3, o3, c3, hr3, rfl, hm3, hl3⟩
   dsimp only at hr3 hm3
   subst hr3
   have HM3 := hid hm3
   have HL3 := hid hl3
   have HR3 := hid (HRW.out.later HMW.out hl3)
   clear hm3 hl3 d0 d1' d2' d3 d4 d5 d6 d7 d8
   unfold tyv
   subst hll
   go_wp2_with (at_builtin; go_must (refine wpList_append_st w3 rfl (.tmp 17) (.tmp 22) 22 rfl 24 _ 3 40 elemTy (.slice o l.length c) l.length xs rfl HR3.out.own #[.int .i64 1, .int .i64 n3, .slice o3 0 c3] rfl rfl ?c1 (by unfold maxLen; omega) (by omega) ?_); (case c1 => simp [Value.oneCell']))
   intro g4 c4 w4 ho4 hf4 hg4
   obtain ⟨k1, k2, k3⟩ := HR3.out.snoc HM3.out (HLW.out.trans HL3.out) hPP n3 o3 c3 ho4 hf4 hg4
   have K1 := hid k1
   have K2 := hid k2
   have K3 := hid k3
   clear k1 k2 k3 ho4 hf4 hg4
   go_wp2_with fail
   go_roundw
   case rel =>
    refine ⟨l.length + 1, mk2, l ++ [tv n3], some ⟨g4, 0, none⟩, c4, _, by go_num, rfl, by rw [HVL.out]; omega, by simp, by rw [List.append_assoc]; exact HF1.out, HF2.out, K1.out, K2.out, K3.out, Nat.le_trans hlo HNM.out⟩
   case measure => simp [intOf]; omega
  ·have hlt' : ¬ (i : Int) < l2 := by omega
   have hi2 : i = l2 := by omega
   subst hi2
   have hd : vs.drop i = [] := List.drop_eq_nil_of_le (by rw [HVL.out]; exact Nat.le_refl _)
   rw [hd] at hf1 hf2
   have hl1 : l = fin.1 := by rw [<- hf1]; show l = l ++ []; simp
   have hm1 : mki = fin.2 := hf2
   subst hl1
   subst hm1
   have HEND := hid (ptq_of (r := fin) (c := c) (o := o) hXX hll.symm hrow hmi hli (by rw [hll]; unfold maxLen; omega))
   clear hrow hmi hli hf1 hf2
   go_wp2_with fail
   go_ret
   exact HEND.out
end Em
end
section
open Go.RowKit
namespace Em
def ArQ (W : World) (a b : Nat) (e : Ending) (w' : World) : Prop := ∃ o' cap', e = .returned (.agg #[.int .i64 4, .int .i64 0, .slice o' 2 cap']) /\ SlcIn (fun i => W.heap.size <= i) w' o' 2 (arrT (tv a) (tv b)).2.2 /\ Quiet0 W w'
theorem arr2_any {W : World} {g a b : Nat} {o1 : Option Addr} {c1 : Nat} {o2 : Option Addr} {c2 : Nat} (h : W.heap[g]? = some (.cells #[.int .i64 1, .int .i64 a, .slice o1 0 c1, .int .i64 1, .int .i64 b, .slice o2 0 c2] 24 (0, 0))) :
    Calls Tryz.prog 40 #[.slice (some ⟨g, 0, none⟩) 2 2] W (ArQ W a b) := by
 have hs : Slc W (some ⟨g, 0, none⟩) 2 (.cons 1 (a : Int) .nil (.cons 1 (b : Int) .nil .nil)) := by
  refine ⟨rfl, by unfold maxLen; omega, fun _ => ⟨g, 0, rfl, ?_⟩⟩
  have c : ∀ j (hj : j < 6), W.cell? ⟨g, j, none⟩ = (#[Value.int .i64 1, .int .i64 a, .slice o1 0 c1, .int .i64 1, .int .i64 b, .slice o2 0 c2] : Array Value)[j]? := fun j hj => by rw [cell_of_row _ _ _ _ _ (0, 0) h]
  exact ⟨c 0 (by omega), c 1 (by omega), ⟨o1, 0, c1, c 2 (by omega), rfl, Nat.zero_le _, fun h => absurd h (Nat.lt_irrefl _)⟩, c 3 (by omega), c 4 (by omega), ⟨o2, 0, c2, c 5 (by omega), rfl, Nat.zero_le _, fun h => absurd h (Nat.lt_irrefl _)⟩, trivial⟩
 refine (arrow_any _ W _ 2 2 hs (Nat.le_refl _) (by show Fo.size _ <= _; simp [Fo.size])).mono ?_
 rintro e w' ⟨o', len', cap', rfl, h2, h3⟩
 have hl : len' = 2 := h2.1
 subst hl
 exact ⟨o', cap', rfl, h2, h3⟩
def PkE (most : Int) (pb lo : Nat) (W : World) (o : Option Addr) (n : Nat) (e : FEnv) (E : Env) : Prop := BfE pb W o n e /\ EnvM most pb lo W e E
theorem PkE.later {most : Int} {pb lo : Nat} {W W' : World} {o : Option Addr} {n : Nat} {e : FEnv} {E : Env} (h : PkE most pb lo W o n e E) (hl : Later pb W W') : PkE most pb lo W' o n e E := ⟨h.1.later hl, h.2.later hl (Nat.le_refl _)⟩
theorem PkE.st {X : Nat -> Prop} {most : Int} {pb lo : Nat} {W W' : World} {k : Mk} {o : Option Addr} {n : Nat} {e : FEnv} {E : Env} (hm : MkE X most pb W k) (hq : Quiet0 W W') (h : PkE most pb lo W o n e E) : PkE most pb lo W' o n e E := h.later (Later.of_quiet hq hm.lt)
theorem MeanT.st {X : Nat -> Prop} {most : Int} {pb lo : Nat} {W W' : World} {k : Mk} {v : Value} {f : Pm Ty} (hm : MkE X most pb W k) (hq : Quiet0 W W') (h : MeanT most pb lo W v f) : MeanT most pb lo W' v f := h.later (Later.of_quiet hq hm.lt) (Nat.le_refl _)
def WtQ (most : Int) (pb lo : Nat) (W : World) (n : Nat) (e : FEnv) (E : Env) (x : Ending) (w' : World) : Prop := ∃ o c, x = .returned (.slice o n c) /\ n <= c /\ PkE most pb lo w' o n e E /\ Quiet0 W w'
theorem with2_any {X : Nat -> Prop} {most : Int} {pb lo : Nat} {W : World} {k : Mk} {eo : Option Addr} {en ec : Nat} {e : FEnv} {E : Env} {f : Pm Ty} {bs : Fn} {ls : Array Value} (s : ByteArray) (hm : MkE X most pb W k) (hb : BfE pb W eo en e) (hE : EnvM most pb lo W e E) (hec : en <= ec) (hz : en <= 900000) (hf : MeanT most pb lo W (.func bs #[] ls) f) (hn : NM f) :
    Calls Tryz.prog 68 #[.slice eo en ec, .string s, .func bs #[] ls] W (WtQ most pb lo W (en + 1) ((s, .func bs #[] ls) :: e) ((s, f) :: E)) := by
 refine (withF_any _ e s bs #[] ls eo en ec W hb hec hz).mono ?_
 rintro x w' ⟨o, c, rfl, h1, h2, hq⟩
 have hl := Later.of_quiet hq hm.lt
 rw [List.length_cons, <- hb.1] at h1 h2 ⊢
 exact ⟨o, c, rfl, h2, ⟨bf_new hm hq h1, .cons (hf.later hl (Nat.le_refl _)) hn (hE.later hl (Nat.le_refl _))⟩, hq⟩
theorem envOf_same {k : Int} (nm : ByteArray) {j : Nat} (x : List ByteArray) (h : Sc.bindsB k j = false) : Sc.envOf k nm j x = x := by unfold Sc.envOf; rw [h]; rfl
theorem envOf_more {k : Int} (nm : ByteArray) {j : Nat} (x : List ByteArray) (h : Sc.bindsB k j = true) : Sc.envOf k nm j x = nm :: x := by unfold Sc.envOf; rw [h]; rfl
theorem not_binds {k : Int} (h4 : k ≠ 4) (h6 : k ≠ 6) (h7 : k ≠ 7) (j : Nat) : Sc.bindsB k j = false := by unfold Sc.bindsB; simp [h4, h6, h7]
theorem cell_later {X : Nat -> Prop} {pb : Nat} {W W' : World} {g j : Nat} {v : Value} (hg : TF X pb W g) (hl : Later pb W W') (h : W.cell? ⟨g, j, none⟩ = some v) : W'.cell? ⟨g, j, none⟩ = some v :=
 (hl.fr.cellb (World.block_lt_of_cell? W _ h) (fun e => e.elim hg.1 hg.2.1)).trans h
theorem with_tf {X : Nat -> Prop} {most : Int} {pb : Nat} {W W' : World} {k : Mk} {g j : Nat} {v : Value} {G : Prop} (hm : MkE X most pb W k) (hq : Quiet0 W W') (hc : W.cell? ⟨g, j, none⟩ = some v) (ht : TF X pb W g) (K : TF X pb W' g -> G) : G := K ((Later.of_quiet hq hm.lt).tf (World.block_lt_of_cell? W _ hc) ht)
theorem PtAt.tf {T : Nat -> Prop} {w : World} {o : Option Addr} {l : List Ty} (h : PtAt T w o l) {g : Nat} (ho : o = some ⟨g, 0, none⟩) (hl : 0 < l.length) : T g := by
 rcases h.2 with e | ⟨g', h1, h2, _⟩
 ·subst e; simp at hl
 ·rw [ho] at h1; cases h1; exact h2
theorem mem_of_free {e : List ByteArray} {h : Nd} {ps : To} (hk : h.k = 1) (hf : Sc.free1 e h ps = []) : h.nm ∈ e := by
 unfold Sc.free1 at hf
 rw [if_pos hk] at hf
 by_cases hx : Sc.ix e h.nm < 0
 ·rw [if_pos hx] at hf; cases hf
 ·rcases Sc.ixE_spec e h.nm 0 with ⟨h1, _⟩ | ⟨j, h1, h2, _⟩
  ·exact absurd (show Sc.ix e h.nm < 0 by unfold Sc.ix; omega) hx
  ·exact List.mem_of_getElem? h2
theorem RowV.size : ∀ (l : List Ty) (xs : List Value), RowV xs l -> (foOf l).size = l.length
 | [], _, _ => rfl
 | t :: r, xs, h => by
  obtain ⟨n, o, c, ys, rfl, _, hr⟩ := h
  have := RowV.size r ys hr
  show Fo.size (.cons 1 (n : Int) .nil (foOf r)) = _
  simp only [Fo.size, List.length_cons]; omega
theorem PtAt.size {T : Nat -> Prop} {w : World} {o : Option Addr} {l : List Ty} (h : PtAt T w o l) : (foOf l).size = l.length := by
 rcases h.2 with e | ⟨g, h1, h2, h3, xs, h4, h5⟩
 ·subst e; rfl
 ·exact RowV.size l xs h4
def TpQ (X : Nat -> Prop) (most : Int) (pb : Nat) (W : World) (n : Nat) (r : List Ty × Mk) (x : Ending) (w' : World) : Prop := ∃ o c, x = .returned (.slice o n c) /\ SlcIn (TF X pb w') w' o n (foOf r.1) /\ (foOf r.1).size <= 100000 /\ MkE X most pb w' r.2 /\ Later pb W w'
def AnQ (X : Nat -> Prop) (most : Int) (pb : Nat) (W : World) (n : Nat) (r : List Ty × Mk) (x : Ending) (w' : World) : Prop := ∃ gp c n0 n0o n0c, x = .returned (.slice (some ⟨gp, 0, none⟩) n c) /\ tat r.1 0 = tv n0 /\ TF X pb w' gp /\ w'.cell? ⟨gp, 0 * 3, none⟩ = some (.int .i64 1) /\ w'.cell? ⟨gp, 0 * 3 + 1, none⟩ = some (.int .i64 n0) /\ w'.cell? ⟨gp, 0 * 3 + 2, none⟩ = some (.slice n0o 0 n0c) /\ MkE X most pb w' r.2 /\ Later pb W w'
def CoQ (W : World) (k n : Int) (len : Nat) (ps : Fo) (e : Ending) (w' : World) : Prop := ∃ o' cap', e = .returned (.agg #[.int .i64 k, .int .i64 n, .slice o' len cap']) /\ SlcIn (fun b => W.heap.size <= b) w' o' len ps /\ Quiet0 W w'
theorem eqP_nx (most : Int) (l r : Ty) (fr en : Int) (m : Mk) : (eqP most l r fr en m).2.next = m.next := eqP_next most l r fr en m
def SgQ (most : Int) (pb lo : Nat) (W : World) (f : Pm Ty) (x : Ending) (w' : World) : Prop := ∃ bs ls, x = .returned (.func bs #[] ls) /\ MeanT most pb lo w' (.func bs #[] ls) f /\ Quiet0 W w'
def TmN (h : Nd) (ps : To) : Prop := ∀ (W : World) (R X : Nat -> Prop) (most : Int) (pb : Nat) (mk : Mk) (o1 : Option Addr) (l1 c1 : Nat) (o2 : Option Addr) (l2 c2 : Nat) (eo : Option Addr) (en ec : Nat) (e : FEnv) (E : Env),
 SlcIn R W o1 l1 h.tp -> TSlc R W o2 l2 ps -> (∀ i, R i -> i < pb) -> MkE X most pb W mk -> most <= 4096 -> BfE pb W eo en e -> en <= ec -> en + ps.size <= 100000 -> EnvM most pb mk.next W e E -> okT h ps.length -> okTL ps -> Sc.free1 (names e) h ps = [] -> (termM most h ps E mk).2.next <= NBd -> mk.many = false ->
 Calls Tryz.prog 42 #[.pointer (some ⟨pb, 0, none⟩), tmv h o1 l1 c1 o2 l2 c2, .slice eo en ec] W (MkQ X most pb W (termM most h ps E mk))
end Em
end
section
open Go.RowKit
namespace Em
theorem term_int (h : Nd) (ps : To) (hk : h.k = 2) : TmN h ps := by
 intro W R X most pb mk o1 l1 c1 o2 l2 c2 eo en ec e E hs1 hs2 hR hm hmost hb hec hz hE hok hokl hfr hN hmany
 obtain ⟨W0, hW0⟩ : ∃ W0, W0 = (W.alloc (.cells (cells9 h o1 l1 c1 o2 l2 c2) 29)).alloc (.cells #[.int .i64 0, .int .i64 0, .slice none 0 0] 24) := ⟨_, rfl⟩
 have hq0 : Quiet0 W W0 := by rw [hW0]; exact (Quiet0.alloc _ _).trans (Quiet0.alloc _ _)
 have hz0 : W0.heap.size = W.heap.size + 2 := by rw [hW0]; simp
 have h4 : Bx pb W0 W.heap.size (cells9 h o1 l1 c1 o2 l2 c2) 29 := Bx.new hm hq0 (Nat.le_refl _) (by rw [hW0]; exact blk_after (Quiet0.alloc _ _) (heap_alloc_new W _))
 have h6 : Bx pb W0 (W.heap.size + 1) #[.int .i64 0, .int .i64 0, .slice none 0 0] 24 := Bx.new hm hq0 (by omega) (by
  rw [hW0]
  have := heap_alloc_new (W.alloc (.cells (cells9 h o1 l1 c1 o2 l2 c2) 29)) (.cells #[.int .i64 0, .int .i64 0, .slice none 0 0] 24)
  simpa using this)
 have hm0 := hm.more hq0 (fun i => i = W.heap.size + 1) (fun i hi => by subst hi; omega)
 have hp := hm.lt
 have hl0 := Later.of_quiet hq0 hp
 have hnx := (termM_nm most h ps E hE.ne mk).1
 have hnb : mk.next <= 500000000 := Nat.le_trans hnx hN
 have HTK := hid (take_any hm0 (by omega))
 have HL0 := hid hl0
 have H4 := hid h4
 have H6 := hid h6
 have HP := hid hp
 have HNB : Hid ((termM most h ps E mk).2.next <= NBd) := hN
 have HMO := hid hmost
 have HK := hid hk
 have HGO := hid (term_go most h ps E mk hmany)
 have HM0P := hid hm0.lt
 have t2 : (h.k == 2) = true := by rw [hk]; rfl
 obtain ⟨X1, hX1⟩ : ∃ X1, X1 = (fun i => X i ∨ i = W.heap.size + 1) := ⟨_, rfl⟩
 have HX1 : Hid (∀ i, X1 i = (X i ∨ i = W.heap.size + 1)) := fun i => by rw [hX1]
 rw [<- hX1] at HTK
 clear hs1 hs2 hR hm hb hE hok hokl hfr hN hm0 hl0 hq0 h4 h6 hX1 hnx hk hp hz0 hmost
 obtain ⟨fin, hfin⟩ : ∃ fin, (eqP most (tv mk.next) (2, 0, .nil) h.fr h.en { mk with next := mk.next + 1 }).2 = fin := ⟨_, rfl⟩
 have HRES : Hid (termM most h ps E mk = (tv mk.next, fin)) := by show _ = _; rw [HGO.out, body_int HK.out, hfin]
 have HFIN := hid hfin
 clear hfin
 unfold MkQ
 unfold tmv
 go_enter Tryz.func42, Tryz.ntmps42
 generalize hBB : W.heap.size = B at *
 go_upto_region 1 with fail
 rw [<- hW0]
 clear hW0
 go_wp2_with fail
 refine HTK.out.mono ?_; rintro x w1 ⟨n0, oo, cc, hn0, rfl, hm1, hl1⟩
 obtain rfl : mk.next = n0 := tv_inj hn0
 obtain ⟨W2, hW2⟩ : ∃ W2, W2 = w1.alloc (.cells #[.int .i64 1, .int .i64 mk.next, .slice oo 0 cc] 24) := ⟨_, rfl⟩
 have hq2 : Quiet0 w1 W2 := by rw [hW2]; exact Quiet0.alloc _ _
 have h7 : Bx pb W2 w1.heap.size #[.int .i64 1, .int .i64 mk.next, .slice oo 0 cc] 24 := Bx.new hm1 hq2 (Nat.le_refl _) (by rw [hW2]; exact heap_alloc_new w1 _)
 have H7 := hid h7
 have hm2 := hm1.stay hq2
 replace hm2 : MkE X1 most pb W2 { mk with next := mk.next + 1 } := hm2
 have hl2 := hl1.quiet hq2 HM0P.out
 have HM2 := hid hm2
 have HL2 := hid (HL0.out.trans hl2)
 have H42 := hid (H4.out.later hl2)
 have H62 := hid (H6.out.later hl2)
 clear hm1 hl1 hq2 h7 hm2 hl2 hn0 H4 H6 HL0 HTK
 unfold tyv
 go_upto_region 2 with fail
 change Code.wp _ _ _ _ (w1.alloc (.cells #[.int .i64 1, .int .i64 mk.next, .slice oo 0 cc] 24))
 rw [<- hW2]
 clear hW2
 generalize hC : w1.heap.size = C at *
 obtain ⟨ko, kc, kxs, hmka⟩ := HM2.out
 obtain ⟨_, _, _, q3⟩ := mk_cells hmka.box
 replace q3 : W2.cell? ⟨pb, 3, none⟩ = some (.bool false) := by rw [<- hmany]; exact q3
 obtain ⟨a0, a1, a2, a3, a4, a5, a6, a7, a8⟩ := cells9_block H42.out.1
 obtain ⟨b0, b1, b2, _, _, _⟩ := box_cells3 H7.out.1
 clear hmka
 have HEQ : Hid (Calls Tryz.prog 66 #[.pointer (some ⟨pb, 0, none⟩), .agg #[.int .i64 1, .int .i64 mk.next, .slice oo 0 cc], .agg #[.int .i64 2, .int .i64 0, .slice none 0 0], .agg #[.int .i64 h.fr, .int .i64 h.en]] W2 (MkU X1 most pb W2 fin)) := by
  have k := equate_any (o1 := oo) (l1 := 0) (c1 := cc) (o2 := none) (l2 := 0) (c2 := 0) HM2.out HMO.out (tv mk.next) (2, 0, .nil) h.fr h.en (SlcIn.nil _ _ _) (SlcIn.nil _ _ _) (by show Fo.nil.size <= _; decide) (by show Fo.nil.size <= _; decide)
  rw [HFIN.out] at k
  exact k
 go_wp2_with fail
 refine HEQ.out.mono ?_; rintro x w3 ⟨rfl, hm3, hl3⟩
 have HM3 := hid hm3
 have HL3 := hid hl3
 clear hm3 hl3
 clear a0 a1 a2 a3 a4 a5 a6 a7 a8 b0 b1 b2 q3
 obtain ⟨g0, g1, g2, _, _, _⟩ := box_cells3 (H7.out.later HL3.out).1
 have hb6 := (H62.out.later HL3.out).1
 have HB6 := hid hb6
 obtain ⟨d0, d1, d2, y0, y1, y2⟩ := box_cells3 hb6
 clear hb6
 go_wp2_with fail
 clear d0 d1 d2 y0 y1 y2
 have hf := put3_fr w3 (B + 1) (.int .i64 1) (.int .i64 mk.next) (.slice oo 0 cc)
 obtain ⟨f0, f1, f2⟩ := put3_cells (a := .int .i64 1) (b := .int .i64 mk.next) (c := .slice oo 0 cc) HB6.out
 change bodyPost _ _ _ _ _ (put3 w3 (B + 1) (.int .i64 1) (.int .i64 mk.next) (.slice oo 0 cc))
 generalize put3 w3 (B + 1) (.int .i64 1) (.int .i64 mk.next) (.slice oo 0 cc) = wf at *
 refine bodyPost_ret (by simp [results, Tryz.results42, go_sem, f0, f1, f2]; rfl) rfl ?_
 have hp : pb < W.heap.size := by rw [hBB]; exact HP.out
 refine ⟨mk.next, oo, cc, by rw [HRES.out], rfl, ?_, (HL2.out.trans HL3.out).put hf hp (fun i hi => by omega)⟩
 rw [HRES.out]
 exact (HM3.out.put (hf.mono (fun i _ e => by rw [HX1.out]; exact Or.inr (by omega)))).less (fun i hi => by rw [HX1.out]; exact Or.inl hi)
theorem term_bool (h : Nd) (ps : To) (hk : h.k = 3) : TmN h ps := by
 intro W R X most pb mk o1 l1 c1 o2 l2 c2 eo en ec e E hs1 hs2 hR hm hmost hb hec hz hE hok hokl hfr hN hmany
 obtain ⟨W0, hW0⟩ : ∃ W0, W0 = (W.alloc (.cells (cells9 h o1 l1 c1 o2 l2 c2) 29)).alloc (.cells #[.int .i64 0, .int .i64 0, .slice none 0 0] 24) := ⟨_, rfl⟩
 have hq0 : Quiet0 W W0 := by rw [hW0]; exact (Quiet0.alloc _ _).trans (Quiet0.alloc _ _)
 have hz0 : W0.heap.size = W.heap.size + 2 := by rw [hW0]; simp
 have h4 : Bx pb W0 W.heap.size (cells9 h o1 l1 c1 o2 l2 c2) 29 := Bx.new hm hq0 (Nat.le_refl _) (by rw [hW0]; exact blk_after (Quiet0.alloc _ _) (heap_alloc_new W _))
 have h6 : Bx pb W0 (W.heap.size + 1) #[.int .i64 0, .int .i64 0, .slice none 0 0] 24 := Bx.new hm hq0 (by omega) (by
  rw [hW0]
  have := heap_alloc_new (W.alloc (.cells (cells9 h o1 l1 c1 o2 l2 c2) 29)) (.cells #[.int .i64 0, .int .i64 0, .slice none 0 0] 24)
  simpa using this)
 have hm0 := hm.more hq0 (fun i => i = W.heap.size + 1) (fun i hi => by subst hi; omega)
 have hp := hm.lt
 have hl0 := Later.of_quiet hq0 hp
 have hnx := (termM_nm most h ps E hE.ne mk).1
 have hnb : mk.next <= 500000000 := Nat.le_trans hnx hN
 have HTK := hid (take_any hm0 (by omega))
 have HL0 := hid hl0
 have H4 := hid h4
 have H6 := hid h6
 have HP := hid hp
 have HNB : Hid ((termM most h ps E mk).2.next <= NBd) := hN
 have HMO := hid hmost
 have HK := hid hk
 have HGO := hid (term_go most h ps E mk hmany)
 have HM0P := hid hm0.lt
 have t2 : (h.k == 2) = false := by rw [hk]; rfl
 have t3 : (h.k == 3) = true := by rw [hk]; rfl
 obtain ⟨X1, hX1⟩ : ∃ X1, X1 = (fun i => X i ∨ i = W.heap.size + 1) := ⟨_, rfl⟩
 have HX1 : Hid (∀ i, X1 i = (X i ∨ i = W.heap.size + 1)) := fun i => by rw [hX1]
 rw [<- hX1] at HTK
 clear hs1 hs2 hR hm hb hE hok hokl hfr hN hm0 hl0 hq0 h4 h6 hX1 hnx hk hp hz0 hmost
 obtain ⟨fin, hfin⟩ : ∃ fin, (eqP most (tv mk.next) (3, 0, .nil) h.fr h.en { mk with next := mk.next + 1 }).2 = fin := ⟨_, rfl⟩
 have HRES : Hid (termM most h ps E mk = (tv mk.next, fin)) := by show _ = _; rw [HGO.out, body_bool HK.out, hfin]
 have HFIN := hid hfin
 clear hfin
 unfold MkQ
 unfold tmv
 go_enter Tryz.func42, Tryz.ntmps42
 generalize hBB : W.heap.size = B at *
 go_upto_region 1 with fail
 rw [<- hW0]
 clear hW0
 go_wp2_with fail
 refine HTK.out.mono ?_; rintro x w1 ⟨n0, oo, cc, hn0, rfl, hm1, hl1⟩
 obtain rfl : mk.next = n0 := tv_inj hn0
 obtain ⟨W2, hW2⟩ : ∃ W2, W2 = w1.alloc (.cells #[.int .i64 1, .int .i64 mk.next, .slice oo 0 cc] 24) := ⟨_, rfl⟩
 have hq2 : Quiet0 w1 W2 := by rw [hW2]; exact Quiet0.alloc _ _
 have h7 : Bx pb W2 w1.heap.size #[.int .i64 1, .int .i64 mk.next, .slice oo 0 cc] 24 := Bx.new hm1 hq2 (Nat.le_refl _) (by rw [hW2]; exact heap_alloc_new w1 _)
 have H7 := hid h7
 have hm2 := hm1.stay hq2
 replace hm2 : MkE X1 most pb W2 { mk with next := mk.next + 1 } := hm2
 have hl2 := hl1.quiet hq2 HM0P.out
 have HM2 := hid hm2
 have HL2 := hid (HL0.out.trans hl2)
 have H42 := hid (H4.out.later hl2)
 have H62 := hid (H6.out.later hl2)
 clear hm1 hl1 hq2 h7 hm2 hl2 hn0 H4 H6 HL0 HTK
 unfold tyv
 go_upto_region 2 with fail
 change Code.wp _ _ _ _ (w1.alloc (.cells #[.int .i64 1, .int .i64 mk.next, .slice oo 0 cc] 24))
 rw [<- hW2]
 clear hW2
 generalize hC : w1.heap.size = C at *
 obtain ⟨ko, kc, kxs, hmka⟩ := HM2.out
 obtain ⟨_, _, _, q3⟩ := mk_cells hmka.box
 replace q3 : W2.cell? ⟨pb, 3, none⟩ = some (.bool false) := by rw [<- hmany]; exact q3
 obtain ⟨a0, a1, a2, a3, a4, a5, a6, a7, a8⟩ := cells9_block H42.out.1
 obtain ⟨b0, b1, b2, _, _, _⟩ := box_cells3 H7.out.1
 clear hmka
 have HEQ : Hid (Calls Tryz.prog 66 #[.pointer (some ⟨pb, 0, none⟩), .agg #[.int .i64 1, .int .i64 mk.next, .slice oo 0 cc], .agg #[.int .i64 3, .int .i64 0, .slice none 0 0], .agg #[.int .i64 h.fr, .int .i64 h.en]] W2 (MkU X1 most pb W2 fin)) := by
  have k := equate_any (o1 := oo) (l1 := 0) (c1 := cc) (o2 := none) (l2 := 0) (c2 := 0) HM2.out HMO.out (tv mk.next) (3, 0, .nil) h.fr h.en (SlcIn.nil _ _ _) (SlcIn.nil _ _ _) (by show Fo.nil.size <= _; decide) (by show Fo.nil.size <= _; decide)
  rw [HFIN.out] at k
  exact k
 go_wp2_with fail
 refine HEQ.out.mono ?_; rintro x w3 ⟨rfl, hm3, hl3⟩
 have HM3 := hid hm3
 have HL3 := hid hl3
 clear hm3 hl3
 clear a0 a1 a2 a3 a4 a5 a6 a7 a8 b0 b1 b2 q3
 obtain ⟨g0, g1, g2, _, _, _⟩ := box_cells3 (H7.out.later HL3.out).1
 have hb6 := (H62.out.later HL3.out).1
 have HB6 := hid hb6
 obtain ⟨d0, d1, d2, y0, y1, y2⟩ := box_cells3 hb6
 clear hb6
 go_wp2_with fail
 clear d0 d1 d2 y0 y1 y2
 have hf := put3_fr w3 (B + 1) (.int .i64 1) (.int .i64 mk.next) (.slice oo 0 cc)
 obtain ⟨f0, f1, f2⟩ := put3_cells (a := .int .i64 1) (b := .int .i64 mk.next) (c := .slice oo 0 cc) HB6.out
 change bodyPost _ _ _ _ _ (put3 w3 (B + 1) (.int .i64 1) (.int .i64 mk.next) (.slice oo 0 cc))
 generalize put3 w3 (B + 1) (.int .i64 1) (.int .i64 mk.next) (.slice oo 0 cc) = wf at *
 refine bodyPost_ret (by simp [results, Tryz.results42, go_sem, f0, f1, f2]; rfl) rfl ?_
 have hp : pb < W.heap.size := by rw [hBB]; exact HP.out
 refine ⟨mk.next, oo, cc, by rw [HRES.out], rfl, ?_, (HL2.out.trans HL3.out).put hf hp (fun i hi => by omega)⟩
 rw [HRES.out]
 exact (HM3.out.put (hf.mono (fun i _ e => by rw [HX1.out]; exact Or.inr (by omega)))).less (fun i hi => by rw [HX1.out]; exact Or.inl hi)
end Em
end
section
open Go.RowKit
namespace Hd
section
variable {P : Program} {md : Region.Mode} {ops : Array Oper} {Q : Exit -> Act -> World -> Prop} {S S' : World -> Prop}
theorem more (hS : ∀ w, S' w -> S w) : ∀ (fuel : Nat) (listed : Array Bool) (a : Act) (w : World), wpAnyH P md ops Q S' fuel listed a w -> wpAnyH P md ops Q S fuel listed a w
 | 0, _, _, _, h => h
 | fuel + 1, _, _, _, h => ⟨h.1, fun i hi => wpOp_mono (fun a' w' h' => ⟨hS w' h'.1, more hS fuel _ a' w' h'.2⟩) (h.2 i hi)⟩
theorem take0 {oi : Oper} {r : List Oper} {v : Value} {fuel : Nat} {listed : Array Bool} {a : Act} {w : World}
    (hs : Region.noSelect (oi :: r).toArray = true) (hf : Region.free md (oi :: r).toArray listed 0 = true) (hr : (Region.ready md (oi :: r).toArray listed).contains 0 = true)
    (hQ : ∀ c a w, Q (.panic c) (a.put oi.dst v) w -> Q (.panic c) a w) (hy : YieldsIf P (oi :: r).toArray S oi v a) (hS : S w)
    (h : wpAnyH P md (oi :: r).toArray Q S fuel (listed.setIfInBounds 0 true) (a.put oi.dst v) w) : wpAnyH P md (oi :: r).toArray Q S (fuel + 1) listed a w :=
 wpAnyH_take (i := 0) rfl hs hf hr hQ hy hS h
theorem take1 {o0 oi : Oper} {r : List Oper} {v : Value} {fuel : Nat} {listed : Array Bool} {a : Act} {w : World}
    (hs : Region.noSelect (o0 :: oi :: r).toArray = true) (hf : Region.free md (o0 :: oi :: r).toArray listed 1 = true) (hr : (Region.ready md (o0 :: oi :: r).toArray listed).contains 1 = true)
    (hQ : ∀ c a w, Q (.panic c) (a.put oi.dst v) w -> Q (.panic c) a w) (hy : YieldsIf P (o0 :: oi :: r).toArray S oi v a) (hS : S w)
    (h : wpAnyH P md (o0 :: oi :: r).toArray Q S fuel (listed.setIfInBounds 1 true) (a.put oi.dst v) w) : wpAnyH P md (o0 :: oi :: r).toArray Q S (fuel + 1) listed a w :=
 wpAnyH_take (i := 1) rfl hs hf hr hQ hy hS h
theorem take2 {o0 o1 oi : Oper} {r : List Oper} {v : Value} {fuel : Nat} {listed : Array Bool} {a : Act} {w : World}
    (hs : Region.noSelect (o0 :: o1 :: oi :: r).toArray = true) (hf : Region.free md (o0 :: o1 :: oi :: r).toArray listed 2 = true) (hr : (Region.ready md (o0 :: o1 :: oi :: r).toArray listed).contains 2 = true)
    (hQ : ∀ c a w, Q (.panic c) (a.put oi.dst v) w -> Q (.panic c) a w) (hy : YieldsIf P (o0 :: o1 :: oi :: r).toArray S oi v a) (hS : S w)
    (h : wpAnyH P md (o0 :: o1 :: oi :: r).toArray Q S fuel (listed.setIfInBounds 2 true) (a.put oi.dst v) w) : wpAnyH P md (o0 :: o1 :: oi :: r).toArray Q S (fuel + 1) listed a w :=
 wpAnyH_take (i := 2) rfl hs hf hr hQ hy hS h
theorem take3 {o0 o1 o2 oi : Oper} {r : List Oper} {v : Value} {fuel : Nat} {listed : Array Bool} {a : Act} {w : World}
    (hs : Region.noSelect (o0 :: o1 :: o2 :: oi :: r).toArray = true) (hf : Region.free md (o0 :: o1 :: o2 :: oi :: r).toArray listed 3 = true) (hr : (Region.ready md (o0 :: o1 :: o2 :: oi :: r).toArray listed).contains 3 = true)
    (hQ : ∀ c a w, Q (.panic c) (a.put oi.dst v) w -> Q (.panic c) a w) (hy : YieldsIf P (o0 :: o1 :: o2 :: oi :: r).toArray S oi v a) (hS : S w)
    (h : wpAnyH P md (o0 :: o1 :: o2 :: oi :: r).toArray Q S fuel (listed.setIfInBounds 3 true) (a.put oi.dst v) w) : wpAnyH P md (o0 :: o1 :: o2 :: oi :: r).toArray Q S (fuel + 1) listed a w :=
 wpAnyH_take (i := 3) rfl hs hf hr hQ hy hS h
theorem take4 {o0 o1 o2 o3 oi : Oper} {r : List Oper} {v : Value} {fuel : Nat} {listed : Array Bool} {a : Act} {w : World}
    (hs : Region.noSelect (o0 :: o1 :: o2 :: o3 :: oi :: r).toArray = true) (hf : Region.free md (o0 :: o1 :: o2 :: o3 :: oi :: r).toArray listed 4 = true) (hr : (Region.ready md (o0 :: o1 :: o2 :: o3 :: oi :: r).toArray listed).contains 4 = true)
    (hQ : ∀ c a w, Q (.panic c) (a.put oi.dst v) w -> Q (.panic c) a w) (hy : YieldsIf P (o0 :: o1 :: o2 :: o3 :: oi :: r).toArray S oi v a) (hS : S w)
    (h : wpAnyH P md (o0 :: o1 :: o2 :: o3 :: oi :: r).toArray Q S fuel (listed.setIfInBounds 4 true) (a.put oi.dst v) w) : wpAnyH P md (o0 :: o1 :: o2 :: o3 :: oi :: r).toArray Q S (fuel + 1) listed a w :=
 wpAnyH_take (i := 4) rfl hs hf hr hQ hy hS h
theorem cons4 {o0 o1 o2 o3 oi : Oper} {r : List Oper} {fuel : Nat} {listed : Array Bool} {a : Act} {w : World} {rs : List Nat}
    (h : ∀ K' : Act -> World -> Prop, Shut (∀ a w, S w -> (S w -> wpAnyH P md (o0 :: o1 :: o2 :: o3 :: oi :: r).toArray Q S fuel (listed.setIfInBounds 4 true) a w) -> K' a w) -> if Region.wanted oi (yielded (o0 :: o1 :: o2 :: o3 :: oi :: r).toArray a.tmps) = true then Oper.wp P oi a w K' Q else K' (a.put oi.dst undef) w)
    (hs : AllReadyH P md (o0 :: o1 :: o2 :: o3 :: oi :: r).toArray Q S fuel listed a w rs) : AllReadyH P md (o0 :: o1 :: o2 :: o3 :: oi :: r).toArray Q S fuel listed a w (4 :: rs) := AllReadyH.cons (i := 4) rfl h hs
theorem take5 {o0 o1 o2 o3 o4 oi : Oper} {r : List Oper} {v : Value} {fuel : Nat} {listed : Array Bool} {a : Act} {w : World}
    (hs : Region.noSelect (o0 :: o1 :: o2 :: o3 :: o4 :: oi :: r).toArray = true) (hf : Region.free md (o0 :: o1 :: o2 :: o3 :: o4 :: oi :: r).toArray listed 5 = true) (hr : (Region.ready md (o0 :: o1 :: o2 :: o3 :: o4 :: oi :: r).toArray listed).contains 5 = true)
    (hQ : ∀ c a w, Q (.panic c) (a.put oi.dst v) w -> Q (.panic c) a w) (hy : YieldsIf P (o0 :: o1 :: o2 :: o3 :: o4 :: oi :: r).toArray S oi v a) (hS : S w)
    (h : wpAnyH P md (o0 :: o1 :: o2 :: o3 :: o4 :: oi :: r).toArray Q S fuel (listed.setIfInBounds 5 true) (a.put oi.dst v) w) : wpAnyH P md (o0 :: o1 :: o2 :: o3 :: o4 :: oi :: r).toArray Q S (fuel + 1) listed a w :=
 wpAnyH_take (i := 5) rfl hs hf hr hQ hy hS h
theorem take6 {o0 o1 o2 o3 o4 o5 oi : Oper} {r : List Oper} {v : Value} {fuel : Nat} {listed : Array Bool} {a : Act} {w : World}
    (hs : Region.noSelect (o0 :: o1 :: o2 :: o3 :: o4 :: o5 :: oi :: r).toArray = true) (hf : Region.free md (o0 :: o1 :: o2 :: o3 :: o4 :: o5 :: oi :: r).toArray listed 6 = true) (hr : (Region.ready md (o0 :: o1 :: o2 :: o3 :: o4 :: o5 :: oi :: r).toArray listed).contains 6 = true)
    (hQ : ∀ c a w, Q (.panic c) (a.put oi.dst v) w -> Q (.panic c) a w) (hy : YieldsIf P (o0 :: o1 :: o2 :: o3 :: o4 :: o5 :: oi :: r).toArray S oi v a) (hS : S w)
    (h : wpAnyH P md (o0 :: o1 :: o2 :: o3 :: o4 :: o5 :: oi :: r).toArray Q S fuel (listed.setIfInBounds 6 true) (a.put oi.dst v) w) : wpAnyH P md (o0 :: o1 :: o2 :: o3 :: o4 :: o5 :: oi :: r).toArray Q S (fuel + 1) listed a w :=
 wpAnyH_take (i := 6) rfl hs hf hr hQ hy hS h
theorem take7 {o0 o1 o2 o3 o4 o5 o6 oi : Oper} {r : List Oper} {v : Value} {fuel : Nat} {listed : Array Bool} {a : Act} {w : World}
    (hs : Region.noSelect (o0 :: o1 :: o2 :: o3 :: o4 :: o5 :: o6 :: oi :: r).toArray = true) (hf : Region.free md (o0 :: o1 :: o2 :: o3 :: o4 :: o5 :: o6 :: oi :: r).toArray listed 7 = true) (hr : (Region.ready md (o0 :: o1 :: o2 :: o3 :: o4 :: o5 :: o6 :: oi :: r).toArray listed).contains 7 = true)
    (hQ : ∀ c a w, Q (.panic c) (a.put oi.dst v) w -> Q (.panic c) a w) (hy : YieldsIf P (o0 :: o1 :: o2 :: o3 :: o4 :: o5 :: o6 :: oi :: r).toArray S oi v a) (hS : S w)
    (h : wpAnyH P md (o0 :: o1 :: o2 :: o3 :: o4 :: o5 :: o6 :: oi :: r).toArray Q S fuel (listed.setIfInBounds 7 true) (a.put oi.dst v) w) : wpAnyH P md (o0 :: o1 :: o2 :: o3 :: o4 :: o5 :: o6 :: oi :: r).toArray Q S (fuel + 1) listed a w :=
 wpAnyH_take (i := 7) rfl hs hf hr hQ hy hS h
theorem take8 {o0 o1 o2 o3 o4 o5 o6 o7 oi : Oper} {r : List Oper} {v : Value} {fuel : Nat} {listed : Array Bool} {a : Act} {w : World}
    (hs : Region.noSelect (o0 :: o1 :: o2 :: o3 :: o4 :: o5 :: o6 :: o7 :: oi :: r).toArray = true) (hf : Region.free md (o0 :: o1 :: o2 :: o3 :: o4 :: o5 :: o6 :: o7 :: oi :: r).toArray listed 8 = true) (hr : (Region.ready md (o0 :: o1 :: o2 :: o3 :: o4 :: o5 :: o6 :: o7 :: oi :: r).toArray listed).contains 8 = true)
    (hQ : ∀ c a w, Q (.panic c) (a.put oi.dst v) w -> Q (.panic c) a w) (hy : YieldsIf P (o0 :: o1 :: o2 :: o3 :: o4 :: o5 :: o6 :: o7 :: oi :: r).toArray S oi v a) (hS : S w)
    (h : wpAnyH P md (o0 :: o1 :: o2 :: o3 :: o4 :: o5 :: o6 :: o7 :: oi :: r).toArray Q S fuel (listed.setIfInBounds 8 true) (a.put oi.dst v) w) : wpAnyH P md (o0 :: o1 :: o2 :: o3 :: o4 :: o5 :: o6 :: o7 :: oi :: r).toArray Q S (fuel + 1) listed a w :=
 wpAnyH_take (i := 8) rfl hs hf hr hQ hy hS h
theorem cons9 {o0 o1 o2 o3 o4 o5 o6 o7 o8 oi : Oper} {r : List Oper} {fuel : Nat} {listed : Array Bool} {a : Act} {w : World} {rs : List Nat}
    (h : ∀ K' : Act -> World -> Prop, Shut (∀ a w, S w -> (S w -> wpAnyH P md (o0 :: o1 :: o2 :: o3 :: o4 :: o5 :: o6 :: o7 :: o8 :: oi :: r).toArray Q S fuel (listed.setIfInBounds 9 true) a w) -> K' a w) -> if Region.wanted oi (yielded (o0 :: o1 :: o2 :: o3 :: o4 :: o5 :: o6 :: o7 :: o8 :: oi :: r).toArray a.tmps) = true then Oper.wp P oi a w K' Q else K' (a.put oi.dst undef) w)
    (hs : AllReadyH P md (o0 :: o1 :: o2 :: o3 :: o4 :: o5 :: o6 :: o7 :: o8 :: oi :: r).toArray Q S fuel listed a w rs) : AllReadyH P md (o0 :: o1 :: o2 :: o3 :: o4 :: o5 :: o6 :: o7 :: o8 :: oi :: r).toArray Q S fuel listed a w (9 :: rs) := AllReadyH.cons (i := 9) rfl h hs
theorem take10 {o0 o1 o2 o3 o4 o5 o6 o7 o8 o9 oi : Oper} {r : List Oper} {v : Value} {fuel : Nat} {listed : Array Bool} {a : Act} {w : World}
    (hs : Region.noSelect (o0 :: o1 :: o2 :: o3 :: o4 :: o5 :: o6 :: o7 :: o8 :: o9 :: oi :: r).toArray = true) (hf : Region.free md (o0 :: o1 :: o2 :: o3 :: o4 :: o5 :: o6 :: o7 :: o8 :: o9 :: oi :: r).toArray listed 10 = true) (hr : (Region.ready md (o0 :: o1 :: o2 :: o3 :: o4 :: o5 :: o6 :: o7 :: o8 :: o9 :: oi :: r).toArray listed).contains 10 = true)
    (hQ : ∀ c a w, Q (.panic c) (a.put oi.dst v) w -> Q (.panic c) a w) (hy : YieldsIf P (o0 :: o1 :: o2 :: o3 :: o4 :: o5 :: o6 :: o7 :: o8 :: o9 :: oi :: r).toArray S oi v a) (hS : S w)
    (h : wpAnyH P md (o0 :: o1 :: o2 :: o3 :: o4 :: o5 :: o6 :: o7 :: o8 :: o9 :: oi :: r).toArray Q S fuel (listed.setIfInBounds 10 true) (a.put oi.dst v) w) : wpAnyH P md (o0 :: o1 :: o2 :: o3 :: o4 :: o5 :: o6 :: o7 :: o8 :: o9 :: oi :: r).toArray Q S (fuel + 1) listed a w :=
 wpAnyH_take (i := 10) rfl hs hf hr hQ hy hS h
theorem cons10 {o0 o1 o2 o3 o4 o5 o6 o7 o8 o9 oi : Oper} {r : List Oper} {fuel : Nat} {listed : Array Bool} {a : Act} {w : World} {rs : List Nat}
    (h : ∀ K' : Act -> World -> Prop, Shut (∀ a w, S w -> (S w -> wpAnyH P md (o0 :: o1 :: o2 :: o3 :: o4 :: o5 :: o6 :: o7 :: o8 :: o9 :: oi :: r).toArray Q S fuel (listed.setIfInBounds 10 true) a w) -> K' a w) -> if Region.wanted oi (yielded (o0 :: o1 :: o2 :: o3 :: o4 :: o5 :: o6 :: o7 :: o8 :: o9 :: oi :: r).toArray a.tmps) = true then Oper.wp P oi a w K' Q else K' (a.put oi.dst undef) w)
    (hs : AllReadyH P md (o0 :: o1 :: o2 :: o3 :: o4 :: o5 :: o6 :: o7 :: o8 :: o9 :: oi :: r).toArray Q S fuel listed a w rs) : AllReadyH P md (o0 :: o1 :: o2 :: o3 :: o4 :: o5 :: o6 :: o7 :: o8 :: o9 :: oi :: r).toArray Q S fuel listed a w (10 :: rs) := AllReadyH.cons (i := 10) rfl h hs
theorem take11 {o0 o1 o2 o3 o4 o5 o6 o7 o8 o9 o10 oi : Oper} {r : List Oper} {v : Value} {fuel : Nat} {listed : Array Bool} {a : Act} {w : World}
    (hs : Region.noSelect (o0 :: o1 :: o2 :: o3 :: o4 :: o5 :: o6 :: o7 :: o8 :: o9 :: o10 :: oi :: r).toArray = true) (hf : Region.free md (o0 :: o1 :: o2 :: o3 :: o4 :: o5 :: o6 :: o7 :: o8 :: o9 :: o10 :: oi :: r).toArray listed 11 = true) (hr : (Region.ready md (o0 :: o1 :: o2 :: o3 :: o4 :: o5 :: o6 :: o7 :: o8 :: o9 :: o10 :: oi :: r).toArray listed).contains 11 = true)
    (hQ : ∀ c a w, Q (.panic c) (a.put oi.dst v) w -> Q (.panic c) a w) (hy : YieldsIf P (o0 :: o1 :: o2 :: o3 :: o4 :: o5 :: o6 :: o7 :: o8 :: o9 :: o10 :: oi :: r).toArray S oi v a) (hS : S w)
    (h : wpAnyH P md (o0 :: o1 :: o2 :: o3 :: o4 :: o5 :: o6 :: o7 :: o8 :: o9 :: o10 :: oi :: r).toArray Q S fuel (listed.setIfInBounds 11 true) (a.put oi.dst v) w) : wpAnyH P md (o0 :: o1 :: o2 :: o3 :: o4 :: o5 :: o6 :: o7 :: o8 :: o9 :: o10 :: oi :: r).toArray Q S (fuel + 1) listed a w :=
 wpAnyH_take (i := 11) rfl hs hf hr hQ hy hS h
theorem cons11 {o0 o1 o2 o3 o4 o5 o6 o7 o8 o9 o10 oi : Oper} {r : List Oper} {fuel : Nat} {listed : Array Bool} {a : Act} {w : World} {rs : List Nat}
    (h : ∀ K' : Act -> World -> Prop, Shut (∀ a w, S w -> (S w -> wpAnyH P md (o0 :: o1 :: o2 :: o3 :: o4 :: o5 :: o6 :: o7 :: o8 :: o9 :: o10 :: oi :: r).toArray Q S fuel (listed.setIfInBounds 11 true) a w) -> K' a w) -> if Region.wanted oi (yielded (o0 :: o1 :: o2 :: o3 :: o4 :: o5 :: o6 :: o7 :: o8 :: o9 :: o10 :: oi :: r).toArray a.tmps) = true then Oper.wp P oi a w K' Q else K' (a.put oi.dst undef) w)
    (hs : AllReadyH P md (o0 :: o1 :: o2 :: o3 :: o4 :: o5 :: o6 :: o7 :: o8 :: o9 :: o10 :: oi :: r).toArray Q S fuel listed a w rs) : AllReadyH P md (o0 :: o1 :: o2 :: o3 :: o4 :: o5 :: o6 :: o7 :: o8 :: o9 :: o10 :: oi :: r).toArray Q S fuel listed a w (11 :: rs) := AllReadyH.cons (i := 11) rfl h hs
theorem take12 {o0 o1 o2 o3 o4 o5 o6 o7 o8 o9 o10 o11 oi : Oper} {r : List Oper} {v : Value} {fuel : Nat} {listed : Array Bool} {a : Act} {w : World}
    (hs : Region.noSelect (o0 :: o1 :: o2 :: o3 :: o4 :: o5 :: o6 :: o7 :: o8 :: o9 :: o10 :: o11 :: oi :: r).toArray = true) (hf : Region.free md (o0 :: o1 :: o2 :: o3 :: o4 :: o5 :: o6 :: o7 :: o8 :: o9 :: o10 :: o11 :: oi :: r).toArray listed 12 = true) (hr : (Region.ready md (o0 :: o1 :: o2 :: o3 :: o4 :: o5 :: o6 :: o7 :: o8 :: o9 :: o10 :: o11 :: oi :: r).toArray listed).contains 12 = true)
    (hQ : ∀ c a w, Q (.panic c) (a.put oi.dst v) w -> Q (.panic c) a w) (hy : YieldsIf P (o0 :: o1 :: o2 :: o3 :: o4 :: o5 :: o6 :: o7 :: o8 :: o9 :: o10 :: o11 :: oi :: r).toArray S oi v a) (hS : S w)
    (h : wpAnyH P md (o0 :: o1 :: o2 :: o3 :: o4 :: o5 :: o6 :: o7 :: o8 :: o9 :: o10 :: o11 :: oi :: r).toArray Q S fuel (listed.setIfInBounds 12 true) (a.put oi.dst v) w) : wpAnyH P md (o0 :: o1 :: o2 :: o3 :: o4 :: o5 :: o6 :: o7 :: o8 :: o9 :: o10 :: o11 :: oi :: r).toArray Q S (fuel + 1) listed a w :=
 wpAnyH_take (i := 12) rfl hs hf hr hQ hy hS h
theorem cons12 {o0 o1 o2 o3 o4 o5 o6 o7 o8 o9 o10 o11 oi : Oper} {r : List Oper} {fuel : Nat} {listed : Array Bool} {a : Act} {w : World} {rs : List Nat}
    (h : ∀ K' : Act -> World -> Prop, Shut (∀ a w, S w -> (S w -> wpAnyH P md (o0 :: o1 :: o2 :: o3 :: o4 :: o5 :: o6 :: o7 :: o8 :: o9 :: o10 :: o11 :: oi :: r).toArray Q S fuel (listed.setIfInBounds 12 true) a w) -> K' a w) -> if Region.wanted oi (yielded (o0 :: o1 :: o2 :: o3 :: o4 :: o5 :: o6 :: o7 :: o8 :: o9 :: o10 :: o11 :: oi :: r).toArray a.tmps) = true then Oper.wp P oi a w K' Q else K' (a.put oi.dst undef) w)
    (hs : AllReadyH P md (o0 :: o1 :: o2 :: o3 :: o4 :: o5 :: o6 :: o7 :: o8 :: o9 :: o10 :: o11 :: oi :: r).toArray Q S fuel listed a w rs) : AllReadyH P md (o0 :: o1 :: o2 :: o3 :: o4 :: o5 :: o6 :: o7 :: o8 :: o9 :: o10 :: o11 :: oi :: r).toArray Q S fuel listed a w (12 :: rs) := AllReadyH.cons (i := 12) rfl h hs
theorem take13 {o0 o1 o2 o3 o4 o5 o6 o7 o8 o9 o10 o11 o12 oi : Oper} {r : List Oper} {v : Value} {fuel : Nat} {listed : Array Bool} {a : Act} {w : World}
    (hs : Region.noSelect (o0 :: o1 :: o2 :: o3 :: o4 :: o5 :: o6 :: o7 :: o8 :: o9 :: o10 :: o11 :: o12 :: oi :: r).toArray = true) (hf : Region.free md (o0 :: o1 :: o2 :: o3 :: o4 :: o5 :: o6 :: o7 :: o8 :: o9 :: o10 :: o11 :: o12 :: oi :: r).toArray listed 13 = true) (hr : (Region.ready md (o0 :: o1 :: o2 :: o3 :: o4 :: o5 :: o6 :: o7 :: o8 :: o9 :: o10 :: o11 :: o12 :: oi :: r).toArray listed).contains 13 = true)
    (hQ : ∀ c a w, Q (.panic c) (a.put oi.dst v) w -> Q (.panic c) a w) (hy : YieldsIf P (o0 :: o1 :: o2 :: o3 :: o4 :: o5 :: o6 :: o7 :: o8 :: o9 :: o10 :: o11 :: o12 :: oi :: r).toArray S oi v a) (hS : S w)
    (h : wpAnyH P md (o0 :: o1 :: o2 :: o3 :: o4 :: o5 :: o6 :: o7 :: o8 :: o9 :: o10 :: o11 :: o12 :: oi :: r).toArray Q S fuel (listed.setIfInBounds 13 true) (a.put oi.dst v) w) : wpAnyH P md (o0 :: o1 :: o2 :: o3 :: o4 :: o5 :: o6 :: o7 :: o8 :: o9 :: o10 :: o11 :: o12 :: oi :: r).toArray Q S (fuel + 1) listed a w :=
 wpAnyH_take (i := 13) rfl hs hf hr hQ hy hS h
theorem cons13 {o0 o1 o2 o3 o4 o5 o6 o7 o8 o9 o10 o11 o12 oi : Oper} {r : List Oper} {fuel : Nat} {listed : Array Bool} {a : Act} {w : World} {rs : List Nat}
    (h : ∀ K' : Act -> World -> Prop, Shut (∀ a w, S w -> (S w -> wpAnyH P md (o0 :: o1 :: o2 :: o3 :: o4 :: o5 :: o6 :: o7 :: o8 :: o9 :: o10 :: o11 :: o12 :: oi :: r).toArray Q S fuel (listed.setIfInBounds 13 true) a w) -> K' a w) -> if Region.wanted oi (yielded (o0 :: o1 :: o2 :: o3 :: o4 :: o5 :: o6 :: o7 :: o8 :: o9 :: o10 :: o11 :: o12 :: oi :: r).toArray a.tmps) = true then Oper.wp P oi a w K' Q else K' (a.put oi.dst undef) w)
    (hs : AllReadyH P md (o0 :: o1 :: o2 :: o3 :: o4 :: o5 :: o6 :: o7 :: o8 :: o9 :: o10 :: o11 :: o12 :: oi :: r).toArray Q S fuel listed a w rs) : AllReadyH P md (o0 :: o1 :: o2 :: o3 :: o4 :: o5 :: o6 :: o7 :: o8 :: o9 :: o10 :: o11 :: o12 :: oi :: r).toArray Q S fuel listed a w (13 :: rs) := AllReadyH.cons (i := 13) rfl h hs
theorem take14 {o0 o1 o2 o3 o4 o5 o6 o7 o8 o9 o10 o11 o12 o13 oi : Oper} {r : List Oper} {v : Value} {fuel : Nat} {listed : Array Bool} {a : Act} {w : World}
    (hs : Region.noSelect (o0 :: o1 :: o2 :: o3 :: o4 :: o5 :: o6 :: o7 :: o8 :: o9 :: o10 :: o11 :: o12 :: o13 :: oi :: r).toArray = true) (hf : Region.free md (o0 :: o1 :: o2 :: o3 :: o4 :: o5 :: o6 :: o7 :: o8 :: o9 :: o10 :: o11 :: o12 :: o13 :: oi :: r).toArray listed 14 = true) (hr : (Region.ready md (o0 :: o1 :: o2 :: o3 :: o4 :: o5 :: o6 :: o7 :: o8 :: o9 :: o10 :: o11 :: o12 :: o13 :: oi :: r).toArray listed).contains 14 = true)
    (hQ : ∀ c a w, Q (.panic c) (a.put oi.dst v) w -> Q (.panic c) a w) (hy : YieldsIf P (o0 :: o1 :: o2 :: o3 :: o4 :: o5 :: o6 :: o7 :: o8 :: o9 :: o10 :: o11 :: o12 :: o13 :: oi :: r).toArray S oi v a) (hS : S w)
    (h : wpAnyH P md (o0 :: o1 :: o2 :: o3 :: o4 :: o5 :: o6 :: o7 :: o8 :: o9 :: o10 :: o11 :: o12 :: o13 :: oi :: r).toArray Q S fuel (listed.setIfInBounds 14 true) (a.put oi.dst v) w) : wpAnyH P md (o0 :: o1 :: o2 :: o3 :: o4 :: o5 :: o6 :: o7 :: o8 :: o9 :: o10 :: o11 :: o12 :: o13 :: oi :: r).toArray Q S (fuel + 1) listed a w :=
 wpAnyH_take (i := 14) rfl hs hf hr hQ hy hS h
theorem cons15 {o0 o1 o2 o3 o4 o5 o6 o7 o8 o9 o10 o11 o12 o13 o14 oi : Oper} {r : List Oper} {fuel : Nat} {listed : Array Bool} {a : Act} {w : World} {rs : List Nat}
    (h : ∀ K' : Act -> World -> Prop, Shut (∀ a w, S w -> (S w -> wpAnyH P md (o0 :: o1 :: o2 :: o3 :: o4 :: o5 :: o6 :: o7 :: o8 :: o9 :: o10 :: o11 :: o12 :: o13 :: o14 :: oi :: r).toArray Q S fuel (listed.setIfInBounds 15 true) a w) -> K' a w) -> if Region.wanted oi (yielded (o0 :: o1 :: o2 :: o3 :: o4 :: o5 :: o6 :: o7 :: o8 :: o9 :: o10 :: o11 :: o12 :: o13 :: o14 :: oi :: r).toArray a.tmps) = true then Oper.wp P oi a w K' Q else K' (a.put oi.dst undef) w)
    (hs : AllReadyH P md (o0 :: o1 :: o2 :: o3 :: o4 :: o5 :: o6 :: o7 :: o8 :: o9 :: o10 :: o11 :: o12 :: o13 :: o14 :: oi :: r).toArray Q S fuel listed a w rs) : AllReadyH P md (o0 :: o1 :: o2 :: o3 :: o4 :: o5 :: o6 :: o7 :: o8 :: o9 :: o10 :: o11 :: o12 :: o13 :: o14 :: oi :: r).toArray Q S fuel listed a w (15 :: rs) := AllReadyH.cons (i := 15) rfl h hs
end
end Hd
end
section
open Go.RowKit
namespace Em
theorem term_var (h : Nd) (ps : To) (hk : h.k = 1) : TmN h ps := by
 intro W R X most pb mk o1 l1 c1 o2 l2 c2 eo en ec e E hs1 hs2 hR hm hmost hb hec hz hE hok hokl hfr hN hmany
 obtain ⟨W0, hW0⟩ : ∃ W0, W0 = (W.alloc (.cells (cells9 h o1 l1 c1 o2 l2 c2) 29)).alloc (.cells #[.int .i64 0, .int .i64 0, .slice none 0 0] 24) := ⟨_, rfl⟩
 have hq0 : Quiet0 W W0 := by rw [hW0]; exact (Quiet0.alloc _ _).trans (Quiet0.alloc _ _)
 have hz0 : W0.heap.size = W.heap.size + 2 := by rw [hW0]; simp
 have h4 : Bx pb W0 W.heap.size (cells9 h o1 l1 c1 o2 l2 c2) 29 := Bx.new hm hq0 (Nat.le_refl _) (by rw [hW0]; exact blk_after (Quiet0.alloc _ _) (heap_alloc_new W _))
 have h6 : Bx pb W0 (W.heap.size + 1) #[.int .i64 0, .int .i64 0, .slice none 0 0] 24 := Bx.new hm hq0 (by omega) (by
  rw [hW0]
  have := heap_alloc_new (W.alloc (.cells (cells9 h o1 l1 c1 o2 l2 c2) 29)) (.cells #[.int .i64 0, .int .i64 0, .slice none 0 0] 24)
  simpa using this)
 have hm0 := hm.more hq0 (fun i => i = W.heap.size + 1) (fun i hi => by subst hi; omega)
 have hp := hm.lt
 have hl0 := Later.of_quiet hq0 hp
 have hnx := (termM_nm most h ps E hE.ne mk).1
 have hnb : mk.next <= 500000000 := Nat.le_trans hnx hN
 have HTK := hid (take_any hm0 (by omega))
 have HL0 := hid hl0
 have H4 := hid h4
 have H6 := hid h6
 have HP := hid hp
 have HBF := hid hb
 have HE := hid hE
 have HFR := hid hfr
 have HNB : Hid ((termM most h ps E mk).2.next <= NBd) := hN
 have HMO := hid hmost
 have HK := hid hk
 have HGO := hid (term_go most h ps E mk hmany)
 have HM0P := hid hm0.lt
 have t2 : (h.k == 2) = false := by rw [hk]; rfl
 have t3 : (h.k == 3) = false := by rw [hk]; rfl
 have t1 : (h.k == 1) = true := by rw [hk]; rfl
 obtain ⟨X1, hX1⟩ : ∃ X1, X1 = (fun i => X i ∨ i = W.heap.size + 1) := ⟨_, rfl⟩
 have HX1 : Hid (∀ i, X1 i = (X i ∨ i = W.heap.size + 1)) := fun i => by rw [hX1]
 rw [<- hX1] at HTK
 clear hs1 hs2 hR hm hb hE hok hokl hfr hN hm0 hl0 hq0 h4 h6 hX1 hnx hk hp hz0 hmost
 obtain ⟨v, hv⟩ := lookF_some e h.nm (mem_of_free HK.out HFR.out)
 have HLV := hid hv
 obtain ⟨F, lb, hvF, heg, hrun⟩ := HE.out.look hv
 subst hvF
 have HRUN := hid hrun
 obtain ⟨res, hres⟩ : ∃ res, lookE E h.nm { mk with next := mk.next + 1 } = res := ⟨_, rfl⟩
 obtain ⟨fin, hfin⟩ : ∃ fin, (eqP most (tv mk.next) res.1 h.fr h.en res.2).2 = fin := ⟨_, rfl⟩
 have HRES : Hid (termM most h ps E mk = (tv mk.next, fin)) := by show _ = _; rw [HGO.out, body_var HK.out, hres, hfin]
 have HRN : Hid (res.2.next <= NBd) := by
  show _ <= _
  have k := HNB.out
  rw [HRES.out, <- hfin] at k
  simpa only [eqP_nx] using k
 have HEQR := hid hres
 have HFIN := hid hfin
 clear hres hfin hv hrun
 unfold MkQ
 unfold tmv
 go_enter Tryz.func42, Tryz.ntmps42
 generalize hBB : W.heap.size = B at *
 go_upto_region 1 with fail
 rw [<- hW0]
 clear hW0
 go_wp2_with fail
 refine HTK.out.mono ?_; rintro x w1 ⟨n0, oo, cc, hn0, rfl, hm1, hl1⟩
 obtain rfl : mk.next = n0 := tv_inj hn0
 obtain ⟨W2, hW2⟩ : ∃ W2, W2 = w1.alloc (.cells #[.int .i64 1, .int .i64 mk.next, .slice oo 0 cc] 24) := ⟨_, rfl⟩
 have hq2 : Quiet0 w1 W2 := by rw [hW2]; exact Quiet0.alloc _ _
 have h7 : Bx pb W2 w1.heap.size #[.int .i64 1, .int .i64 mk.next, .slice oo 0 cc] 24 := Bx.new hm1 hq2 (Nat.le_refl _) (by rw [hW2]; exact heap_alloc_new w1 _)
 have H7 := hid h7
 have hm2 := hm1.stay hq2
 replace hm2 : MkE X1 most pb W2 { mk with next := mk.next + 1 } := hm2
 have hl2 := hl1.quiet hq2 HM0P.out
 have HM2 := hid hm2
 have HL2 := hid (HL0.out.trans hl2)
 have H42 := hid (H4.out.later hl2)
 have H62 := hid (H6.out.later hl2)
 have HP2 := hid hm2.lt
 clear hm1 hl1 hq2 h7 hm2 hl2 hn0 H4 H6 HL0 HTK
 unfold tyv
 go_upto_region 2 with fail
 change Code.wp _ _ _ _ (w1.alloc (.cells #[.int .i64 1, .int .i64 mk.next, .slice oo 0 cc] 24))
 rw [<- hW2]
 clear hW2
 generalize hC : w1.heap.size = C at *
 obtain ⟨ko, kc, kxs, hmka⟩ := HM2.out
 obtain ⟨_, _, _, q3⟩ := mk_cells hmka.box
 replace q3 : W2.cell? ⟨pb, 3, none⟩ = some (.bool false) := by rw [<- hmany]; exact q3
 obtain ⟨a0, a1, a2, a3, a4, a5, a6, a7, a8⟩ := cells9_block H42.out.1
 obtain ⟨b0, b1, b2, _, _, _⟩ := box_cells3 H7.out.1
 clear hmka
 have hpb := HP2.out
 have HSS : Hid (∀ W, Later pb W2 W -> (W.cell? ⟨B, 0, none⟩ = some (.int .i64 h.k) /\ W.cell? ⟨B, 1, none⟩ = some (.string h.nm) /\ W.cell? ⟨B, 2, none⟩ = some (.int .i64 h.n) /\ W.cell? ⟨B, 3, none⟩ = some (.int .i64 h.tk) /\ W.cell? ⟨B, 4, none⟩ = some (.int .i64 h.tn) /\ W.cell? ⟨B, 5, none⟩ = some (.slice o1 l1 c1) /\ W.cell? ⟨B, 6, none⟩ = some (.slice o2 l2 c2) /\ W.cell? ⟨B, 7, none⟩ = some (.int .i64 h.fr) /\ W.cell? ⟨B, 8, none⟩ = some (.int .i64 h.en)) /\ (W.cell? ⟨C, 0, none⟩ = some (.int .i64 1) /\ W.cell? ⟨C, 1, none⟩ = some (.int .i64 mk.next) /\ W.cell? ⟨C, 2, none⟩ = some (.slice oo 0 cc))) := fun W' hl => by
  obtain ⟨k0, k1, k2, _⟩ := box_cells3 (H7.out.later hl).1
  exact ⟨cells9_block (H42.out.later hl).1, k0, k1, k2⟩
 have HLK : Hid (∀ W, Later pb W2 W -> Calls Tryz.prog 67 #[.slice eo en ec, .string h.nm] W fun x w' => x = .returned (.func (.func F) #[] lb) /\ Quiet0 W w') := fun W' hl => (look_any _ e h.nm _ eo en ec W' (HBF.out.later (HL2.out.trans hl)) (by omega) HLV.out).mono (by rintro x w' ⟨rfl, rfl⟩; exact ⟨rfl, Quiet0.refl _⟩)
 have HMN : Hid (∀ W, Later pb W2 W -> MkE X1 most pb W { mk with next := mk.next + 1 } -> Calls Tryz.prog F (#[.pointer (some ⟨pb, 0, none⟩), .agg #[.int .i64 h.fr, .int .i64 h.en]] ++ lb) W (MkQ X1 most pb W res)) := fun W' hl hm => by
  have k := HRUN.out W' X1 { mk with next := mk.next + 1 } h.fr h.en (HL2.out.trans hl) hm (Nat.le_succ _) (by rw [HEQR.out]; exact HRN.out)
  rw [HEQR.out] at k
  exact k
 have HEQ : Hid (∀ (W : World) (n9 : Nat) (o9 : Option Addr) (c9 : Nat), res.1 = tv n9 -> MkE X1 most pb W res.2 -> Calls Tryz.prog 66 #[.pointer (some ⟨pb, 0, none⟩), .agg #[.int .i64 1, .int .i64 mk.next, .slice oo 0 cc], .agg #[.int .i64 1, .int .i64 n9, .slice o9 0 c9], .agg #[.int .i64 h.fr, .int .i64 h.en]] W (MkU X1 most pb W fin)) := fun W n9 o9 c9 hr hmw => by
  have k := equate_any (o1 := oo) (l1 := 0) (c1 := cc) (o2 := o9) (l2 := 0) (c2 := c9) hmw HMO.out (tv mk.next) (tv n9) h.fr h.en (SlcIn.nil _ _ _) (SlcIn.nil _ _ _) (Nat.le_of_ble_eq_true rfl) (Nat.le_of_ble_eq_true rfl)
  rw [<- hr, HFIN.out] at k
  rw [hr] at k
  exact k
 have hmk := HM2.out
 have hlc := Later.refl hpb
 go_upto_region 10 with fail
 go_region_held3 (fun W => (W.cell? ⟨B, 0, none⟩ = some (.int .i64 h.k) /\ W.cell? ⟨B, 1, none⟩ = some (.string h.nm) /\ W.cell? ⟨B, 2, none⟩ = some (.int .i64 h.n) /\ W.cell? ⟨B, 3, none⟩ = some (.int .i64 h.tk) /\ W.cell? ⟨B, 4, none⟩ = some (.int .i64 h.tn) /\ W.cell? ⟨B, 5, none⟩ = some (.slice o1 l1 c1) /\ W.cell? ⟨B, 6, none⟩ = some (.slice o2 l2 c2) /\ W.cell? ⟨B, 7, none⟩ = some (.int .i64 h.fr) /\ W.cell? ⟨B, 8, none⟩ = some (.int .i64 h.en)) /\ (W.cell? ⟨C, 0, none⟩ = some (.int .i64 1) /\ W.cell? ⟨C, 1, none⟩ = some (.int .i64 mk.next) /\ W.cell? ⟨C, 2, none⟩ = some (.slice oo 0 cc)))
  (((refine HSS.out _ ?_); (repeat with_reducible first | exact hlc | exact Later.refl hpb | refine jm hpb ?_ | refine jo hpb ?_)))
  (first
   | (go_at_call 67; (with_reducible refine Calls.mono (HLK.out _ ?hq) ?_); (case hq => (repeat with_reducible first | exact hlc | exact Later.refl hpb | refine jm hpb ?_ | refine jo hpb ?_)); rintro e wx ⟨rfl, hqx⟩; (refine with_ml (pb := pb) (X := X1) (most := most) (k := { mk with next := mk.next + 1 }) (w0 := W2) ?hl2 ?hm2 hqx ?_); (case hl2 => (repeat with_reducible first | exact hlc | exact Later.refl hpb | refine jm hpb ?_ | refine jo hpb ?_)); (case hm2 => (repeat with_reducible first | exact hmk | refine ja ?_ | refine jb ?_)); intro hlc hmk)
   | ((with_reducible refine Calls.mono (HMN.out _ ?hq ?hm) ?_); (case hq => (repeat with_reducible first | exact hlc | exact Later.refl hpb | refine jm hpb ?_ | refine jo hpb ?_)); (case hm => (repeat with_reducible first | exact hmk | refine ja ?_ | refine jb ?_)); rintro e wx ⟨n9, o9, c9, hr9, rfl, hmk, hlx⟩; unfold tyv; (refine with_lt (pb := pb) (w0 := W2) ?hl2 hlx ?_); (case hl2 => (repeat with_reducible first | exact hlc | exact Later.refl hpb | refine jm hpb ?_ | refine jo hpb ?_)); intro hlc)
   | ((go_at_call 66; (with_reducible refine Calls.mono (HEQ.out _ n9 _ _ hr9 ?hm) ?_)); (case hm => (repeat with_reducible first | exact hmk | refine ja ?_ | refine jb ?_)); rintro e wx ⟨rfl, hmk, hlx⟩; (refine with_lt (pb := pb) (w0 := W2) ?hl2 hlx ?_); (case hl2 => (repeat with_reducible first | exact hlc | exact Later.refl hpb | refine jm hpb ?_ | refine jo hpb ?_)); intro hlc)
   | fail)
 all_goals
  have HM9 := hid hmk
  have HL9 := hid hlc
  clear hmk hlc
  obtain ⟨g0, g1, g2, _, _, _⟩ := box_cells3 (H7.out.later HL9.out).1
  have hb6 := (H62.out.later HL9.out).1
  have HB6 := hid hb6
  obtain ⟨d0, d1, d2, y0, y1, y2⟩ := box_cells3 hb6
  clear hb6
  go_wp2_with fail
  clear d0 d1 d2 y0 y1 y2
  have hf := put3_fr wx (B + 1) (.int .i64 1) (.int .i64 mk.next) (.slice oo 0 cc)
  obtain ⟨f0, f1, f2⟩ := put3_cells (a := .int .i64 1) (b := .int .i64 mk.next) (c := .slice oo 0 cc) HB6.out
  change bodyPost _ _ _ _ _ (put3 wx (B + 1) (.int .i64 1) (.int .i64 mk.next) (.slice oo 0 cc))
  generalize put3 wx (B + 1) (.int .i64 1) (.int .i64 mk.next) (.slice oo 0 cc) = wf at *
  refine bodyPost_ret (by simp [results, Tryz.results42, go_sem, f0, f1, f2]; rfl) rfl ?_
  have hp : pb < W.heap.size := by rw [hBB]; exact HP.out
  refine ⟨mk.next, oo, cc, by rw [HRES.out], rfl, ?_, (HL2.out.trans HL9.out).put hf hp (fun i hi => by omega)⟩
  rw [HRES.out]
  exact (HM9.out.put (hf.mono (fun i _ e => by rw [HX1.out]; exact Or.inr (by omega)))).less (fun i hi => by rw [HX1.out]; exact Or.inl hi)
end Em
end
end Go.Proofs.YtcninopmelmajaaGreatDoor
