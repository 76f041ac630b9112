/-
  Texts laid together (PaForm, PaTok): laws and walks, with their conditions.
-/
import Derived.IntWalk
import Derived.Test.YtcninopmelmajaaGreatDoorMN20
set_option maxHeartbeats 8000000
set_option maxRecDepth 1000000
namespace Go.Proofs.YtcninopmelmajaaGreatDoor
open Go.Lib (hid)
section
namespace Pa
open Go.RowKit Lx
def stpB : Stp -> ByteArray
 | .e => ⟨#[101]⟩
 | .n => ⟨#[110]⟩
 | .s t => toBA t
def sIf : List Stp := [.e, .s wThen, .e, .s wElse, .e]
def sFun : List Stp := [.n, .s sArrow, .e]
def sLet : List Stp := [.n, .s sEq, .e, .s wIn, .e]
theorem steps_drop {E : Nat -> TmR} {l : List Tok} {ss : List Stp} {k : Nat} {s : Stp} (h : ss[k]? = some s) (m : Fm) : stepsQ E l (ss.drop k) m = match stepQ E l m s with
    | .inr e => .inr e
    | .inl m' => stepsQ E l (ss.drop (k + 1)) m' := by
 obtain ⟨hk, hs⟩ := List.getElem?_eq_some_iff.1 h
 rw [List.drop_eq_getElem_cons hk, hs]; rfl
def OkS (ss : List Stp) : Prop := ∀ t, Stp.s t ∈ ss -> (t == [101]) = false /\ (t == [110]) = false
structure HdW (B tb gs : Nat) (w : World) (kd : Int) (ss : List Stp) (wx : World) : Prop where
 b : wx.heap[B]? = some (.cells (z13 0 0) 129 (0, 0))
 t : wx.heap[tb]? = some (.cells #[.int .i64 kd, .string ⟨#[]⟩, .int .i64 0, .int .i64 0, .int .i64 0, .slice none 0 0, .slice none 0 0, .int .i64 0, .int .i64 0] 29 (0, 0))
 st : ∀ j s, ss[j]? = some s -> wx.cell? ⟨gs, j, none⟩ = some (.string (stpB s))
 lt : gs < wx.heap.size
 gt : tb < gs
 q : Quiet0 w wx
theorem HdW.kind {B tb gs : Nat} {w wx : World} {kd kd' : Int} {ss : List Stp} (h : HdW B tb gs w kd ss wx) (hB : B < tb) (hw : w.heap.size <= B) : HdW B tb gs w kd' ss (wx.setCell ⟨tb, 0, none⟩ (.int .i64 kd')) := by
 have hf := Fr.setCell (fun k => k = tb) wx ⟨tb, 0, none⟩ (.int .i64 kd') rfl
 have := h.gt
 refine ⟨blk_fr hf (by omega) h.b, set_block (i := 0) (u := .int .i64 kd') h.t, fun j s hs => (hf.cellb h.lt (by omega)).trans (h.st j s hs), by have := hf.size; have := h.lt; omega, h.gt, h.q.trans' hf (fun k hk e => by omega)⟩
theorem HdW.steps {B tb gs : Nat} {w wx : World} {kd : Int} {ss ss' : List Stp} {cs : Array Value} (h : HdW B tb gs w kd ss wx) (hc : ∀ (j : Nat) (s : Stp), ss'[j]? = some s -> cs[j]? = some (.string (stpB s))) : HdW B tb wx.heap.size w kd ss' (wx.alloc (.cells cs 9)) := by
 have hq := Quiet0.alloc wx (.cells cs 9)
 have := lt_of_block h.t
 exact ⟨blk_after hq h.b, blk_after hq h.t, fun j s hs => by rw [cell_of_row _ _ _ _ _ (0, 0) (heap_alloc_new wx _)]; exact hc j s hs, by simp, this, h.q.trans hq⟩
structure FmW (B tb lb gs : Nat) (w : World) (kd : Int) (ss : List Stp) (nm : List UInt8) (vo : Option Addr) (vc : Nat) (ps : To) (xs : List Value) (hl : Nd) (p1 : Option Addr) (m1 d1 : Nat) (p2 : Option Addr) (m2 d2 : Nat) (x : Pt) (jl : Int) (wx : World) : Prop where
 b : wx.heap[B]? = some (.cells (z13 0 0) 129 (0, 0))
 t : wx.heap[tb]? = some (.cells #[.int .i64 kd, .string (toBA nm), .int .i64 0, .int .i64 0, .int .i64 0, .slice none 0 0, .slice vo ps.length vc, .int .i64 0, .int .i64 0] 29 (0, 0))
 l : wx.heap[lb]? = some (.cells (c13 hl p1 m1 d1 p2 m2 d2 x jl 0) 129 (0, 0))
 st : ∀ j s, ss[j]? = some s -> wx.cell? ⟨gs, j, none⟩ = some (.string (stpB s))
 gl : gs < lb
 gt : tb < gs
 row : TmRowT wx (fun b => lb < b) (.slice vo ps.length vc) ps xs
 q : Quiet0 w wx
theorem FmW.stay {B tb lb gs : Nat} {w wx wy : World} {kd : Int} {ss : List Stp} {nm : List UInt8} {vo : Option Addr} {vc : Nat} {ps : To} {xs : List Value} {hl : Nd} {p1 : Option Addr} {m1 d1 : Nat} {p2 : Option Addr} {m2 d2 : Nat} {x : Pt} {jl : Int}
    (h : FmW B tb lb gs w kd ss nm vo vc ps xs hl p1 m1 d1 p2 m2 d2 x jl wx) (hq : Quiet0 wx wy) : FmW B tb lb gs w kd ss nm vo vc ps xs hl p1 m1 d1 p2 m2 d2 x jl wy :=
 ⟨blk_after hq h.b, blk_after hq h.t, blk_after hq h.l, fun j s hs => hq.at (h.st j s hs), h.gl, h.gt, h.row.stay hq, h.q.trans hq⟩
theorem FmW.name {B tb lb gs : Nat} {w wx : World} {kd : Int} {ss : List Stp} {nm nm' : List UInt8} {vo : Option Addr} {vc : Nat} {ps : To} {xs : List Value} {hl : Nd} {p1 : Option Addr} {m1 d1 : Nat} {p2 : Option Addr} {m2 d2 : Nat} {x : Pt} {jl : Int}
    (h : FmW B tb lb gs w kd ss nm vo vc ps xs hl p1 m1 d1 p2 m2 d2 x jl wx) (hB : B < tb) (hw : w.heap.size <= B) : FmW B tb lb gs w kd ss nm' vo vc ps xs hl p1 m1 d1 p2 m2 d2 x jl (wx.setCell ⟨tb, 1, none⟩ (.string (toBA nm'))) := by
 have hf := Fr.setCell (fun k => k = tb) wx ⟨tb, 1, none⟩ (.string (toBA nm')) rfl
 have h1 := h.gt
 have h2 := h.gl
 have h3 := lt_of_block h.l
 exact ⟨blk_fr hf (by omega) h.b, set_block (i := 1) (u := .string (toBA nm')) h.t, blk_fr hf (by omega) h.l, fun j s hs => (hf.cellb (by omega) (by omega)).trans (h.st j s hs), h.gl, h.gt, h.row.fr hf (fun k hk e => by omega), h.q.trans' hf (fun k hk e => by omega)⟩
theorem FmW.last {B tb lb gs : Nat} {w wx : World} {kd : Int} {ss : List Stp} {nm : List UInt8} {vo : Option Addr} {vc : Nat} {ps : To} {xs : List Value} {hl : Nd} {p1 : Option Addr} {m1 d1 : Nat} {p2 : Option Addr} {m2 d2 : Nat} {x : Pt} {jl : Int} {h2 : Nd} {r1 : Option Addr} {n1 e1 : Nat} {r2 : Option Addr} {n2 e2 : Nat} {x2 : Pt} {j2 : Int}
    (h : FmW B tb lb gs w kd ss nm vo vc ps xs hl p1 m1 d1 p2 m2 d2 x jl wx) (hB : B < tb) (hw : w.heap.size <= B) : FmW B tb lb gs w kd ss nm vo vc ps xs h2 r1 n1 e1 r2 n2 e2 x2 j2 (put13 wx lb (.int .i64 h2.k) (.string h2.nm) (.int .i64 h2.n) (.int .i64 h2.tk) (.int .i64 h2.tn) (.slice r1 n1 e1) (.slice r2 n2 e2) (.int .i64 h2.fr) (.int .i64 h2.en) (.int .i64 x2.1) (.int .i64 x2.2) (.int .i64 j2) (.int .i64 0)) := by
 have hf := put13_fr wx lb (.int .i64 h2.k) (.string h2.nm) (.int .i64 h2.n) (.int .i64 h2.tk) (.int .i64 h2.tn) (.slice r1 n1 e1) (.slice r2 n2 e2) (.int .i64 h2.fr) (.int .i64 h2.en) (.int .i64 x2.1) (.int .i64 x2.2) (.int .i64 j2) (.int .i64 0)
 have h1 := h.gt
 have h2' := h.gl
 have h3 := lt_of_block h.l
 exact ⟨blk_fr hf (by omega) h.b, blk_fr hf (by omega) h.t, put13_block h.l, fun j s hs => (hf.cellb (by omega) (by omega)).trans (h.st j s hs), h.gl, h.gt, h.row.fr hf (fun k hk e => by omega), h.q.trans' hf (fun k hk e => by omega)⟩
theorem FmW.part {B tb lb gs : Nat} {w wx wy : World} {kd : Int} {ss : List Stp} {nm : List UInt8} {vo : Option Addr} {vc : Nat} {ps : To} {xs : List Value} {hl : Nd} {qs : To} {p1 : Option Addr} {m1 d1 : Nat} {p2 : Option Addr} {m2 d2 : Nat} {x : Pt} {jl : Int} {g3 c3 : Nat}
    (h : FmW B tb lb gs w kd ss nm vo vc ps xs hl p1 m1 d1 p2 m2 d2 x jl wx) (hB : B < tb) (hw : w.heap.size <= B)
    (hs1 : SlcIn (fun b => lb < b /\ (Value.slice vo ps.length vc).ownBlock ≠ some b) wx p1 m1 hl.tp) (hs2 : TSlc (fun b => lb < b /\ (Value.slice vo ps.length vc).ownBlock ≠ some b) wx p2 m2 qs)
    (ho : wy.ownsRow 0 29 9 (.slice (some ⟨g3, 0, none⟩) (ps.length + 1) c3) (ps.length + 1) (xs ++ (cells9 hl p1 m1 d1 p2 m2 d2).toList)) (hf : Fr (fun k => (Value.slice vo ps.length vc).ownBlock = some k) wx wy) (hg : (Value.slice vo ps.length vc).ownBlock = some g3 ∨ wx.heap.size <= g3) :
    FmW B tb lb gs w kd ss nm (some ⟨g3, 0, none⟩) c3 (ps.app (.cons hl qs .nil)) (xs ++ (cells9 hl p1 m1 d1 p2 m2 d2).toList) hl p1 m1 d1 p2 m2 d2 x jl (wy.setCell ⟨tb, 6, none⟩ (.slice (some ⟨g3, 0, none⟩) (ps.length + 1) c3)) := by
 have h1 := h.gt
 have h2 := h.gl
 have h3 := lt_of_block h.l
 have hlow : ∀ b, (Value.slice vo ps.length vc).ownBlock = some b -> lb < b := h.row.low
 have hfs := Fr.setCell (fun b => b = tb) wy ⟨tb, 6, none⟩ (.slice (some ⟨g3, 0, none⟩) (ps.length + 1) c3) rfl
 have hlen : (ps.app (.cons hl qs .nil)).length = ps.length + 1 := by rw [To.app_length]; simp [To.length]
 have ht := blk_fr hf (fun e => by have := hlow _ e; omega) h.t
 refine ⟨blk_fr hfs (by omega) (blk_fr hf (fun e => by have := hlow _ e; omega) h.b), ?_, blk_fr hfs (by omega) (blk_fr hf (fun e => by have := hlow _ e; omega) h.l), fun j s hs => (hfs.cellb (by have := hf.size; omega) (by omega)).trans ((hf.cellb (by omega) (fun e => by have := hlow _ e; omega)).trans (h.st j s hs)), h.gl, h.gt, ?_, (h.q.trans' hf (fun b hb e => by have := hlow _ e; omega)).trans' hfs (fun b hb e => by omega)⟩
 ·rw [hlen]; exact set_block (i := 6) (u := .slice (some ⟨g3, 0, none⟩) (ps.length + 1) c3) ht
 ·rw [hlen]; exact (TmRowT.snoc h.row hs1 hs2 ho hf hg (fun b hb => by omega)).fr hfs (fun b k e => by omega)
def Mid1 (ts : List Tok) (i B tb : Nat) (w : World) (v : Value) (wx : World) : Prop := ∃ gs, v = .slice (some ⟨gs, 0, none⟩) (if isT ts i 3 wFun then sFun else sIf).length (if isT ts i 3 wFun then sFun else sIf).length /\ HdW B tb gs w (if isT ts i 3 wFun then 4 else 8) (if isT ts i 3 wFun then sFun else sIf) wx
def Mid2 (ts : List Tok) (i B tb : Nat) (w : World) (v u : Value) (wx : World) : Prop := ∃ gs, v = .slice (some ⟨gs, 0, none⟩) (stpsF ts i).length (stpsF ts i).length /\ u = .int .i64 (fromF ts i : Nat) /\ HdW B tb gs w (kindF ts i) (stpsF ts i) wx
def FmRel (E : Nat -> TmR) (ts : List Tok) (B tb lb gs : Nat) (w : World) (kd : Int) (ss : List Stp) (fin : Sum Fm (Nat × Nat)) (u v : Value) (wx : World) : Prop :=
 ∃ (k : Nat) (m : Fm) (vo : Option Addr) (vc : Nat) (xs : List Value) (hl : Nd) (p1 : Option Addr) (m1 d1 : Nat) (p2 : Option Addr) (m2 d2 : Nat) (jl : Int), u = .int .i64 (m.i : Nat) /\ v = .int .i64 (k : Nat) /\ k <= ss.length /\ m.i < ts.length /\ m.ps.length <= k /\ stepsQ E ts (ss.drop k) m = fin /\ FmW B tb lb gs w kd ss m.nm vo vc m.ps xs hl p1 m1 d1 p2 m2 d2 m.x jl wx
theorem stps_ok (ts : List Tok) (i : Nat) : (stpsF ts i).length <= 5 /\ OkS (stpsF ts i) := by
 have h : ∀ ss : List Stp, ss = sIf ∨ ss = sFun ∨ ss = sLet -> ss.length <= 5 /\ OkS ss := by
  rintro ss (rfl | rfl | rfl)
  all_goals
   refine ⟨by decide, fun t ht => ?_⟩
   simp [sIf, sFun, sLet] at ht
   first
    | (rcases ht with rfl | rfl <;> decide)
    | (subst ht; decide)
 apply h
 unfold stpsF
 by_cases h1 : isT ts i 3 wLet = true
 ·rw [if_pos h1]; exact .inr (.inr rfl)
 ·rw [if_neg h1]
  by_cases h2 : isT ts i 3 wFun = true
  ·rw [if_pos h2]; exact .inr (.inl rfl)
  ·rw [if_neg h2]; exact .inl rfl
theorem form_any (ts : List Tok) (g c : Nat) (E : Nat -> TmR) (i : Nat) (lv mo : Int) (w : World) (hsh : Shut ts) (hlt : i + 1 < ts.length) (hin : ∀ j, j < ts.length -> TmIn' ts.length j (E j)) (ht : TkAt w g ts) (hlv1 : -1000000 <= lv) (hlv2 : lv <= 900000)
    (hE : ∀ (j : Nat) (aj : Int) (W : World), aj = j -> j < ts.length -> Quiet0 w W -> Calls Tryz.prog 79 #[tks g ts c, .int .i64 aj, .int .i64 (lv + 1), .int .i64 mo] W (TmPost W (E j))) :
    Calls Tryz.prog 102 #[tks g ts c, .int .i64 i, .int .i64 lv, .int .i64 mo] w (TmPost w (formQ E ts i)) := by
 have hfew := ht.few
 obtain ⟨t9, ht9⟩ : ∃ t9, ts[i]? = some t9 := ⟨_, List.getElem?_eq_getElem (by omega)⟩
 obtain ⟨W0, hW0⟩ : ∃ W0, W0 = ((w.alloc zRd).alloc (.cells #[.int .i64 8, .string ⟨#[]⟩, .int .i64 0, .int .i64 0, .int .i64 0, .slice none 0 0, .slice none 0 0, .int .i64 0, .int .i64 0] 29)).alloc (.cells #[.string ⟨#[101]⟩, .string ⟨#[116, 104, 101, 110]⟩, .string ⟨#[101]⟩, .string ⟨#[101, 108, 115, 101]⟩, .string ⟨#[101]⟩] 9) := ⟨_, rfl⟩
 have HD0 : Hid (HdW w.heap.size (w.heap.size + 1) (w.heap.size + 1 + 1) w 8 sIf W0) := by
  have hq0 : Quiet0 w W0 := by rw [hW0]; exact ((Quiet0.alloc _ _).trans (Quiet0.alloc _ _)).trans (Quiet0.alloc _ _)
  have hz1 : (w.alloc zRd).heap.size = w.heap.size + 1 := by simp
  have hz2 : ((w.alloc zRd).alloc (.cells #[.int .i64 8, .string ⟨#[]⟩, .int .i64 0, .int .i64 0, .int .i64 0, .slice none 0 0, .slice none 0 0, .int .i64 0, .int .i64 0] 29)).heap.size = w.heap.size + 1 + 1 := by simp
  refine ⟨?_, ?_, ?_, by rw [hW0]; simp, by omega, hq0⟩
  ·rw [hW0, Below.heap_alloc _ _ _ (by simp; omega), Below.heap_alloc _ _ _ (by simp)]; exact heap_alloc_new w _
  ·rw [hW0, Below.heap_alloc _ _ _ (by simp), <- hz1]; exact heap_alloc_new (w.alloc zRd) _
  ·intro j s hs
   rw [hW0, <- hz2, cell_of_row _ _ _ _ _ (0, 0) (heap_alloc_new _ _)]
   match j, hs with
   | 0, hs => cases hs; rfl
   | 1, hs => cases hs; rfl
   | 2, hs => cases hs; rfl
   | 3, hs => cases hs; rfl
   | 4, hs => cases hs; rfl
   | j + 5, hs => simp [sIf] at hs
 have HET := hid hE
 have HIN := hid hin
 have HSH := hid hsh
 have HSG : Hid (∀ (j : Nat) (s : ByteArray) (W : World), Quiet0 w W -> Calls Tryz.prog 121 #[tks g ts c, .int .i64 j, .string s] W fun e w' => e = .returned (.bool (isT ts j 4 s.data.toList)) /\ W = w') := fun j s W hq => sign_any ts g c j s W (ht.stay hq)
 have HWD : Hid (∀ (j : Nat) (s : ByteArray) (W : World), Quiet0 w W -> Calls Tryz.prog 101 #[tks g ts c, .int .i64 j, .string s] W fun e w' => e = .returned (.bool (isT ts j 3 s.data.toList)) /\ W = w') := fun j s W hq => word_any ts g c j s W (ht.stay hq)
 have HNM : Hid (∀ (j : Nat) (W : World), Quiet0 w W -> Calls Tryz.prog 120 #[tks g ts c, .int .i64 j] W fun e w' => e = .returned (.bool (nameQ ts j)) /\ W = w') := fun j W hq => nameT_any ts g c j W (ht.stay hq)
 have HFun : Hid (∀ (W : World), Quiet0 w W -> Calls Tryz.prog 101 #[tks g ts c, .int .i64 i, .string ⟨#[102, 117, 110]⟩] W fun e w' => e = .returned (.bool (isT ts i 3 wFun)) /\ W = w') := fun W hq => HWD.out i _ W hq
 have HLet : Hid (∀ (W : World), Quiet0 w W -> Calls Tryz.prog 101 #[tks g ts c, .int .i64 i, .string ⟨#[108, 101, 116]⟩] W fun e w' => e = .returned (.bool (isT ts i 3 wLet)) /\ W = w') := fun W hq => HWD.out i _ W hq
 have HRec : Hid (∀ (W : World), Quiet0 w W -> Calls Tryz.prog 101 #[tks g ts c, .int .i64 ((i : Int) + 1), .string ⟨#[114, 101, 99]⟩] W fun e w' => e = .returned (.bool (isT ts (i + 1) 3 wRec)) /\ W = w') := fun W hq => HWD.out (i + 1) _ W hq
 have HCE : Hid (∀ (j : Nat) (t : Tok), ts[j]? = some t -> ∀ W, Quiet0 w W -> W.cell? ⟨g, j * 4, none⟩ = some (.int .i64 (t.kind : Nat)) /\ W.cell? ⟨g, j * 4 + 1, none⟩ = some (.string (toBA t.text)) /\ W.cell? ⟨g, j * 4 + 2, none⟩ = some (.int .i64 (t.fr : Nat)) /\ W.cell? ⟨g, j * 4 + 3, none⟩ = some (.int .i64 (t.to : Nat))) := fun j t h W hq => (ht.stay hq).cells j t h
 have HT9 := hid ht9
 obtain ⟨fin, hfin⟩ : ∃ fin, stepsQ E ts (stpsF ts i) ⟨[], .nil, (0, 0), fromF ts i⟩ = fin := ⟨_, rfl⟩
 have HFIN := hid hfin
 have hform : formQ E ts i = endF ts i (kindF ts i) fin := by unfold formQ; rw [hfin]
 obtain ⟨res, hres⟩ : ∃ res, endF ts i (kindF ts i) fin = res := ⟨_, rfl⟩
 have HRES := hid hres
 rw [hform, hres]
 have hfl : fromF ts i < ts.length := by
  unfold fromF
  split
  ·next h => rw [Bool.and_eq_true] at h; have := isT_lt hsh h.2 (by decide); omega
  ·omega
 have HSS := hid (stps_ok ts i)
 clear ht hE hin hsh ht9 hfin hform hres
 go_enter Tryz.func102, Tryz.ntmps102
 go_upto_region 4 with fail
 change Code.wp _ _ _ _ (((w.alloc zRd).alloc (.cells #[.int .i64 8, .string ⟨#[]⟩, .int .i64 0, .int .i64 0, .int .i64 0, .slice none 0 0, .slice none 0 0, .int .i64 0, .int .i64 0] 29)).alloc (.cells #[.string ⟨#[101]⟩, .string ⟨#[116, 104, 101, 110]⟩, .string ⟨#[101]⟩, .string ⟨#[101, 108, 115, 101]⟩, .string ⟨#[101]⟩] 9))
 rw [<- hW0]
 clear hW0
 generalize hB : w.heap.size = B at *
 have HBE := hid hB
 clear hB
 go_wp2_with fail
 refine (HFun.out W0 HD0.out.q).mono ?_; rintro e w1 ⟨rfl, rfl⟩
 go_upto_if 20 with fail
 go_cut [10] (fun v wx => Mid1 ts i B (B + 1) w v wx)
 case first =>
  cases h1 : isT ts i 3 wFun
  case true =>
   have HS1 := hid (HD0.out.steps (ss' := sFun) (cs := #[.string ⟨#[110]⟩, .string ⟨#[45, 62]⟩, .string ⟨#[101]⟩]) (by
    intro j s hs
    match j, hs with
    | 0, hs => cases hs; rfl
    | 1, hs => cases hs; rfl
    | 2, hs => cases hs; rfl
    | j + 3, hs => simp [sFun] at hs))
   have HD1 := hid (HS1.out.kind (kd' := 4) (by omega) (by have := HBE.out; omega))
   have ht0 := HS1.out.t
   obtain ⟨⟨t0, t1, t2, t3, t4, t5, t6, t7, t8⟩, u0, u1, u2, u3, u4, u5, u6, u7, u8⟩ := block9 ht0
   clear ht0
   go_wp2_with fail
   go_meet
   unfold Mid1
   rw [h1]
   exact ⟨_, rfl, HD1.out⟩
  case false =>
   go_wp2_with fail
   go_meet
   unfold Mid1
   rw [h1]
   exact ⟨B + 1 + 1, rfl, HD0.out⟩
 case rest =>
  rename World => wa
  obtain ⟨gs, rfl, hda⟩ := hcut
  have HDA := hid hda
  clear hda HD0
  have HSA : Hid (isT ts i 3 wLet = false -> stpsF ts i = (if isT ts i 3 wFun then sFun else sIf) /\ kindF ts i = (if isT ts i 3 wFun then 4 else 8) /\ fromF ts i = i + 1) := by
   intro h
   refine ⟨?_, ?_, ?_⟩
   ·unfold stpsF; rw [if_neg (by rw [h]; simp)]; rfl
   ·unfold kindF; rw [if_neg (by rw [h]; simp)]
   ·unfold fromF; rw [if_neg (by rw [h]; simp)]
  generalize (if isT ts i 3 wFun then sFun else sIf) = sa at *
  generalize (if isT ts i 3 wFun then (4 : Int) else 8) = ka at *
  go_wp2_with fail
  refine (HLet.out wa HDA.out.q).mono ?_; rintro e w1 ⟨rfl, rfl⟩
  go_upto_if 25 with fail
  go_cut [10, 11] (fun v u wx => Mid2 ts i B (B + 1) w v u wx)
  case first =>
   cases h2 : isT ts i 3 wLet
   case false =>
    go_wp2_with fail
    go_meet
    obtain ⟨e1, e2, e3⟩ := HSA.out h2
    unfold Mid2
    rw [e1, e2, e3]
    exact ⟨gs, rfl, by go_num, HDA.out⟩
   case true =>
    have HS1 := hid (HDA.out.steps (ss' := sLet) (cs := #[.string ⟨#[110]⟩, .string ⟨#[61]⟩, .string ⟨#[101]⟩, .string ⟨#[105, 110]⟩, .string ⟨#[101]⟩]) (by
     intro j s hs
     match j, hs with
     | 0, hs => cases hs; rfl
     | 1, hs => cases hs; rfl
     | 2, hs => cases hs; rfl
     | 3, hs => cases hs; rfl
     | 4, hs => cases hs; rfl
     | j + 5, hs => simp [sLet] at hs))
    have HD1 := hid (HS1.out.kind (kd' := 6) (by omega) (by have := HBE.out; omega))
    have ht0 := HS1.out.t
    obtain ⟨⟨t0, t1, t2, t3, t4, t5, t6, t7, t8⟩, u0, u1, u2, u3, u4, u5, u6, u7, u8⟩ := block9 ht0
    clear ht0
    go_upto_region 8 with fail
    change Code.wp _ _ _ _ ((wa.alloc (.cells #[.string ⟨#[110]⟩, .string ⟨#[61]⟩, .string ⟨#[101]⟩, .string ⟨#[105, 110]⟩, .string ⟨#[101]⟩] 9)).setCell ⟨B + 1, 0, none⟩ (.int .i64 6))
    clear t0 t1 t2 t3 t4 t5 t6 t7 t8 u0 u1 u2 u3 u4 u5 u6 u7 u8 HS1 HSA
    generalize wa.heap.size = gs2 at *
    generalize (wa.alloc (.cells #[.string ⟨#[110]⟩, .string ⟨#[61]⟩, .string ⟨#[101]⟩, .string ⟨#[105, 110]⟩, .string ⟨#[101]⟩] 9)).setCell ⟨B + 1, 0, none⟩ (.int .i64 6) = W1 at *
    go_wp2_with fail
    refine (HRec.out W1 HD1.out.q).mono ?_; rintro e w1 ⟨rfl, rfl⟩
    cases h3 : isT ts (i + 1) 3 wRec
    case false =>
     have HE : Hid (stpsF ts i = sLet /\ kindF ts i = 6 /\ fromF ts i = i + 1) := by
      refine ⟨?_, ?_, ?_⟩
      ·unfold stpsF; rw [if_pos h2]; rfl
      ·unfold kindF; rw [if_pos h2, if_neg (by rw [h3]; simp)]
      ·unfold fromF; rw [if_neg (by rw [h3]; simp)]
     go_wp2_with fail
     go_meet
     unfold Mid2
     rw [HE.out.1, HE.out.2.1, HE.out.2.2]
     exact ⟨gs2, rfl, by go_num, HD1.out⟩
    case true =>
     have HE : Hid (stpsF ts i = sLet /\ kindF ts i = 7 /\ fromF ts i = i + 2) := by
      refine ⟨?_, ?_, ?_⟩
      ·unfold stpsF; rw [if_pos h2]; rfl
      ·unfold kindF; rw [if_pos h2, if_pos h3]
      ·unfold fromF; rw [if_pos (by rw [h2, h3]; rfl)]
     have ht0 := HD1.out.t
     obtain ⟨⟨t0, t1, t2, t3, t4, t5, t6, t7, t8⟩, u0, u1, u2, u3, u4, u5, u6, u7, u8⟩ := block9 ht0
     have HD2 := hid (HD1.out.kind (kd' := 7) (by omega) (by have := HBE.out; omega))
     clear ht0
     go_wp2_with fail
     go_meet
     unfold Mid2
     rw [HE.out.1, HE.out.2.1, HE.out.2.2]
     exact ⟨gs2, rfl, by go_num, HD2.out⟩
  case rest =>
   rename World => wb
   clear HDA HSA
   obtain ⟨gs, rfl, rfl, hdb⟩ := hcut
   obtain ⟨W2, hW2⟩ : ∃ W2, W2 = wb.alloc zRd := ⟨_, rfl⟩
   have hq2 : Quiet0 wb W2 := by rw [hW2]; exact Quiet0.alloc _ _
   obtain ⟨ss, hss⟩ : ∃ ss, stpsF ts i = ss := ⟨_, rfl⟩
   obtain ⟨kd, hkd⟩ : ∃ kd, kindF ts i = kd := ⟨_, rfl⟩
   rw [hss, hkd] at hdb
   rw [hss] at HSS HFIN ⊢
   rw [hkd] at HRES
   have HF2 : Hid (FmW B (B + 1) wb.heap.size gs w kd ss [] none 0 .nil [] ⟨0, ⟨#[]⟩, 0, 0, 0, .nil, 0, 0⟩ none 0 0 none 0 0 (0, 0) 0 W2) :=
    ⟨blk_after hq2 hdb.b, blk_after hq2 hdb.t, by rw [hW2]; exact heap_alloc_new wb _, fun j s hs => hq2.at (hdb.st j s hs), hdb.lt, hdb.gt, TmRowT.nil _ _, hdb.q.trans hq2⟩
   go_upto_block 0 with fail
   change Code.wp _ _ _ _ (wb.alloc zRd)
   rw [<- hW2]
   clear hW2 hq2 hdb hss hkd
   generalize wb.heap.size = lb at *
   have hl5 := HSS.out.1
   generalize hfi : fromF ts i = fi at *
   clear hfi
   go_wp2_with fail
   go_loopw [11, 13] (fun u v wr => FmRel E ts B (B + 1) lb gs w kd ss fin u v wr) (fun _ v _ => ss.length - (intOf v).toNat)
   case atStart => exact ⟨0, ⟨[], .nil, (0, 0), fi⟩, none, 0, [], _, none, 0, 0, none, 0, 0, 0, rfl, rfl, Nat.zero_le _, hfl, Nat.le_refl _, HFIN.out, HF2.out⟩
   case round =>
    obtain ⟨k, m, vo, vc, xs, hl, p1, m1, d1, p2, m2, d2, jl, rfl, rfl, hk, hmi, hml, hst, hfm⟩ := hrel
    obtain ⟨mn, mp, mx, mi⟩ := m
    dsimp only at hmi hml hst hfm
    have HST := hid hst
    have HFM := hid hfm
    clear hst hfm HF2 HFIN
    by_cases hlt2 : k < ss.length
    ·have hlt2' : (k : Int) < ss.length := by omega
     have hk0 : (0 : Int) <= k := by omega
     obtain ⟨s, hs⟩ : ∃ s, ss[k]? = some s := ⟨_, List.getElem?_eq_getElem hlt2⟩
     have c0 := HFM.out.st k s hs
     have HST2 := hid ((steps_drop hs _).symm.trans HST.out)
     cases s with
     | e =>
      have e1 : ((ByteArray.mk #[101]).toList == [101]) = true := by rw [ByteArray.toList_eq]; rfl
      change wr.cell? ⟨gs, k, none⟩ = some (.string ⟨#[101]⟩) at c0
      have HC := HET.out mi (mi : Int) wr rfl hmi HFM.out.q
      have HI2 := HIN.out mi hmi
      cases hr2 : E mi with
      | inr y =>
       obtain ⟨j, er⟩ := y
       rw [hr2] at HC HI2
       have hne : er ≠ 0 := HI2.2
       have hne2 : ((er : Int) != 0) = true := by simp [hne]
       have HFE : Hid (res = .inr (j, er)) := by
        show _ = _
        rw [<- HRES.out, <- HST2.out]
        show endF ts i kd (match stepQ E ts ⟨mn, mp, mx, mi⟩ Stp.e with | .inr e => .inr e | .inl m' => _) = _
        rw [show stepQ E ts ⟨mn, mp, mx, mi⟩ Stp.e = .inr (j, er) from by simp only [stepQ, hr2]]
        rfl
       have HC2 := hid HC
       clear HC HI2 hr2
       go_wp2_with fail
       refine HC2.out.mono ?_; rintro e w5 ⟨rfl, hq5⟩
       have HF5 := hid (HFM.out.stay hq5)
       have hl5' := HF5.out.l
       obtain ⟨q0, q1, q2, q3, q4, q5, q6, q7, q8, q9, q10, q11, q12⟩ := cells13 hl5'
       have v0 := free13 hl5' 0
       have v1 := free13 hl5' 1
       have v2 := free13 hl5' 2
       have v3 := free13 hl5' 3
       have v4 := free13 hl5' 4
       have v5 := free13 hl5' 5
       have v6 := free13 hl5' 6
       have v7 := free13 hl5' 7
       have v8 := free13 hl5' 8
       have v9 := free13 hl5' 9
       have v10 := free13 hl5' 10
       have v11 := free13 hl5' 11
       have v12 := free13 hl5' 12
       go_upto_region 21 with fail
       change Code.wp _ _ _ _ (put13 w5 lb (.int .i64 0) (.string ⟨#[]⟩) (.int .i64 0) (.int .i64 0) (.int .i64 0) (.slice none 0 0) (.slice none 0 0) (.int .i64 0) (.int .i64 0) (.int .i64 0) (.int .i64 0) (.int .i64 (j : Nat)) (.int .i64 (er : Nat)))
       have hf6 := put13_fr w5 lb (.int .i64 0) (.string ⟨#[]⟩) (.int .i64 0) (.int .i64 0) (.int .i64 0) (.slice none 0 0) (.slice none 0 0) (.int .i64 0) (.int .i64 0) (.int .i64 0) (.int .i64 0) (.int .i64 (j : Nat)) (.int .i64 (er : Nat))
       have hl6 := put13_block (a0 := .int .i64 0) (a1 := .string ⟨#[]⟩) (a2 := .int .i64 0) (a3 := .int .i64 0) (a4 := .int .i64 0) (a5 := .slice none 0 0) (a6 := .slice none 0 0) (a7 := .int .i64 0) (a8 := .int .i64 0) (a9 := .int .i64 0) (a10 := .int .i64 0) (a11 := .int .i64 (j : Nat)) (a12 := .int .i64 (er : Nat)) hl5'
       have hlb : B + 1 < lb := by have := HFM.out.gt; have := HFM.out.gl; omega
       have hb6 := blk_fr hf6 (by omega) HF5.out.b
       have HB6 := hid hb6
       have HQ6 := hid (HF5.out.q.trans' hf6 (fun b hb e => by have := HBE.out; omega))
       clear hf6 hl5' hq5 HC2 q0 v0 q1 v1 q2 v2 q3 v3 q4 v4 q5 v5 q6 v6 q7 v7 q8 v8 q9 v9 q10 v10 q11 v11 q12 v12
       generalize put13 w5 lb (.int .i64 0) (.string ⟨#[]⟩) (.int .i64 0) (.int .i64 0) (.int .i64 0) (.slice none 0 0) (.slice none 0 0) (.int .i64 0) (.int .i64 0) (.int .i64 0) (.int .i64 0) (.int .i64 (j : Nat)) (.int .i64 (er : Nat)) = W6 at *
       obtain ⟨q0, q1, q2, q3, q4, q5, q6, q7, q8, q9, q10, q11, q12⟩ := cells13 hl6
       obtain ⟨x0, x1, x2, x3, x4, x5, x6, x7, x8, x9, x10, x11, x12⟩ := cells13 hb6
       have y0 := free13 hb6 0
       have y1 := free13 hb6 1
       have y2 := free13 hb6 2
       have y3 := free13 hb6 3
       have y4 := free13 hb6 4
       have y5 := free13 hb6 5
       have y6 := free13 hb6 6
       have y7 := free13 hb6 7
       have y8 := free13 hb6 8
       have y9 := free13 hb6 9
       have y10 := free13 hb6 10
       have y11 := free13 hb6 11
       have y12 := free13 hb6 12
       clear hl6 hb6
       go_wp2_with fail
       have hf := put13_fr W6 B (.int .i64 0) (.string ⟨#[]⟩) (.int .i64 0) (.int .i64 0) (.int .i64 0) (.slice none 0 0) (.slice none 0 0) (.int .i64 0) (.int .i64 0) (.int .i64 0) (.int .i64 0) (.int .i64 (j : Nat)) (.int .i64 (er : Nat))
       have hqf : Quiet0 w (put13 W6 B (.int .i64 0) (.string ⟨#[]⟩) (.int .i64 0) (.int .i64 0) (.int .i64 0) (.slice none 0 0) (.slice none 0 0) (.int .i64 0) (.int .i64 0) (.int .i64 0) (.int .i64 0) (.int .i64 (j : Nat)) (.int .i64 (er : Nat))) := (HQ6.out).trans' hf (fun k hk e => by have := HBE.out; omega)
       obtain ⟨f0, f1, f2, f3, f4, f5, f6, f7, f8, f9, f10, f11, f12⟩ := cells13 (put13_block (a0 := .int .i64 0) (a1 := .string ⟨#[]⟩) (a2 := .int .i64 0) (a3 := .int .i64 0) (a4 := .int .i64 0) (a5 := .slice none 0 0) (a6 := .slice none 0 0) (a7 := .int .i64 0) (a8 := .int .i64 0) (a9 := .int .i64 0) (a10 := .int .i64 0) (a11 := .int .i64 (j : Nat)) (a12 := .int .i64 (er : Nat)) HB6.out)
       change bodyPost _ _ _ _ _ (put13 W6 B (.int .i64 0) (.string ⟨#[]⟩) (.int .i64 0) (.int .i64 0) (.int .i64 0) (.slice none 0 0) (.slice none 0 0) (.int .i64 0) (.int .i64 0) (.int .i64 0) (.int .i64 0) (.int .i64 (j : Nat)) (.int .i64 (er : Nat)))
       generalize put13 W6 B (.int .i64 0) (.string ⟨#[]⟩) (.int .i64 0) (.int .i64 0) (.int .i64 0) (.slice none 0 0) (.slice none 0 0) (.int .i64 0) (.int .i64 0) (.int .i64 0) (.int .i64 0) (.int .i64 (j : Nat)) (.int .i64 (er : Nat)) = wf at *
       refine bodyPost_ret (by simp [results, Tryz.results102, go_sem, f0, f1, f2, f3, f4, f5, f6, f7, f8, f9, f10, f11, f12]; rfl) rfl ?_
       rw [HFE.out]
       exact ⟨rfl, hqf⟩
      | inl y =>
       obtain ⟨⟨h2, qs⟩, x2, j⟩ := y
       rw [hr2] at HC HI2
       have hj2 : mi < j /\ j < ts.length := HI2
       have HFE : Hid (stepsQ E ts (ss.drop (k + 1)) ⟨mn, mp.app (.cons h2 qs .nil), x2, j⟩ = fin) := by
        show _ = _
        rw [<- HST2.out]
        rw [show stepQ E ts ⟨mn, mp, mx, mi⟩ Stp.e = .inl ⟨mn, mp.app (.cons h2 qs .nil), x2, j⟩ from by simp only [stepQ, hr2]]
       have HC2 := hid HC
       clear HC HI2 hr2
       go_wp2_with fail
       refine HC2.out.mono ?_; rintro e w5 ⟨r1, n1, e1', r2, n2, e2, rfl, hs5, ht5, hq5⟩
       have HF5 := hid (HFM.out.stay hq5)
       have hl5' := HF5.out.l
       obtain ⟨q0, q1, q2, q3, q4, q5, q6, q7, q8, q9, q10, q11, q12⟩ := cells13 hl5'
       have v0 := free13 hl5' 0
       have v1 := free13 hl5' 1
       have v2 := free13 hl5' 2
       have v3 := free13 hl5' 3
       have v4 := free13 hl5' 4
       have v5 := free13 hl5' 5
       have v6 := free13 hl5' 6
       have v7 := free13 hl5' 7
       have v8 := free13 hl5' 8
       have v9 := free13 hl5' 9
       have v10 := free13 hl5' 10
       have v11 := free13 hl5' 11
       have v12 := free13 hl5' 12
       go_upto_region 21 with fail
       change Code.wp _ _ _ _ (put13 w5 lb (.int .i64 h2.k) (.string h2.nm) (.int .i64 h2.n) (.int .i64 h2.tk) (.int .i64 h2.tn) (.slice r1 n1 e1') (.slice r2 n2 e2) (.int .i64 h2.fr) (.int .i64 h2.en) (.int .i64 x2.1) (.int .i64 x2.2) (.int .i64 (j : Nat)) (.int .i64 0))
       have hlb : B + 1 < lb := by have := HFM.out.gt; have := HFM.out.gl; omega
       have hlw := lt_of_block HFM.out.l
       have hf6 := put13_fr w5 lb (.int .i64 h2.k) (.string h2.nm) (.int .i64 h2.n) (.int .i64 h2.tk) (.int .i64 h2.tn) (.slice r1 n1 e1') (.slice r2 n2 e2) (.int .i64 h2.fr) (.int .i64 h2.en) (.int .i64 x2.1) (.int .i64 x2.2) (.int .i64 (j : Nat)) (.int .i64 0)
       have HF6 := hid (HF5.out.last (h2 := h2) (r1 := r1) (n1 := n1) (e1 := e1') (r2 := r2) (n2 := n2) (e2 := e2) (x2 := x2) (j2 := j) (by omega) (by have := HBE.out; omega))
       have hol : ∀ b, (Value.slice vo mp.length vc).ownBlock = some b -> b < wr.heap.size := fun b hb => (HFM.out.row.own.lt b hb).2
       have HS6 : Hid (SlcIn (fun b => lb < b /\ (Value.slice vo mp.length vc).ownBlock ≠ some b) (put13 w5 lb (.int .i64 h2.k) (.string h2.nm) (.int .i64 h2.n) (.int .i64 h2.tk) (.int .i64 h2.tn) (.slice r1 n1 e1') (.slice r2 n2 e2) (.int .i64 h2.fr) (.int .i64 h2.en) (.int .i64 x2.1) (.int .i64 x2.2) (.int .i64 (j : Nat)) (.int .i64 0)) r1 n1 h2.tp) := hs5.fr hf6 (fun b _ k => by have k' : wr.heap.size <= b := k; exact ⟨⟨by omega, fun e => by have := hol b e; omega⟩, by omega⟩)
       have HT6 : Hid (TSlc (fun b => lb < b /\ (Value.slice vo mp.length vc).ownBlock ≠ some b) (put13 w5 lb (.int .i64 h2.k) (.string h2.nm) (.int .i64 h2.n) (.int .i64 h2.tk) (.int .i64 h2.tn) (.slice r1 n1 e1') (.slice r2 n2 e2) (.int .i64 h2.fr) (.int .i64 h2.en) (.int .i64 x2.1) (.int .i64 x2.2) (.int .i64 (j : Nat)) (.int .i64 0)) r2 n2 qs) := ht5.fr hf6 (fun b _ k => by have k' : wr.heap.size <= b := k; exact ⟨⟨by omega, fun e => by have := hol b e; omega⟩, by omega⟩)
       clear hf6 hl5' hq5 HC2 hs5 ht5 hol q0 v0 q1 v1 q2 v2 q3 v3 q4 v4 q5 v5 q6 v6 q7 v7 q8 v8 q9 v9 q10 v10 q11 v11 q12 v12
       generalize put13 w5 lb (.int .i64 h2.k) (.string h2.nm) (.int .i64 h2.n) (.int .i64 h2.tk) (.int .i64 h2.tn) (.slice r1 n1 e1') (.slice r2 n2 e2) (.int .i64 h2.fr) (.int .i64 h2.en) (.int .i64 x2.1) (.int .i64 x2.2) (.int .i64 (j : Nat)) (.int .i64 0) = W6 at *
       have hl6 := HF6.out.l
       have ht6 := HF6.out.t
       obtain ⟨q0, q1, q2, q3, q4, q5, q6, q7, q8, q9, q10, q11, q12⟩ := cells13 hl6
       obtain ⟨⟨t0, t1, t2, t3, t4, t5, t6, t7, t8⟩, u0, u1, u2, u3, u4, u5, u6, u7, u8⟩ := block9 ht6
       clear hl6 ht6
       have hml9 : mp.length <= 5 := by omega
       go_wp2_with (at_builtin; go_must (refine wpList_append_one W6 rfl (.tmp 79) (.tmp 82) 25 rfl 29 _ 9 112 elemTm (.slice vo mp.length vc) mp.length xs rfl HF6.out.row.own (cells9 h2 r1 n1 e1' r2 n2 e2) rfl rfl (by simp [Value.oneCell']) (by unfold maxLen; omega) (by omega) ?_))
       intro g3 c3 w7 ho hf7 hg7
       have hlow : ∀ b, (Value.slice vo mp.length vc).ownBlock = some b -> lb < b := HF6.out.row.low
       have ht7 := blk_fr hf7 (fun e => by have := hlow _ e; omega) HF6.out.t
       have HF8 := hid (HF6.out.part (by omega) (by have := HBE.out; omega) HS6.out HT6.out ho hf7 hg7)
       clear t0 t1 t2 t3 t4 t5 t6 t7 t8 u0 u1 u2 u3 u4 u5 u6 u7 u8 q0 q1 q2 q3 q4 q5 q6 q7 q8 q9 q10 q11 q12
       obtain ⟨⟨t0, t1, t2, t3, t4, t5, t6, t7, t8⟩, u0, u1, u2, u3, u4, u5, u6, u7, u8⟩ := block9 ht7
       clear ht7 ho hf7 hg7 hlow
       go_upto_region 24 with fail
       change Code.wp _ _ _ _ (w7.setCell ⟨B + 1, 6, none⟩ (.slice (some ⟨g3, 0, none⟩) (mp.length + 1) c3))
       clear t0 t1 t2 t3 t4 t5 t6 t7 t8 u0 u1 u2 u3 u4 u5 u6 u7 u8
       generalize w7.setCell ⟨B + 1, 6, none⟩ (.slice (some ⟨g3, 0, none⟩) (mp.length + 1) c3) = W8 at *
       have hl8 := HF8.out.l
       obtain ⟨q0, q1, q2, q3, q4, q5, q6, q7, q8, q9, q10, q11, q12⟩ := cells13 hl8
       clear hl8
       go_wp2_with fail
       go_roundw
       case rel => exact ⟨k + 1, ⟨mn, mp.app (.cons h2 qs .nil), x2, j⟩, some ⟨g3, 0, none⟩, c3, _, h2, r1, n1, e1', r2, n2, e2, j, rfl, by go_num, by omega, hj2.2, by show (mp.app _).length <= _; rw [To.app_length]; simp [To.length]; omega, HFE.out, HF8.out⟩
       case measure => simp [intOf]; omega
     | n =>
      have e1 : ((ByteArray.mk #[110]).toList == [101]) = false := by rw [ByteArray.toList_eq]; rfl
      have e2 : ((ByteArray.mk #[110]).toList == [110]) = true := by rw [ByteArray.toList_eq]; rfl
      change wr.cell? ⟨gs, k, none⟩ = some (.string ⟨#[110]⟩) at c0
      go_wp2_with fail
      refine (HNM.out mi wr HFM.out.q).mono ?_; rintro e w4 ⟨rfl, rfl⟩
      cases hn : nameQ ts mi
      case false =>
       have HFE : Hid (res = .inr (mi, 3)) := by
        show _ = _
        rw [<- HRES.out, <- HST2.out]
        rw [show stepQ E ts ⟨mn, mp, mx, mi⟩ Stp.n = .inr (mi, 3) from by show (if nameQ ts mi = true then _ else _) = _; rw [if_neg (by rw [hn]; simp)]]
        rfl
       have HWR := hid (wrong_any (mi : Int) 3 wr)
       go_wp2_with fail
       refine HWR.out.mono ?_; rintro e w8 ⟨rfl, hq8⟩
       have HF8 := hid (HFM.out.stay hq8)
       have hb8 := HF8.out.b
       clear hq8
       obtain ⟨x0, x1, x2, x3, x4, x5, x6, x7, x8, x9, x10, x11, x12⟩ := cells13 hb8
       have y0 := free13 hb8 0
       have y1 := free13 hb8 1
       have y2 := free13 hb8 2
       have y3 := free13 hb8 3
       have y4 := free13 hb8 4
       have y5 := free13 hb8 5
       have y6 := free13 hb8 6
       have y7 := free13 hb8 7
       have y8 := free13 hb8 8
       have y9 := free13 hb8 9
       have y10 := free13 hb8 10
       have y11 := free13 hb8 11
       have y12 := free13 hb8 12
       clear hb8
       go_wp2_with fail
       have hf := put13_fr w8 B (.int .i64 0) (.string ⟨#[]⟩) (.int .i64 0) (.int .i64 0) (.int .i64 0) (.slice none 0 0) (.slice none 0 0) (.int .i64 0) (.int .i64 0) (.int .i64 0) (.int .i64 0) (.int .i64 (mi : Nat)) (.int .i64 3)
       have hqf : Quiet0 w (put13 w8 B (.int .i64 0) (.string ⟨#[]⟩) (.int .i64 0) (.int .i64 0) (.int .i64 0) (.slice none 0 0) (.slice none 0 0) (.int .i64 0) (.int .i64 0) (.int .i64 0) (.int .i64 0) (.int .i64 (mi : Nat)) (.int .i64 3)) := (HF8.out.q).trans' hf (fun k hk e => by have := HBE.out; omega)
       obtain ⟨f0, f1, f2, f3, f4, f5, f6, f7, f8, f9, f10, f11, f12⟩ := cells13 (put13_block (a0 := .int .i64 0) (a1 := .string ⟨#[]⟩) (a2 := .int .i64 0) (a3 := .int .i64 0) (a4 := .int .i64 0) (a5 := .slice none 0 0) (a6 := .slice none 0 0) (a7 := .int .i64 0) (a8 := .int .i64 0) (a9 := .int .i64 0) (a10 := .int .i64 0) (a11 := .int .i64 (mi : Nat)) (a12 := .int .i64 3) HF8.out.b)
       change bodyPost _ _ _ _ _ (put13 w8 B (.int .i64 0) (.string ⟨#[]⟩) (.int .i64 0) (.int .i64 0) (.int .i64 0) (.slice none 0 0) (.slice none 0 0) (.int .i64 0) (.int .i64 0) (.int .i64 0) (.int .i64 0) (.int .i64 (mi : Nat)) (.int .i64 3))
       generalize put13 w8 B (.int .i64 0) (.string ⟨#[]⟩) (.int .i64 0) (.int .i64 0) (.int .i64 0) (.slice none 0 0) (.slice none 0 0) (.int .i64 0) (.int .i64 0) (.int .i64 0) (.int .i64 0) (.int .i64 (mi : Nat)) (.int .i64 3) = wf at *
       refine bodyPost_ret (by simp [results, Tryz.results102, go_sem, f0, f1, f2, f3, f4, f5, f6, f7, f8, f9, f10, f11, f12]; rfl) rfl ?_
       rw [HFE.out]
       exact ⟨rfl, hqf⟩
      case true =>
       have hlt3 := nameQ_lt HSH.out hn
       obtain ⟨tk8, ht8⟩ : ∃ tk8, ts[mi]? = some tk8 := ⟨_, List.getElem?_eq_getElem hmi⟩
       have HFE : Hid (stepsQ E ts (ss.drop (k + 1)) ⟨tk8.text, mp, mx, mi + 1⟩ = fin) := by
        show _ = _
        rw [<- HST2.out]
        rw [show stepQ E ts ⟨mn, mp, mx, mi⟩ Stp.n = .inl ⟨tk8.text, mp, mx, mi + 1⟩ from by show (if nameQ ts mi = true then Sum.inl (Fm.mk (txt ts mi) mp mx (mi + 1)) else _) = _; rw [if_pos hn]; unfold txt; rw [ht8]]
       obtain ⟨k0, k1, k2, k3⟩ := HCE.out mi tk8 ht8 wr HFM.out.q
       have hi' : (mi : Int) < ts.length := by omega
       have hi0 : (0 : Int) <= mi := by omega
       have HF8 := hid (HFM.out.name (nm' := tk8.text) (by omega) (by have := HBE.out; omega))
       have ht5 := HFM.out.t
       obtain ⟨⟨t0, t1, t2, t3, t4, t5, t6, t7, t8⟩, u0, u1, u2, u3, u4, u5, u6, u7, u8⟩ := block9 ht5
       clear ht5 ht8
       go_wp2_with fail
       go_roundw
       case rel => exact ⟨k + 1, ⟨tk8.text, mp, mx, mi + 1⟩, vo, vc, _, hl, p1, m1, d1, p2, m2, d2, jl, by go_num, by go_num, by omega, hlt3, by show mp.length <= _; omega, HFE.out, HF8.out⟩
       case measure => simp [intOf]; omega
     | s t =>
      have hok := HSS.out.2 t (List.mem_of_getElem? hs)
      have e1 : ((toBA t).toList == [101]) = false := by rw [ByteArray.toList_eq]; exact hok.1
      have e2 : ((toBA t).toList == [110]) = false := by rw [ByteArray.toList_eq]; exact hok.2
      have HW1 := hid (HWD.out mi (toBA t) wr HFM.out.q)
      have HG1 := hid (HSG.out mi (toBA t) wr HFM.out.q)
      change Hid (Calls _ _ _ _ fun e w' => e = .returned (.bool (isT ts mi 3 t)) /\ wr = w') at HW1
      change Hid (Calls _ _ _ _ fun e w' => e = .returned (.bool (isT ts mi 4 t)) /\ wr = w') at HG1
      change wr.cell? ⟨gs, k, none⟩ = some (.string (toBA t)) at c0
      have hlt3 : isT ts mi 3 t = true ∨ isT ts mi 4 t = true -> mi + 1 < ts.length := fun h => h.elim (fun h => isT_lt HSH.out h (by decide)) (fun h => isT_lt HSH.out h (by decide))
      have HFE : Hid ((isT ts mi 3 t || isT ts mi 4 t) = true -> stepsQ E ts (ss.drop (k + 1)) ⟨mn, mp, mx, mi + 1⟩ = fin) := fun hh => by
       rw [<- HST2.out]
       rw [show stepQ E ts ⟨mn, mp, mx, mi⟩ (Stp.s t) = .inl ⟨mn, mp, mx, mi + 1⟩ from by show (if (isT ts mi 3 t || isT ts mi 4 t) = true then _ else _) = _; rw [if_pos hh]]
      have HFN : Hid ((isT ts mi 3 t || isT ts mi 4 t) = false -> res = .inr (mi, 3)) := fun hh => by
       rw [<- HRES.out, <- HST2.out]
       rw [show stepQ E ts ⟨mn, mp, mx, mi⟩ (Stp.s t) = .inr (mi, 3) from by show (if (isT ts mi 3 t || isT ts mi 4 t) = true then _ else _) = _; rw [if_neg (by rw [hh]; simp)]]
       rfl
      generalize isT ts mi 3 t = b3 at *
      generalize isT ts mi 4 t = b4 at *
      go_wp2_with fail
      refine HW1.out.mono ?_; rintro e w4 ⟨rfl, rfl⟩
      cases b3
      case true =>
       have hlt4 := hlt3 (.inl rfl)
       go_wp2_with fail
       go_roundw
       case rel => exact ⟨k + 1, ⟨mn, mp, mx, mi + 1⟩, vo, vc, _, hl, p1, m1, d1, p2, m2, d2, jl, by go_num, by go_num, by omega, hlt4, by show mp.length <= _; omega, HFE.out rfl, HFM.out⟩
       case measure => simp [intOf]; omega
      case false =>
       go_wp2_with fail
       refine HG1.out.mono ?_; rintro e w4 ⟨rfl, rfl⟩
       cases b4
       case true =>
        have hlt4 := hlt3 (.inr rfl)
        go_wp2_with fail
        go_roundw
        case rel => exact ⟨k + 1, ⟨mn, mp, mx, mi + 1⟩, vo, vc, _, hl, p1, m1, d1, p2, m2, d2, jl, by go_num, by go_num, by omega, hlt4, by show mp.length <= _; omega, HFE.out rfl, HFM.out⟩
        case measure => simp [intOf]; omega
       case false =>
        have HWR := hid (wrong_any (mi : Int) 3 wr)
        have HFE2 : Hid (res = .inr (mi, 3)) := HFN.out rfl
        go_wp2_with fail
        refine HWR.out.mono ?_; rintro e w8 ⟨rfl, hq8⟩
        have HF8 := hid (HFM.out.stay hq8)
        have hb8 := HF8.out.b
        clear hq8
        obtain ⟨x0, x1, x2, x3, x4, x5, x6, x7, x8, x9, x10, x11, x12⟩ := cells13 hb8
        have y0 := free13 hb8 0
        have y1 := free13 hb8 1
        have y2 := free13 hb8 2
        have y3 := free13 hb8 3
        have y4 := free13 hb8 4
        have y5 := free13 hb8 5
        have y6 := free13 hb8 6
        have y7 := free13 hb8 7
        have y8 := free13 hb8 8
        have y9 := free13 hb8 9
        have y10 := free13 hb8 10
        have y11 := free13 hb8 11
        have y12 := free13 hb8 12
        clear hb8
        go_wp2_with fail
        have hf := put13_fr w8 B (.int .i64 0) (.string ⟨#[]⟩) (.int .i64 0) (.int .i64 0) (.int .i64 0) (.slice none 0 0) (.slice none 0 0) (.int .i64 0) (.int .i64 0) (.int .i64 0) (.int .i64 0) (.int .i64 (mi : Nat)) (.int .i64 3)
        have hqf : Quiet0 w (put13 w8 B (.int .i64 0) (.string ⟨#[]⟩) (.int .i64 0) (.int .i64 0) (.int .i64 0) (.slice none 0 0) (.slice none 0 0) (.int .i64 0) (.int .i64 0) (.int .i64 0) (.int .i64 0) (.int .i64 (mi : Nat)) (.int .i64 3)) := (HF8.out.q).trans' hf (fun k hk e => by have := HBE.out; omega)
        obtain ⟨f0, f1, f2, f3, f4, f5, f6, f7, f8, f9, f10, f11, f12⟩ := cells13 (put13_block (a0 := .int .i64 0) (a1 := .string ⟨#[]⟩) (a2 := .int .i64 0) (a3 := .int .i64 0) (a4 := .int .i64 0) (a5 := .slice none 0 0) (a6 := .slice none 0 0) (a7 := .int .i64 0) (a8 := .int .i64 0) (a9 := .int .i64 0) (a10 := .int .i64 0) (a11 := .int .i64 (mi : Nat)) (a12 := .int .i64 3) HF8.out.b)
        change bodyPost _ _ _ _ _ (put13 w8 B (.int .i64 0) (.string ⟨#[]⟩) (.int .i64 0) (.int .i64 0) (.int .i64 0) (.slice none 0 0) (.slice none 0 0) (.int .i64 0) (.int .i64 0) (.int .i64 0) (.int .i64 0) (.int .i64 (mi : Nat)) (.int .i64 3))
        generalize put13 w8 B (.int .i64 0) (.string ⟨#[]⟩) (.int .i64 0) (.int .i64 0) (.int .i64 0) (.slice none 0 0) (.slice none 0 0) (.int .i64 0) (.int .i64 0) (.int .i64 0) (.int .i64 0) (.int .i64 (mi : Nat)) (.int .i64 3) = wf at *
        refine bodyPost_ret (by simp [results, Tryz.results102, go_sem, f0, f1, f2, f3, f4, f5, f6, f7, f8, f9, f10, f11, f12]; rfl) rfl ?_
        rw [HFE2.out]
        exact ⟨rfl, hqf⟩
    ·have hlt2' : ¬ (k : Int) < ss.length := by omega
     have HFE : Hid (res = .inl ((nd kd mn 0 (joinP (at' ts i) mx), mp), joinP (at' ts i) mx, mi)) := by
      show _ = _
      rw [<- HRES.out, <- HST.out, show ss.drop k = [] from List.drop_eq_nil_of_le (by omega)]
      rfl
     have HJ : Hid (∀ W, Calls Tryz.prog 105 #[.agg #[.int .i64 (t9.fr : Nat), .int .i64 (t9.to : Nat)], .agg #[.int .i64 mx.1, .int .i64 mx.2]] W fun e w' => e = .returned (.agg #[.int .i64 (joinP (at' ts i) mx).1, .int .i64 (joinP (at' ts i) mx).2]) /\ Quiet0 W w') := fun W => by
      have := join_any (t9.fr : Nat) (t9.to : Nat) mx.1 mx.2 W
      rw [show at' ts i = (((t9.fr : Nat) : Int), ((t9.to : Nat) : Int)) from by unfold at'; rw [HT9.out]]
      exact this
     obtain ⟨k0, k1, k2, k3⟩ := HCE.out i t9 HT9.out wr HFM.out.q
     have hi' : (i : Int) < ts.length := by omega
     have hi0 : (0 : Int) <= i := by omega
     have hlb : B + 1 < lb := by have := HFM.out.gt; have := HFM.out.gl; omega
     have hl8 := HFM.out.l
     obtain ⟨q0, q1, q2, q3, q4, q5, q6, q7, q8, q9, q10, q11, q12⟩ := cells13 hl8
     clear hl8
     generalize joinP (at' ts i) mx = jp at *
     have hqc := Quiet0.refl wr
     go_upto_region 30 with fail
     go_region_law (first
      | (go_simp; go_at_call 105; (with_reducible refine Calls.mono (HJ.out _) ?_); rintro e w7 ⟨rfl, hq7⟩; have hqw : Quiet0 wr w7 := Quiet0.trans (by (repeat with_reducible first | exact hqc | exact Quiet0.refl _ | refine jq ?_ | refine jr ?_)) hq7; have HF7 := hid (HFM.out.stay hqw); have ht7 := HF7.out.t; obtain ⟨⟨t0, t1, t2, t3, t4, t5, t6, t7, t8⟩, u0, u1, u2, u3, u4, u5, u6, u7, u8⟩ := block9 ht7; clear hqw hq7 ht7)
      | fail)
     all_goals
      have hf8 : Fr (fun b => b = B + 1) w7 ((w7.setCell ⟨B + 1, 7, none⟩ (.int .i64 jp.1)).setCell ⟨B + 1, 8, none⟩ (.int .i64 jp.2)) := (Fr.setCell (fun b => b = B + 1) w7 ⟨B + 1, 7, none⟩ (.int .i64 jp.1) rfl).trans (Fr.setCell (fun b => b = B + 1) _ ⟨B + 1, 8, none⟩ (.int .i64 jp.2) rfl)
      have HT8 : Hid (((w7.setCell ⟨B + 1, 7, none⟩ (.int .i64 jp.1)).setCell ⟨B + 1, 8, none⟩ (.int .i64 jp.2)).heap[B + 1]? = some (.cells #[.int .i64 kd, .string (toBA mn), .int .i64 0, .int .i64 0, .int .i64 0, .slice none 0 0, .slice vo mp.length vc, .int .i64 jp.1, .int .i64 jp.2] 29 (0, 0))) := set_block (i := 8) (u := .int .i64 jp.2) (set_block (i := 7) (u := .int .i64 jp.1) HF7.out.t)
      have HB8 := hid (blk_fr hf8 (by omega) HF7.out.b)
      have HQ8 := hid (HF7.out.q.trans' hf8 (fun b hb e => by have := HBE.out; omega))
      have HR8 := hid (HF7.out.row.fr hf8 (fun b k e => by have k' : lb < b := k; omega))
      clear hf8 t0 t1 t2 t3 t4 t5 t6 t7 t8 u0 u1 u2 u3 u4 u5 u6 u7 u8
      first
       | (with_reducible change Exit.then _ _ _ _ ((w7.setCell ⟨B + 1, 7, none⟩ (.int .i64 jp.1)).setCell ⟨B + 1, 8, none⟩ (.int .i64 jp.2)); generalize (w7.setCell ⟨B + 1, 7, none⟩ (.int .i64 jp.1)).setCell ⟨B + 1, 8, none⟩ (.int .i64 jp.2) = W8 at *)
       | (with_reducible change Exit.then _ _ _ _ ((w7.setCell ⟨B + 1, 7, none⟩ (.int .i64 jp.1)).setCell ⟨B + 1, 8, none⟩ (.int .i64 jp.2)).drew; replace HT8 := hid (blk_after (Quiet0.drew _) HT8.out); replace HB8 := hid (blk_after (Quiet0.drew _) HB8.out); replace HQ8 := hid (HQ8.out.trans (Quiet0.drew _)); replace HR8 := hid (HR8.out.stay (Quiet0.drew _)); generalize ((w7.setCell ⟨B + 1, 7, none⟩ (.int .i64 jp.1)).setCell ⟨B + 1, 8, none⟩ (.int .i64 jp.2)).drew = W8 at *)
      have ht8 := HT8.out
      have hb8 := HB8.out
      obtain ⟨⟨t0, t1, t2, t3, t4, t5, t6, t7, t8⟩, u0, u1, u2, u3, u4, u5, u6, u7, u8⟩ := block9 ht8
      obtain ⟨x0, x1, x2, x3, x4, x5, x6, x7, x8, x9, x10, x11, x12⟩ := cells13 hb8
      have y0 := free13 hb8 0
      have y1 := free13 hb8 1
      have y2 := free13 hb8 2
      have y3 := free13 hb8 3
      have y4 := free13 hb8 4
      have y5 := free13 hb8 5
      have y6 := free13 hb8 6
      have y7 := free13 hb8 7
      have y8 := free13 hb8 8
      have y9 := free13 hb8 9
      have y10 := free13 hb8 10
      have y11 := free13 hb8 11
      have y12 := free13 hb8 12
      clear ht8 hb8
      have HSP := hid (HR8.out.slc rfl (by unfold maxLen; omega))
      go_wp2_with fail
      have hf := put13_fr W8 B (.int .i64 kd) (.string (toBA mn)) (.int .i64 0) (.int .i64 0) (.int .i64 0) (.slice none 0 0) (.slice vo mp.length vc) (.int .i64 jp.1) (.int .i64 jp.2) (.int .i64 jp.1) (.int .i64 jp.2) (.int .i64 (mi : Nat)) (.int .i64 0)
      have hqf : Quiet0 w (put13 W8 B (.int .i64 kd) (.string (toBA mn)) (.int .i64 0) (.int .i64 0) (.int .i64 0) (.slice none 0 0) (.slice vo mp.length vc) (.int .i64 jp.1) (.int .i64 jp.2) (.int .i64 jp.1) (.int .i64 jp.2) (.int .i64 (mi : Nat)) (.int .i64 0)) := (HQ8.out).trans' hf (fun k hk e => by have := HBE.out; omega)
      obtain ⟨f0, f1, f2, f3, f4, f5, f6, f7, f8, f9, f10, f11, f12⟩ := cells13 (put13_block (a0 := .int .i64 kd) (a1 := .string (toBA mn)) (a2 := .int .i64 0) (a3 := .int .i64 0) (a4 := .int .i64 0) (a5 := .slice none 0 0) (a6 := .slice vo mp.length vc) (a7 := .int .i64 jp.1) (a8 := .int .i64 jp.2) (a9 := .int .i64 jp.1) (a10 := .int .i64 jp.2) (a11 := .int .i64 (mi : Nat)) (a12 := .int .i64 0) HB8.out)
      change bodyPost _ _ _ _ _ (put13 W8 B (.int .i64 kd) (.string (toBA mn)) (.int .i64 0) (.int .i64 0) (.int .i64 0) (.slice none 0 0) (.slice vo mp.length vc) (.int .i64 jp.1) (.int .i64 jp.2) (.int .i64 jp.1) (.int .i64 jp.2) (.int .i64 (mi : Nat)) (.int .i64 0))
      generalize put13 W8 B (.int .i64 kd) (.string (toBA mn)) (.int .i64 0) (.int .i64 0) (.int .i64 0) (.slice none 0 0) (.slice vo mp.length vc) (.int .i64 jp.1) (.int .i64 jp.2) (.int .i64 jp.1) (.int .i64 jp.2) (.int .i64 (mi : Nat)) (.int .i64 0) = wf at *
      refine bodyPost_ret (by simp [results, Tryz.results102, go_sem, f0, f1, f2, f3, f4, f5, f6, f7, f8, f9, f10, f11, f12]; rfl) rfl ?_
      rw [HFE.out]
      exact ⟨none, 0, 0, vo, mp.length, vc, rfl, SlcIn.nil _ _ _, HSP.out.fr hf (fun b _ k => by have k' : lb < b := k; exact ⟨by have := HBE.out; show w.heap.size <= b; omega, by omega⟩), hqf⟩
end Pa
end
section
namespace Pa
open Lx
theorem runL_no {p : UInt8 -> Bool} {c : UInt8} {r : List UInt8} (h : p c = false) : runL p (c :: r) = 0 := by simp [runL, h]
theorem runL_yes {p : UInt8 -> Bool} {c : UInt8} {r : List UInt8} (h : p c = true) : runL p (c :: r) = runL p r + 1 := by simp [runL, h]
theorem runL_take (p : UInt8 -> Bool) : ∀ l : List UInt8, runL p (l.take (runL p l)) = runL p l
 | [] => rfl
 | c :: r => by
  cases h : p c
  ·rw [runL_no h]; rfl
  ·rw [runL_yes h, List.take_succ_cons, runL_yes h, runL_take p r]
theorem runL_all (p : UInt8 -> Bool) : ∀ l : List UInt8, ∀ c ∈ l.take (runL p l), p c = true
 | [], c, h => by simp at h
 | d :: r, c, h => by
  cases hd : p d
  ·rw [runL_no hd] at h; simp at h
  ·rw [runL_yes hd, List.take_succ_cons] at h
   rcases List.mem_cons.1 h with e | e
   ·subst e; exact hd
   ·exact runL_all p r c e
def TokG (t : Tok) : Prop := (t.kind = 1 -> nameB t.text = true) /\ (t.kind = 2 -> t.text.length <= 9 /\ ∀ c ∈ t.text, digitB c = true)
theorem next_good {l : List UInt8} (h : (nextL l).2.2 = 0) (a : Nat) : TokG ⟨(nextL l).1, l.take (nextL l).2.1, a, a + (nextL l).2.1⟩ := by
 cases l with
 | nil => simp [nextL] at h
 | cons c r =>
  unfold nextL at h ⊢
  simp only at h ⊢
  cases h1 : smallB c
  ·simp only [h1, Bool.false_eq_true, if_false] at h ⊢
   cases h2 : digitB c
   ·simp only [h2, Bool.false_eq_true, if_false] at h ⊢
    cases h3 : signB c
    ·simp only [h3, Bool.false_eq_true, if_false] at h ⊢
     split
     ·exact ⟨fun e => by simp at e, fun e => by simp at e⟩
     ·exact ⟨fun e => by simp at e, fun e => by simp at e⟩
    ·simp only [if_true] at h ⊢
     exact ⟨fun e => by simp at e, fun e => by simp at e⟩
   ·simp only [h2, if_true] at h ⊢
    split
    ·exact ⟨fun e => by simp at e, fun e => by simp at e⟩
    ·split
     ·exact ⟨fun e => by simp at e, fun e => by simp at e⟩
     ·next h4 =>
      refine ⟨fun e => by simp at e, fun _ => ⟨?_, runL_all digitB (c :: r)⟩⟩
      have := runL_le digitB (c :: r)
      simp only [List.length_take]
      omega
  ·simp only [h1, if_true] at h ⊢
   split
   ·exact ⟨fun e => by simp at e, fun e => by simp at e⟩
   ·next h2 =>
    split
    ·exact ⟨fun e => by simp at e, fun e => by simp at e⟩
    ·next h3 =>
     refine ⟨fun _ => ?_, fun e => by simp at e⟩
     have hle := runL_le innerB (c :: r)
     have hp : 0 < runL innerB (c :: r) := runL_pos (small_inner h1)
     have hln : ((c :: r).take (runL innerB (c :: r))).length = runL innerB (c :: r) := by rw [List.length_take]; omega
     show nameB ((c :: r).take (runL innerB (c :: r))) = true
     unfold nameB
     rw [runL_take, hln]
     have hg : goesOn smallB ((c :: r).take (runL innerB (c :: r))) = true := by
      obtain ⟨k, hk⟩ : ∃ k, runL innerB (c :: r) = k + 1 := ⟨runL innerB (c :: r) - 1, by omega⟩
      rw [hk, List.take_succ_cons]; exact h1
     have hk : kwB ((c :: r).take (runL innerB (c :: r))) = false := by simpa using h2
     rw [hg, hk]
     simp
     omega
def TokS (s : List UInt8) (t : Tok) : Prop := t.kind ≠ 0 -> t.fr < t.to /\ t.to <= s.length /\ t.text = (s.drop t.fr).take (t.to - t.fr)
theorem wordsF_good (s : List UInt8) : ∀ (f a : Nat) (l : List UInt8) (ts : List Tok), s.drop a = l -> a <= s.length -> wordsF f a l = .inl ts -> ∀ t ∈ ts, TokG t /\ TokS s t
 | 0, a, l, ts, hs, ha, h => by
  unfold wordsF at h
  cases h
  intro t ht
  simp at ht
  subst ht
  exact ⟨⟨fun e => by simp [endTok] at e, fun e => by simp [endTok] at e⟩, fun e => absurd rfl e⟩
 | f + 1, a, l, ts, hs, ha, h => by
  have hend : ∀ n, TokG (endTok n) /\ TokS s (endTok n) := fun n => ⟨⟨fun e => by simp [endTok] at e, fun e => by simp [endTok] at e⟩, fun e => absurd rfl e⟩
  unfold wordsF at h
  simp only at h
  split at h
  ·cases h
   intro t ht
   simp at ht
   subst ht
   exact hend _
  ·split at h
   ·cases h
   ·next hn =>
    have hn0 : (nextL (l.drop (skipL false l))).2.2 = 0 := Decidable.not_not.1 hn
    have hlen := nextL_len hn0
    have hll : l.length = s.length - a := by rw [<- hs, List.length_drop]
    have hdl : (l.drop (skipL false l)).length = l.length - skipL false l := List.length_drop
    have hsk := skipL_le false l
    have hd : s.drop (a + skipL false l) = l.drop (skipL false l) := by rw [<- hs, List.drop_drop]
    split at h
    ·next ts' he =>
     have ih := wordsF_good s f _ _ ts' (by rw [<- List.drop_drop, hd]) (by omega) he
     cases h
     intro t ht
     rcases List.mem_cons.1 ht with e | e
     ·subst e
      refine ⟨next_good hn0 _, fun _ => ⟨?_, ?_, ?_⟩⟩
      ·show a + skipL false l < a + skipL false l + (nextL (l.drop (skipL false l))).2.1; omega
      ·show a + skipL false l + (nextL (l.drop (skipL false l))).2.1 <= s.length; omega
      ·show (l.drop (skipL false l)).take _ = (s.drop (a + skipL false l)).take (a + skipL false l + (nextL (l.drop (skipL false l))).2.1 - (a + skipL false l))
       rw [hd]; congr 1; omega
     ·exact ih t e
    ·cases h
theorem words_good {s : List UInt8} {ts : List Tok} (h : wordsL s = .inl ts) : ∀ t ∈ ts, TokG t /\ TokS s t := wordsF_good s _ 0 s ts rfl (Nat.zero_le _) h
end Pa
end
end Go.Proofs.YtcninopmelmajaaGreatDoor
