/-
  Texts laid together (CnCount, ScDo, ScFree, TeSize): laws and walks, with their conditions.
-/
import Derived.RangeFuncLeaves
import Derived.Test.YtcninopmelmajaaGreatDoorCC8
set_option maxHeartbeats 8000000
set_option maxRecDepth 1000000
namespace Go.Proofs.YtcninopmelmajaaGreatDoor
open Go.Lib (hid)
section
open Go.RowKit Go.Shelf
namespace Cn
def okH (h:Nd) (m:Nat):Prop:=(h.k=4->1<=m)/\(h.k=6->2<=m)/\(h.k=7->2<=m)
def okL:To->Prop
 | .nil=>True
 | .cons h ps r=>okH h ps.length/\okL ps/\okL r
theorem jK:∀ (f:To) (i:Nat) (h:Nd) (qs:To),okL f->f.get i=some (h,qs)->okH h qs.length/\okL qs
 | .nil,i,h,qs,_,e=>by simp [To.get] at e
 | .cons h' ps r,0,h,qs,k,e=>by
  simp [To.get] at e
  obtain ⟨rfl,rfl⟩:=e
  exact ⟨k.1,k.2.1⟩
 | .cons h' ps r,i+1,h,qs,k,e=>jK r i h qs k.2.2 e
def FZ (F:Nat) (own:Int->Int):Prop:=∀ (W:World) (h:Nd) (o1:Option Addr) (l1 c1:Nat) (o2:Option Addr) (l2 c2:Nat),Calls Tryz.prog F #[bC h o1 l1 c1 o2 l2 c2] W fun x w'=>x=.returned (.int .i64 (own h.k))/\ah W w'
abbrev ctr (F:Nat) (rc:Int):Value:=.agg #[.func (.func F) #[] #[],.int .i64 rc]
def Ak (F:Nat) (own:Int->Int) (rc:Int) (h:Nd) (ps:To):Prop:=∀ (W:World) (R T:Nat->Prop) (o1:Option Addr) (l1 c1:Nat) (o2:Option Addr) (l2 c2:Nat) (eo:Option Addr) (en ec:Nat) (e:Env),aY R W o2 l2 ps->iF T W eo en e->en<=ec->en+ps.size<=100000->jT e->okH h ps.length->okL ps ->
 Calls Tryz.prog 49 #[ctr F rc,bC h o1 l1 c1 o2 l2 c2,.slice eo en ec] W fun x w'=>x=.returned (.int .i64 (cnt own rc h ps e))/\ah W w'
theorem Jz (l : List Int) (cs : Array Value) (b n c : Nat) (w : World) (hn : n = l.length) (hz : n <= 1000) (hb : w.heap[b]? = some (.cells cs 3 (0, 0))) (hcs : ∀ (j : Nat) (x : Int), l[j]? = some x -> cs[j]? = some (.int .i64 x)) (hl : ∀ x ∈ l, InT x) :
    Calls Tryz.prog 81 #[.slice (some ⟨b,0,none⟩) n c] w fun x w'=>x=.returned (.int .i64 (jg l))/\ah w w' :=
 (add_any l b n c w hn hz (fun j x hx=>by rw [cell_of_row _ _ _ _ _ (0,0) hb];exact hcs j x hx) hl).mono (fun e w' h=>⟨h.1,by rw [h.2];exact ah.refl _⟩)
theorem yg (x y : Int) (b : Nat) (w : World) (hb : w.heap[b]? = some (.cells #[.int .i64 x, .int .i64 y] 3 (0, 0))) (hx : InT x) (hy : InT y) :
    Calls Tryz.prog 81 #[.slice (some ⟨b,0,none⟩) 2 2] w fun e w'=>e=.returned (.int .i64 (jg [x,y]))/\ah w w' :=
 Jz [x,y] _ b 2 2 w rfl (by decide) hb (fun j u hj=>by
  match j,hj with
  | 0,hj=>cases hj;rfl
  | 1,hj=>cases hj;rfl
  | j+2,hj=>simp at hj) (fun u hu=>by simp at hu;rcases hu with rfl | rfl<;>assumption)
theorem JA (x y z : Int) (b : Nat) (w : World) (hb : w.heap[b]? = some (.cells #[.int .i64 x, .int .i64 y, .int .i64 z] 3 (0, 0))) (hx : InT x) (hy : InT y) (hz : InT z) :
    Calls Tryz.prog 81 #[.slice (some ⟨b,0,none⟩) 3 3] w fun e w'=>e=.returned (.int .i64 (jg [x,y,z]))/\ah w w' :=
 Jz [x,y,z] _ b 3 3 w rfl (by decide) hb (fun j u hj=>by
  match j,hj with
  | 0,hj=>cases hj;rfl
  | 1,hj=>cases hj;rfl
  | 2,hj=>cases hj;rfl
  | j+3,hj=>simp at hj) (fun u hu=>by simp at hu;rcases hu with rfl | rfl | rfl<;>assumption)
def BnP (W:World) (m:Nat) (e:Env) (x:Ending) (w':World):Prop:=∃ o c,x=.returned (.slice o m c)/\iF (fun _=>True) w' o m e/\m<=c/\ah W w'
theorem NY (T : Nat -> Prop) (e e' : Env) (s : ByteArray) (v : Int) (o : Option Addr) (n c : Nat) (w : World) (h : iF T w o n e) (hc : n <= c) (hn : n <= 900000) (he : e' = (s, v) :: e) :
    Calls Tryz.prog 33 #[.slice o n c,.string s,.int .i64 v] w (BnP w (n+1) e'):=by
 subst he
 refine (Jj T e s v o n c w h hc hn).mono ?_
 rintro x w' ⟨o',c',rfl,hb,hcc,hq⟩
 have hl:((s,v)::e).length=n+1:=by simp [h.1]
 rw [hl] at hb hcc ⊢
 exact ⟨o',c',rfl,hb.mono (fun _ _ _=>trivial),hcc,hq⟩
theorem Qp (F:Nat) (own:Int->Int) (rc:Int) (eg:∀ args w,(callFunc F args).run Tryz.prog w=.ok (.enter F args) w) (ho:FZ F own) (hin:∀ k,InT (own k)) (_:InT rc) (h:Nd) (ps:To) (ih:∀ i g qs,ps.get i=some (g,qs)->Ak F own rc g qs) (hk:h.k=1):Ak F own rc h ps:=by
 intro w R T o1 l1 c1 o2 l2 c2 eo en ec e hs hB yj hz NZ hok mF
 have k1:(h.k == 1)=true:=by simp [hk]
 have JH:=hid hB
 have IH:=hid ih
 have Qq:=hid NZ
 obtain ⟨W0,hW0⟩:∃ W0,W0=(w.alloc (.cells #[.func (.func F) #[] #[],.int .i64 rc] 58)).alloc (.cells (cells9 h o1 l1 c1 o2 l2 c2) 29):=⟨_,rfl⟩
 have aK:Hid (ah w W0):=by rw [hW0];exact (ah.alloc _ _).trans (ah.alloc _ _)
 have HB0:Hid (W0.heap[w.heap.size]?=some (.cells #[.func (.func F) #[] #[],.int .i64 rc] 58 (0,0))):=by
  show _=_;rw [hW0,Below.heap_alloc _ _ _ (by simp)];exact heap_alloc_new w _
 have HB1:Hid (W0.heap[w.heap.size+1]?=some (.cells (cells9 h o1 l1 c1 o2 l2 c2) 29 (0,0))):=by
  show _=_;rw [hW0]
  have:=heap_alloc_new (w.alloc (.cells #[.func (.func F) #[] #[],.int .i64 rc] 58)) (.cells (cells9 h o1 l1 c1 o2 l2 c2) 29)
  simpa using this
 have AV:Hid (∀ W,ah W0 W->W.cell? ⟨w.heap.size,0,none⟩=some (.func (.func F) #[] #[])/\W.cell? ⟨w.heap.size,1,none⟩=some (.int .i64 rc)/\bF W (w.heap.size+1) 0 h o1 l1 c1 o2 l2 c2):=fun W hq=>by
  have hb:=ak hq HB0.out
  exact ⟨by rw [cell_of_row _ _ _ _ _ (0,0) hb];rfl,by rw [cell_of_row _ _ _ _ _ (0,0) hb];rfl,aA (ak hq HB1.out)⟩
 have HOW:=hid (ho W0 h o1 l1 c1 o2 l2 c2)
 obtain ⟨n0,hn0⟩:∃ n0,own h.k=n0:=⟨_,rfl⟩
 have XB:=hid hn0
 have XC:Hid (InT n0):=by show InT n0;rw [<-hn0];exact hin _
 rw [hn0] at HOW
 have HK:=hid hk
 clear hk
 clear hs hB yj NZ hok mF hin ih ho hn0
 unfold bC at HOW ⊢
 go_enter Tryz.func49,Tryz.ntmps49
 go_upto_region 1 with fail
 rw [<-hW0]
 clear hW0
 generalize eX:w.heap.size=B at *
 clear eX
 obtain ⟨b0,b1,a0,a1,a2,a3,a4,a5,a6,a7,a8⟩:=AV.out W0 (ah.refl _)
 go_wp2_with fail
 refine HOW.out.mono ?_;rintro x w1 ⟨rfl,hq1⟩
 have bI:=hid hq1
 have xY:Hid (∀ W,ah w1 W->W.cell? ⟨B,0,none⟩=some (.func (.func F) #[] #[])/\W.cell? ⟨B,1,none⟩=some (.int .i64 rc)/\bF W (B+1) 0 h o1 l1 c1 o2 l2 c2):=fun W hq=>AV.out W (bI.out.trans hq)
 have Dy:=hid (JH.out.stay (aK.out.trans hq1))
 have xR:Hid (ah w w1):=aK.out.trans hq1
 clear hq1 b0 b1 a0 a1 a2 a3 a4 a5 a6 a7 a8
 obtain ⟨b0,b1,a0,a1,a2,a3,a4,a5,a6,a7,a8⟩:=xY.out w1 (ah.refl _)
 have HV:Hid (cnt own rc h ps e=jg [n0,brings e h.nm]):=by show tK own rc h _ e=_;unfold tK;rw [if_pos HK.out,XB.out]
 have HBI:Hid (InT (brings e h.nm)):=yP e _ Qq.out
 have Vo:=hid (LJ T e h.nm eo en ec w1 Dy.out (by omega))
 generalize brings e h.nm=bv at *
 go_wp2_with fail
 refine Vo.out.mono ?_;rintro x w2 ⟨rfl,hq2⟩
 have dO:=hid hq2
 clear hq2
 go_wp2_with fail
 refine (yg n0 bv w2.heap.size (w2.alloc (.cells #[.int .i64 n0,.int .i64 bv] 3)) (heap_alloc_new w2 _) XC.out HBI.out).mono ?_;rintro x w3 ⟨rfl,hq3⟩
 have dG:=hid hq3
 clear hq3
 go_wp2_with fail
 go_ret
 exact ⟨by rw [HV.out];rfl,xR.out.trans ((dO.out.trans (ah.alloc _ _)).trans dG.out)⟩
theorem Qr (F:Nat) (own:Int->Int) (rc:Int) (eg:∀ args w,(callFunc F args).run Tryz.prog w=.ok (.enter F args) w) (ho:FZ F own) (hin:∀ k,InT (own k)) (hrc:InT rc) (h:Nd) (ps:To) (ih:∀ i g qs,ps.get i=some (g,qs)->Ak F own rc g qs) (hk:h.k=4):Ak F own rc h ps:=by
 intro w R T o1 l1 c1 o2 l2 c2 eo en ec e hs hB yj hz NZ hok mF
 have k1:(h.k == 1)=false:=by simp [hk]
 have k4:(h.k == 4)=true:=by simp [hk]
 obtain ⟨b9,off,u,qu,kS,kT,d1u,kU,kV,kW,rfl,_,gu,ru,cu,_,tu⟩:=hs.nth (i:=0) (by rw [hs.1];have:=hok.1 hk;omega)
 have hl2:1<=l2:=by rw [hs.1];exact hok.1 hk
 have hl0:(0:Int) < l2:=by omega
 have hl3:0 < l2:=hl2
 have hl4:(l2:Int) > 0:=hl0
 have hqz:=To.bV ps 0 u qu gu
 have JH:=hid hB
 have IH:=hid ih
 have Qq:=hid NZ
 have nX:=hid mF
 have kR:=hid hin
 have J4:=hid hrc
 have QO:=hid yj
 obtain ⟨W0,hW0⟩:∃ W0,W0=(w.alloc (.cells #[.func (.func F) #[] #[],.int .i64 rc] 58)).alloc (.cells (cells9 h o1 l1 c1 (some ⟨b9,off,none⟩) l2 c2) 29):=⟨_,rfl⟩
 have aK:Hid (ah w W0):=by rw [hW0];exact (ah.alloc _ _).trans (ah.alloc _ _)
 have HB0:Hid (W0.heap[w.heap.size]?=some (.cells #[.func (.func F) #[] #[],.int .i64 rc] 58 (0,0))):=by
  show _=_;rw [hW0,Below.heap_alloc _ _ _ (by simp)];exact heap_alloc_new w _
 have HB1:Hid (W0.heap[w.heap.size+1]?=some (.cells (cells9 h o1 l1 c1 (some ⟨b9,off,none⟩) l2 c2) 29 (0,0))):=by
  show _=_;rw [hW0]
  have:=heap_alloc_new (w.alloc (.cells #[.func (.func F) #[] #[],.int .i64 rc] 58)) (.cells (cells9 h o1 l1 c1 (some ⟨b9,off,none⟩) l2 c2) 29)
  simpa using this
 have AV:Hid (∀ W,ah W0 W->W.cell? ⟨w.heap.size,0,none⟩=some (.func (.func F) #[] #[])/\W.cell? ⟨w.heap.size,1,none⟩=some (.int .i64 rc)/\bF W (w.heap.size+1) 0 h o1 l1 c1 (some ⟨b9,off,none⟩) l2 c2):=fun W hq=>by
  have hb:=ak hq HB0.out
  exact ⟨by rw [cell_of_row _ _ _ _ _ (0,0) hb];rfl,by rw [cell_of_row _ _ _ _ _ (0,0) hb];rfl,aA (ak hq HB1.out)⟩
 have HOW:=hid (ho W0 h o1 l1 c1 (some ⟨b9,off,none⟩) l2 c2)
 obtain ⟨n0,hn0⟩:∃ n0,own h.k=n0:=⟨_,rfl⟩
 have XB:=hid hn0
 have XC:Hid (InT n0):=by show InT n0;rw [<-hn0];exact hin _
 rw [hn0] at HOW
 have HK:=hid hk
 clear hk
 clear hs hB yj NZ hok mF hin hrc ih ho hn0
 unfold bC at HOW ⊢
 go_enter Tryz.func49,Tryz.ntmps49
 go_upto_region 1 with fail
 rw [<-hW0]
 clear hW0
 generalize eX:w.heap.size=B at *
 clear eX
 obtain ⟨b0,b1,a0,a1,a2,a3,a4,a5,a6,a7,a8⟩:=AV.out W0 (ah.refl _)
 go_wp2_with fail
 refine HOW.out.mono ?_;rintro x w1 ⟨rfl,hq1⟩
 have bI:=hid hq1
 have xY:Hid (∀ W,ah w1 W->W.cell? ⟨B,0,none⟩=some (.func (.func F) #[] #[])/\W.cell? ⟨B,1,none⟩=some (.int .i64 rc)/\bF W (B+1) 0 h o1 l1 c1 (some ⟨b9,off,none⟩) l2 c2):=fun W hq=>AV.out W (bI.out.trans hq)
 have Dy:=hid (JH.out.stay (aK.out.trans hq1))
 have xR:Hid (ah w w1):=aK.out.trans hq1
 clear hq1 b0 b1 a0 a1 a2 a3 a4 a5 a6 a7 a8
 obtain ⟨b0,b1,a0,a1,a2,a3,a4,a5,a6,a7,a8⟩:=xY.out w1 (ah.refl _)
 obtain ⟨e1,he1⟩:∃ e1,e1=(h.nm,(0:Int))::e:=⟨_,rfl⟩
 have He1:=hid he1
 have Va:Hid (jT e1):=by show jT e1;rw [he1];exact Qq.out.cons in0
 obtain ⟨v1,hv1⟩:∃ v1,cnt own rc u qu e1=v1:=⟨_,rfl⟩
 have Hv1:=hid hv1
 have Ei:Hid (InT v1):=by show InT v1;rw [<-hv1];exact yQ kR.out J4.out u qu Va.out
 have HV:Hid (cnt own rc h ps e=jg [n0,v1]):=by
  show tK own rc h _ e=_
  unfold tK
  rw [if_neg (by rw [HK.out];decide),if_pos HK.out,XB.out,<-hv1,List.getD_eq_getElem?_getD,lZ own rc ps 0 u qu gu,he1];rfl
 clear he1 hv1
 have HEu:Hid (∀ W,ah w1 W->(W.cell? ⟨b9,off,none⟩=some (.int .i64 u.k)/\W.cell? ⟨b9,off+1,none⟩=some (.string u.nm)/\W.cell? ⟨b9,off+2,none⟩=some (.int .i64 u.n)/\W.cell? ⟨b9,off+3,none⟩=some (.int .i64 u.tk)/\W.cell? ⟨b9,off+4,none⟩=some (.int .i64 u.tn)/\W.cell? ⟨b9,off+5,none⟩=some (.slice kS kT d1u)/\W.cell? ⟨b9,off+6,none⟩=some (.slice kU kV kW)/\W.cell? ⟨b9,off+7,none⟩=some (.int .i64 u.fr)/\W.cell? ⟨b9,off+8,none⟩=some (.int .i64 u.en))):=fun W hq=>by
  have k:=(cu.fr xR.out (fun h=>h)).fr hq (fun h=>h)
  rw [Nat.zero_mul,Nat.add_zero] at k
  exact k
 have HTu:=hid (tu.stay xR.out)
 clear cu tu
 have PZ:Hid (∀ W,ah w1 W->W.cell? ⟨B,0,none⟩=some (.func (.func F) #[] #[])/\W.cell? ⟨B,1,none⟩=some (.int .i64 rc)/\(W.cell? ⟨B+1,0,none⟩=some (.int .i64 h.k)/\W.cell? ⟨B+1,1,none⟩=some (.string h.nm)/\W.cell? ⟨B+1,2,none⟩=some (.int .i64 h.n)/\W.cell? ⟨B+1,3,none⟩=some (.int .i64 h.tk)/\W.cell? ⟨B+1,4,none⟩=some (.int .i64 h.tn)/\W.cell? ⟨B+1,5,none⟩=some (.slice o1 l1 c1)/\W.cell? ⟨B+1,6,none⟩=some (.slice (some ⟨b9,off,none⟩) l2 c2)/\W.cell? ⟨B+1,7,none⟩=some (.int .i64 h.fr)/\W.cell? ⟨B+1,8,none⟩=some (.int .i64 h.en))/\(W.cell? ⟨b9,off,none⟩=some (.int .i64 u.k)/\W.cell? ⟨b9,off+1,none⟩=some (.string u.nm)/\W.cell? ⟨b9,off+2,none⟩=some (.int .i64 u.n)/\W.cell? ⟨b9,off+3,none⟩=some (.int .i64 u.tk)/\W.cell? ⟨b9,off+4,none⟩=some (.int .i64 u.tn)/\W.cell? ⟨b9,off+5,none⟩=some (.slice kS kT d1u)/\W.cell? ⟨b9,off+6,none⟩=some (.slice kU kV kW)/\W.cell? ⟨b9,off+7,none⟩=some (.int .i64 u.fr)/\W.cell? ⟨b9,off+8,none⟩=some (.int .i64 u.en))):=fun W hq=>⟨(xY.out W (hq)).1,(xY.out W (hq)).2.1,(xY.out W (hq)).2.2,HEu.out W (hq)⟩
 have HWT:Hid (∀ W,ah w1 W->Calls Tryz.prog 33 #[.slice eo en ec,.string h.nm,.int .i64 0] W (BnP W (en+1) e1)):=fun W hq=>NY T e e1 h.nm 0 eo en ec W (Dy.out.stay (hq)) QO.out (by omega) He1.out
 have QN:Hid (∀ (W:World) (wo:Option Addr) (wc:Nat),iF (fun _=>True) W wo (en+1) e1->en+1<=wc->ah w1 W->Calls Tryz.prog 49 #[ctr F rc,bC u kS kT d1u kU kV kW,.slice wo (en+1) wc] W fun x w'=>x=.returned (.int .i64 v1)/\ah W w'):=fun W wo wc hb hc hq=>by
  have k:=IH.out _ u qu gu W R (fun _=>True) kS kT d1u kU kV kW wo (en+1) wc e1 (HTu.out.stay (hq)) hb hc (by omega) Va.out (jK _ _ _ _ nX.out gu).1 (jK _ _ _ _ nX.out gu).2
  rw [Hv1.out] at k
  exact k
 unfold bC at QN
 clear gu
 go_upto_region 6 with fail
 have hqc:=ah.refl w1
 go_region_held3 (fun W=>W.cell? ⟨B,0,none⟩=some (.func (.func F) #[] #[])/\W.cell? ⟨B,1,none⟩=some (.int .i64 rc)/\(W.cell? ⟨B+1,0,none⟩=some (.int .i64 h.k)/\W.cell? ⟨B+1,1,none⟩=some (.string h.nm)/\W.cell? ⟨B+1,2,none⟩=some (.int .i64 h.n)/\W.cell? ⟨B+1,3,none⟩=some (.int .i64 h.tk)/\W.cell? ⟨B+1,4,none⟩=some (.int .i64 h.tn)/\W.cell? ⟨B+1,5,none⟩=some (.slice o1 l1 c1)/\W.cell? ⟨B+1,6,none⟩=some (.slice (some ⟨b9,off,none⟩) l2 c2)/\W.cell? ⟨B+1,7,none⟩=some (.int .i64 h.fr)/\W.cell? ⟨B+1,8,none⟩=some (.int .i64 h.en))/\(W.cell? ⟨b9,off,none⟩=some (.int .i64 u.k)/\W.cell? ⟨b9,off+1,none⟩=some (.string u.nm)/\W.cell? ⟨b9,off+2,none⟩=some (.int .i64 u.n)/\W.cell? ⟨b9,off+3,none⟩=some (.int .i64 u.tk)/\W.cell? ⟨b9,off+4,none⟩=some (.int .i64 u.tn)/\W.cell? ⟨b9,off+5,none⟩=some (.slice kS kT d1u)/\W.cell? ⟨b9,off+6,none⟩=some (.slice kU kV kW)/\W.cell? ⟨b9,off+7,none⟩=some (.int .i64 u.fr)/\W.cell? ⟨b9,off+8,none⟩=some (.int .i64 u.en)))
  (((refine PZ.out _ ?_);(repeat with_reducible first | exact hqc | exact ah.refl _ | refine jq ?_ | refine jr ?_)))
  (first
   | (go_at_call 33;(with_reducible refine Calls.mono (HWT.out _ ?hq) ?_);(case hq=>(repeat with_reducible first | exact hqc | exact ah.refl _ | refine jq ?_ | refine jr ?_));rintro e wx ⟨wo,wc,rfl,hbn,hcap,jQ⟩;(refine jd (w0:=w1) ?hq2 jQ ?_);(case hq2=>(repeat with_reducible first | exact hqc | exact ah.refl _ | refine jq ?_ | refine jr ?_));intro hqc)
   | ((go_at_call 49;(with_reducible refine Calls.mono (QN.out _ _ _ (hbn.stay ?h1) hcap ?hq) ?_));(case h1=>(repeat with_reducible first | exact ah.refl _ | refine jq ?_ | refine jr ?_));(case hq=>(repeat with_reducible first | exact hqc | exact ah.refl _ | refine jq ?_ | refine jr ?_));rintro x wx ⟨rfl,jQ⟩;(refine jd (w0:=w1) ?hq2 jQ ?_);(case hq2=>(repeat with_reducible first | exact hqc | exact ah.refl _ | refine jq ?_ | refine jr ?_));intro hqc)
   | ((go_at_call 81;(with_reducible refine Calls.mono (yg _ _  _ _ ?hb XC.out Ei.out) ?_));(case hb=>(repeat (first | ((with_reducible refine dM _ _ _ _ ?hbe);(case hbe=>(simp;done))) | with_reducible refine ak (ah.alloc _ _) ?_ | with_reducible refine bT ?_ | with_reducible refine ak jQ ?_ | fail)));rintro x wx ⟨rfl,jQ⟩;(refine jd (w0:=w1) ?hq2 jQ ?_);(case hq2=>(repeat with_reducible first | exact hqc | exact ah.refl _ | refine jq ?_ | refine jr ?_));intro hqc)
   | fail)
 all_goals
  go_wp2_with fail
  go_ret
  exact ⟨by rw [HV.out];rfl,xR.out.trans hqc⟩
theorem Qs (F:Nat) (own:Int->Int) (rc:Int) (eg:∀ args w,(callFunc F args).run Tryz.prog w=.ok (.enter F args) w) (ho:FZ F own) (hin:∀ k,InT (own k)) (hrc:InT rc) (h:Nd) (ps:To) (ih:∀ i g qs,ps.get i=some (g,qs)->Ak F own rc g qs) (hk:h.k=6):Ak F own rc h ps:=by
 intro w R T o1 l1 c1 o2 l2 c2 eo en ec e hs hB yj hz NZ hok mF
 have k1:(h.k == 1)=false:=by simp [hk]
 have k4:(h.k == 4)=false:=by simp [hk]
 have k6:(h.k == 6)=true:=by simp [hk]
 obtain ⟨b9,off,u,qu,kS,kT,d1u,kU,kV,kW,rfl,_,gu,ru,cu,_,tu⟩:=hs.nth (i:=0) (by rw [hs.1];have:=hok.2.1 hk;omega)
 obtain ⟨b9',off',v,qv,Vb,Vd,Ve,Vf,Vg,Vh,e9v,_,gv,rv,cv,_,tv⟩:=hs.nth (i:=1) (by rw [hs.1];have:=hok.2.1 hk;omega)
 injection e9v with e9v;injection e9v with e8v e7v
 subst e8v e7v
 have hl2:2<=l2:=by rw [hs.1];exact hok.2.1 hk
 have hl0:(0:Int) < l2:=by omega
 have hl1:(1:Int) < l2:=by omega
 have hl3:0 < l2:=by omega
 have hl4:1 < l2:=by omega
 have hl5:(l2:Int) > 0:=hl0
 have YZ:(l2:Int) > 1:=hl1
 have hqz:=To.bV ps 0 u qu gu
 have adk:=To.bV ps 1 v qv gv
 have JH:=hid hB
 have IH:=hid ih
 have Qq:=hid NZ
 have nX:=hid mF
 have kR:=hid hin
 have J4:=hid hrc
 have QO:=hid yj
 obtain ⟨W0,hW0⟩:∃ W0,W0=(w.alloc (.cells #[.func (.func F) #[] #[],.int .i64 rc] 58)).alloc (.cells (cells9 h o1 l1 c1 (some ⟨b9,off,none⟩) l2 c2) 29):=⟨_,rfl⟩
 have aK:Hid (ah w W0):=by rw [hW0];exact (ah.alloc _ _).trans (ah.alloc _ _)
 have HB0:Hid (W0.heap[w.heap.size]?=some (.cells #[.func (.func F) #[] #[],.int .i64 rc] 58 (0,0))):=by
  show _=_;rw [hW0,Below.heap_alloc _ _ _ (by simp)];exact heap_alloc_new w _
 have HB1:Hid (W0.heap[w.heap.size+1]?=some (.cells (cells9 h o1 l1 c1 (some ⟨b9,off,none⟩) l2 c2) 29 (0,0))):=by
  show _=_;rw [hW0]
  have:=heap_alloc_new (w.alloc (.cells #[.func (.func F) #[] #[],.int .i64 rc] 58)) (.cells (cells9 h o1 l1 c1 (some ⟨b9,off,none⟩) l2 c2) 29)
  simpa using this
 have AV:Hid (∀ W,ah W0 W->W.cell? ⟨w.heap.size,0,none⟩=some (.func (.func F) #[] #[])/\W.cell? ⟨w.heap.size,1,none⟩=some (.int .i64 rc)/\bF W (w.heap.size+1) 0 h o1 l1 c1 (some ⟨b9,off,none⟩) l2 c2):=fun W hq=>by
  have hb:=ak hq HB0.out
  exact ⟨by rw [cell_of_row _ _ _ _ _ (0,0) hb];rfl,by rw [cell_of_row _ _ _ _ _ (0,0) hb];rfl,aA (ak hq HB1.out)⟩
 have HOW:=hid (ho W0 h o1 l1 c1 (some ⟨b9,off,none⟩) l2 c2)
 obtain ⟨n0,hn0⟩:∃ n0,own h.k=n0:=⟨_,rfl⟩
 have XB:=hid hn0
 have XC:Hid (InT n0):=by show InT n0;rw [<-hn0];exact hin _
 rw [hn0] at HOW
 have HK:=hid hk
 clear hk
 clear hs hB yj NZ hok mF hin hrc ih ho hn0
 unfold bC at HOW ⊢
 go_enter Tryz.func49,Tryz.ntmps49
 go_upto_region 1 with fail
 rw [<-hW0]
 clear hW0
 generalize eX:w.heap.size=B at *
 clear eX
 obtain ⟨b0,b1,a0,a1,a2,a3,a4,a5,a6,a7,a8⟩:=AV.out W0 (ah.refl _)
 go_wp2_with fail
 refine HOW.out.mono ?_;rintro x w1 ⟨rfl,hq1⟩
 have bI:=hid hq1
 have xY:Hid (∀ W,ah w1 W->W.cell? ⟨B,0,none⟩=some (.func (.func F) #[] #[])/\W.cell? ⟨B,1,none⟩=some (.int .i64 rc)/\bF W (B+1) 0 h o1 l1 c1 (some ⟨b9,off,none⟩) l2 c2):=fun W hq=>AV.out W (bI.out.trans hq)
 have Dy:=hid (JH.out.stay (aK.out.trans hq1))
 have xR:Hid (ah w w1):=aK.out.trans hq1
 clear hq1 b0 b1 a0 a1 a2 a3 a4 a5 a6 a7 a8
 obtain ⟨b0,b1,a0,a1,a2,a3,a4,a5,a6,a7,a8⟩:=xY.out w1 (ah.refl _)
 have adl:=Qq
 obtain ⟨v1,hv1⟩:∃ v1,cnt own rc u qu e=v1:=⟨_,rfl⟩
 have Hv1:=hid hv1
 have Ei:Hid (InT v1):=by show InT v1;rw [<-hv1];exact yQ kR.out J4.out u qu adl.out
 obtain ⟨e2,he2⟩:∃ e2,e2=(h.nm,(v1:Int))::e:=⟨_,rfl⟩
 have He2:=hid he2
 have Vj:Hid (jT e2):=by show jT e2;rw [he2];exact Qq.out.cons Ei.out
 obtain ⟨v2,hv2⟩:∃ v2,cnt own rc v qv e2=v2:=⟨_,rfl⟩
 have Hv2:=hid hv2
 have aaf:Hid (InT v2):=by show InT v2;rw [<-hv2];exact yQ kR.out J4.out v qv Vj.out
 have HV:Hid (cnt own rc h ps e=jg [n0,v1,v2]):=by
  show tK own rc h _ e=_
  unfold tK
  rw [if_neg (by rw [HK.out];decide),if_neg (by rw [HK.out];decide),if_pos HK.out,XB.out,List.getD_eq_getElem?_getD,List.getD_eq_getElem?_getD,lZ own rc ps 0 u qu gu,lZ own rc ps 1 v qv gv]
  show jg [n0,cnt own rc u qu e,cnt own rc v qv ((h.nm,cnt own rc u qu e)::e)]=_
  rw [hv1,<-he2,hv2]
 clear hv1 he2 hv2
 have HEu:Hid (∀ W,ah w1 W->(W.cell? ⟨b9,off,none⟩=some (.int .i64 u.k)/\W.cell? ⟨b9,off+1,none⟩=some (.string u.nm)/\W.cell? ⟨b9,off+2,none⟩=some (.int .i64 u.n)/\W.cell? ⟨b9,off+3,none⟩=some (.int .i64 u.tk)/\W.cell? ⟨b9,off+4,none⟩=some (.int .i64 u.tn)/\W.cell? ⟨b9,off+5,none⟩=some (.slice kS kT d1u)/\W.cell? ⟨b9,off+6,none⟩=some (.slice kU kV kW)/\W.cell? ⟨b9,off+7,none⟩=some (.int .i64 u.fr)/\W.cell? ⟨b9,off+8,none⟩=some (.int .i64 u.en))):=fun W hq=>by
  have k:=(cu.fr xR.out (fun h=>h)).fr hq (fun h=>h)
  rw [Nat.zero_mul,Nat.add_zero] at k
  exact k
 have HTu:=hid (tu.stay xR.out)
 clear cu tu
 have HEv:Hid (∀ W,ah w1 W->(W.cell? ⟨b9,off+9,none⟩=some (.int .i64 v.k)/\W.cell? ⟨b9,off+9+1,none⟩=some (.string v.nm)/\W.cell? ⟨b9,off+9+2,none⟩=some (.int .i64 v.n)/\W.cell? ⟨b9,off+9+3,none⟩=some (.int .i64 v.tk)/\W.cell? ⟨b9,off+9+4,none⟩=some (.int .i64 v.tn)/\W.cell? ⟨b9,off+9+5,none⟩=some (.slice Vb Vd Ve)/\W.cell? ⟨b9,off+9+6,none⟩=some (.slice Vf Vg Vh)/\W.cell? ⟨b9,off+9+7,none⟩=some (.int .i64 v.fr)/\W.cell? ⟨b9,off+9+8,none⟩=some (.int .i64 v.en))):=fun W hq=>by
  have k:=(cv.fr xR.out (fun h=>h)).fr hq (fun h=>h)
  rw [Nat.one_mul] at k
  exact k
 have HTv:=hid (tv.stay xR.out)
 clear cv tv
 have PZ:Hid (∀ W,ah w1 W->W.cell? ⟨B,0,none⟩=some (.func (.func F) #[] #[])/\W.cell? ⟨B,1,none⟩=some (.int .i64 rc)/\(W.cell? ⟨B+1,0,none⟩=some (.int .i64 h.k)/\W.cell? ⟨B+1,1,none⟩=some (.string h.nm)/\W.cell? ⟨B+1,2,none⟩=some (.int .i64 h.n)/\W.cell? ⟨B+1,3,none⟩=some (.int .i64 h.tk)/\W.cell? ⟨B+1,4,none⟩=some (.int .i64 h.tn)/\W.cell? ⟨B+1,5,none⟩=some (.slice o1 l1 c1)/\W.cell? ⟨B+1,6,none⟩=some (.slice (some ⟨b9,off,none⟩) l2 c2)/\W.cell? ⟨B+1,7,none⟩=some (.int .i64 h.fr)/\W.cell? ⟨B+1,8,none⟩=some (.int .i64 h.en))/\(W.cell? ⟨b9,off,none⟩=some (.int .i64 u.k)/\W.cell? ⟨b9,off+1,none⟩=some (.string u.nm)/\W.cell? ⟨b9,off+2,none⟩=some (.int .i64 u.n)/\W.cell? ⟨b9,off+3,none⟩=some (.int .i64 u.tk)/\W.cell? ⟨b9,off+4,none⟩=some (.int .i64 u.tn)/\W.cell? ⟨b9,off+5,none⟩=some (.slice kS kT d1u)/\W.cell? ⟨b9,off+6,none⟩=some (.slice kU kV kW)/\W.cell? ⟨b9,off+7,none⟩=some (.int .i64 u.fr)/\W.cell? ⟨b9,off+8,none⟩=some (.int .i64 u.en))):=fun W hq=>⟨(xY.out W (hq)).1,(xY.out W (hq)).2.1,(xY.out W (hq)).2.2,HEu.out W (hq)⟩
 have HKQ:Hid (∀ W,ah w1 W->W.cell? ⟨B,0,none⟩=some (.func (.func F) #[] #[])/\W.cell? ⟨B,1,none⟩=some (.int .i64 rc)/\(W.cell? ⟨B+1,0,none⟩=some (.int .i64 h.k)/\W.cell? ⟨B+1,1,none⟩=some (.string h.nm)/\W.cell? ⟨B+1,2,none⟩=some (.int .i64 h.n)/\W.cell? ⟨B+1,3,none⟩=some (.int .i64 h.tk)/\W.cell? ⟨B+1,4,none⟩=some (.int .i64 h.tn)/\W.cell? ⟨B+1,5,none⟩=some (.slice o1 l1 c1)/\W.cell? ⟨B+1,6,none⟩=some (.slice (some ⟨b9,off,none⟩) l2 c2)/\W.cell? ⟨B+1,7,none⟩=some (.int .i64 h.fr)/\W.cell? ⟨B+1,8,none⟩=some (.int .i64 h.en))/\(W.cell? ⟨b9,off+9,none⟩=some (.int .i64 v.k)/\W.cell? ⟨b9,off+9+1,none⟩=some (.string v.nm)/\W.cell? ⟨b9,off+9+2,none⟩=some (.int .i64 v.n)/\W.cell? ⟨b9,off+9+3,none⟩=some (.int .i64 v.tk)/\W.cell? ⟨b9,off+9+4,none⟩=some (.int .i64 v.tn)/\W.cell? ⟨b9,off+9+5,none⟩=some (.slice Vb Vd Ve)/\W.cell? ⟨b9,off+9+6,none⟩=some (.slice Vf Vg Vh)/\W.cell? ⟨b9,off+9+7,none⟩=some (.int .i64 v.fr)/\W.cell? ⟨b9,off+9+8,none⟩=some (.int .i64 v.en))):=fun W hq=>⟨(xY.out W (hq)).1,(xY.out W (hq)).2.1,(xY.out W (hq)).2.2,HEv.out W (hq)⟩
 have vO:Hid (∀ W,ah w1 W->Calls Tryz.prog 49 #[ctr F rc,bC u kS kT d1u kU kV kW,.slice eo en ec] W fun x w'=>x=.returned (.int .i64 v1)/\ah W w'):=fun W hq=>by
  have k:=IH.out _ u qu gu W R T kS kT d1u kU kV kW eo en ec e (HTu.out.stay hq) (Dy.out.stay hq) QO.out (by omega) Qq.out (jK _ _ _ _ nX.out gu).1 (jK _ _ _ _ nX.out gu).2
  rw [Hv1.out] at k
  exact k
 have HWT:Hid (∀ W,ah w1 W->Calls Tryz.prog 33 #[.slice eo en ec,.string h.nm,.int .i64 v1] W (BnP W (en+1) e2)):=fun W hq=>NY T e e2 h.nm v1 eo en ec W (Dy.out.stay (hq)) QO.out (by omega) He2.out
 have QN:Hid (∀ (W:World) (wo:Option Addr) (wc:Nat),iF (fun _=>True) W wo (en+1) e2->en+1<=wc->ah w1 W->Calls Tryz.prog 49 #[ctr F rc,bC v Vb Vd Ve Vf Vg Vh,.slice wo (en+1) wc] W fun x w'=>x=.returned (.int .i64 v2)/\ah W w'):=fun W wo wc hb hc hq=>by
  have k:=IH.out _ v qv gv W R (fun _=>True) Vb Vd Ve Vf Vg Vh wo (en+1) wc e2 (HTv.out.stay (hq)) hb hc (by omega) Vj.out (jK _ _ _ _ nX.out gv).1 (jK _ _ _ _ nX.out gv).2
  rw [Hv2.out] at k
  exact k
 unfold bC at vO QN
 clear gu gv
 go_upto_region 8 with fail
 go_cut [8] (fun v wx=>v=.int .i64 v1/\ah w1 wx)
 case first =>
  have hqc:=ah.refl w1
  go_region_held3 (fun W=>W.cell? ⟨B,0,none⟩=some (.func (.func F) #[] #[])/\W.cell? ⟨B,1,none⟩=some (.int .i64 rc)/\(W.cell? ⟨B+1,0,none⟩=some (.int .i64 h.k)/\W.cell? ⟨B+1,1,none⟩=some (.string h.nm)/\W.cell? ⟨B+1,2,none⟩=some (.int .i64 h.n)/\W.cell? ⟨B+1,3,none⟩=some (.int .i64 h.tk)/\W.cell? ⟨B+1,4,none⟩=some (.int .i64 h.tn)/\W.cell? ⟨B+1,5,none⟩=some (.slice o1 l1 c1)/\W.cell? ⟨B+1,6,none⟩=some (.slice (some ⟨b9,off,none⟩) l2 c2)/\W.cell? ⟨B+1,7,none⟩=some (.int .i64 h.fr)/\W.cell? ⟨B+1,8,none⟩=some (.int .i64 h.en))/\(W.cell? ⟨b9,off,none⟩=some (.int .i64 u.k)/\W.cell? ⟨b9,off+1,none⟩=some (.string u.nm)/\W.cell? ⟨b9,off+2,none⟩=some (.int .i64 u.n)/\W.cell? ⟨b9,off+3,none⟩=some (.int .i64 u.tk)/\W.cell? ⟨b9,off+4,none⟩=some (.int .i64 u.tn)/\W.cell? ⟨b9,off+5,none⟩=some (.slice kS kT d1u)/\W.cell? ⟨b9,off+6,none⟩=some (.slice kU kV kW)/\W.cell? ⟨b9,off+7,none⟩=some (.int .i64 u.fr)/\W.cell? ⟨b9,off+8,none⟩=some (.int .i64 u.en)))
   (((refine PZ.out _ ?_);(repeat with_reducible first | exact hqc | exact ah.refl _ | refine jq ?_ | refine jr ?_)))
   (first
    | ((go_at_call 49;(with_reducible refine Calls.mono (vO.out _ ?hq) ?_));(case hq=>(repeat with_reducible first | exact hqc | exact ah.refl _ | refine jq ?_ | refine jr ?_));rintro x wx ⟨rfl,jQ⟩;(refine jd (w0:=w1) ?hq2 jQ ?_);(case hq2=>(repeat with_reducible first | exact hqc | exact ah.refl _ | refine jq ?_ | refine jr ?_));intro hqc)
    | fail)
  all_goals
   go_wp2_with fail
   go_meet
   exact ⟨rfl,hqc⟩
 case rest =>
  rename World=>w2
  obtain ⟨rfl,hq12⟩:=hcut
  have L8:=hid hq12
  have aag:Hid (ah w w2):=xR.out.trans hq12
  have aah:=hid (fun W hq=>HWT.out W (L8.out.trans hq))
  have aai:=hid (fun W wo wc h1 h2 hq=>QN.out W wo wc h1 h2 (L8.out.trans hq))
  have Vk:=hid (fun W hq=>HKQ.out W (L8.out.trans hq))
  clear hq12
  clear b0 b1 a0 a1 a2 a3 a4 a5 a6 a7 a8
  obtain ⟨b0,b1,⟨a0,a1,a2,a3,a4,a5,a6,a7,a8⟩,_⟩:=Vk.out w2 (ah.refl _)
  go_upto_region 9 with fail
  have hqc:=ah.refl w2
  go_region_held3 (fun W=>W.cell? ⟨B,0,none⟩=some (.func (.func F) #[] #[])/\W.cell? ⟨B,1,none⟩=some (.int .i64 rc)/\(W.cell? ⟨B+1,0,none⟩=some (.int .i64 h.k)/\W.cell? ⟨B+1,1,none⟩=some (.string h.nm)/\W.cell? ⟨B+1,2,none⟩=some (.int .i64 h.n)/\W.cell? ⟨B+1,3,none⟩=some (.int .i64 h.tk)/\W.cell? ⟨B+1,4,none⟩=some (.int .i64 h.tn)/\W.cell? ⟨B+1,5,none⟩=some (.slice o1 l1 c1)/\W.cell? ⟨B+1,6,none⟩=some (.slice (some ⟨b9,off,none⟩) l2 c2)/\W.cell? ⟨B+1,7,none⟩=some (.int .i64 h.fr)/\W.cell? ⟨B+1,8,none⟩=some (.int .i64 h.en))/\(W.cell? ⟨b9,off+9,none⟩=some (.int .i64 v.k)/\W.cell? ⟨b9,off+9+1,none⟩=some (.string v.nm)/\W.cell? ⟨b9,off+9+2,none⟩=some (.int .i64 v.n)/\W.cell? ⟨b9,off+9+3,none⟩=some (.int .i64 v.tk)/\W.cell? ⟨b9,off+9+4,none⟩=some (.int .i64 v.tn)/\W.cell? ⟨b9,off+9+5,none⟩=some (.slice Vb Vd Ve)/\W.cell? ⟨b9,off+9+6,none⟩=some (.slice Vf Vg Vh)/\W.cell? ⟨b9,off+9+7,none⟩=some (.int .i64 v.fr)/\W.cell? ⟨b9,off+9+8,none⟩=some (.int .i64 v.en)))
   (((refine Vk.out _ ?_);(repeat with_reducible first | exact hqc | exact ah.refl _ | refine jq ?_ | refine jr ?_)))
   (first
    | (go_at_call 33;(with_reducible refine Calls.mono (aah.out _ ?hq) ?_);(case hq=>(repeat with_reducible first | exact hqc | exact ah.refl _ | refine jq ?_ | refine jr ?_));rintro e wx ⟨wo,wc,rfl,hbn,hcap,jQ⟩;(refine jd (w0:=w2) ?hq2 jQ ?_);(case hq2=>(repeat with_reducible first | exact hqc | exact ah.refl _ | refine jq ?_ | refine jr ?_));intro hqc)
    | ((go_at_call 49;(with_reducible refine Calls.mono (aai.out _ _ _ (hbn.stay ?h1) hcap ?hq) ?_));(case h1=>(repeat with_reducible first | exact ah.refl _ | refine jq ?_ | refine jr ?_));(case hq=>(repeat with_reducible first | exact hqc | exact ah.refl _ | refine jq ?_ | refine jr ?_));rintro x wx ⟨rfl,jQ⟩;(refine jd (w0:=w2) ?hq2 jQ ?_);(case hq2=>(repeat with_reducible first | exact hqc | exact ah.refl _ | refine jq ?_ | refine jr ?_));intro hqc)
    | ((go_at_call 81;(with_reducible refine Calls.mono (JA _ _ _  _ _ ?hb XC.out Ei.out aaf.out) ?_));(case hb=>(repeat (first | ((with_reducible refine dM _ _ _ _ ?hbe);(case hbe=>(simp;done))) | with_reducible refine ak (ah.alloc _ _) ?_ | with_reducible refine bT ?_ | with_reducible refine ak jQ ?_ | fail)));rintro x wx ⟨rfl,jQ⟩;(refine jd (w0:=w2) ?hq2 jQ ?_);(case hq2=>(repeat with_reducible first | exact hqc | exact ah.refl _ | refine jq ?_ | refine jr ?_));intro hqc)
    | fail)
  all_goals
   go_wp2_with fail
   go_ret
   exact ⟨by rw [HV.out];rfl,aag.out.trans hqc⟩
theorem Qu (F:Nat) (own:Int->Int) (rc:Int) (eg:∀ args w,(callFunc F args).run Tryz.prog w=.ok (.enter F args) w) (ho:FZ F own) (hin:∀ k,InT (own k)) (hrc:InT rc) (h:Nd) (ps:To) (ih:∀ i g qs,ps.get i=some (g,qs)->Ak F own rc g qs) (hk:h.k=7):Ak F own rc h ps:=by
 intro w R T o1 l1 c1 o2 l2 c2 eo en ec e hs hB yj hz NZ hok mF
 have k1:(h.k == 1)=false:=by simp [hk]
 have k4:(h.k == 4)=false:=by simp [hk]
 have k6:(h.k == 6)=false:=by simp [hk]
 have k7:(h.k == 7)=true:=by simp [hk]
 obtain ⟨b9,off,u,qu,kS,kT,d1u,kU,kV,kW,rfl,_,gu,ru,cu,_,tu⟩:=hs.nth (i:=0) (by rw [hs.1];have:=hok.2.2 hk;omega)
 obtain ⟨b9',off',v,qv,Vb,Vd,Ve,Vf,Vg,Vh,e9v,_,gv,rv,cv,_,tv⟩:=hs.nth (i:=1) (by rw [hs.1];have:=hok.2.2 hk;omega)
 injection e9v with e9v;injection e9v with e8v e7v
 subst e8v e7v
 have hl2:2<=l2:=by rw [hs.1];exact hok.2.2 hk
 have hl0:(0:Int) < l2:=by omega
 have hl1:(1:Int) < l2:=by omega
 have hl3:0 < l2:=by omega
 have hl4:1 < l2:=by omega
 have hl5:(l2:Int) > 0:=hl0
 have YZ:(l2:Int) > 1:=hl1
 have hqz:=To.bV ps 0 u qu gu
 have adk:=To.bV ps 1 v qv gv
 have JH:=hid hB
 have IH:=hid ih
 have Qq:=hid NZ
 have nX:=hid mF
 have kR:=hid hin
 have J4:=hid hrc
 have QO:=hid yj
 obtain ⟨W0,hW0⟩:∃ W0,W0=(w.alloc (.cells #[.func (.func F) #[] #[],.int .i64 rc] 58)).alloc (.cells (cells9 h o1 l1 c1 (some ⟨b9,off,none⟩) l2 c2) 29):=⟨_,rfl⟩
 have aK:Hid (ah w W0):=by rw [hW0];exact (ah.alloc _ _).trans (ah.alloc _ _)
 have HB0:Hid (W0.heap[w.heap.size]?=some (.cells #[.func (.func F) #[] #[],.int .i64 rc] 58 (0,0))):=by
  show _=_;rw [hW0,Below.heap_alloc _ _ _ (by simp)];exact heap_alloc_new w _
 have HB1:Hid (W0.heap[w.heap.size+1]?=some (.cells (cells9 h o1 l1 c1 (some ⟨b9,off,none⟩) l2 c2) 29 (0,0))):=by
  show _=_;rw [hW0]
  have:=heap_alloc_new (w.alloc (.cells #[.func (.func F) #[] #[],.int .i64 rc] 58)) (.cells (cells9 h o1 l1 c1 (some ⟨b9,off,none⟩) l2 c2) 29)
  simpa using this
 have AV:Hid (∀ W,ah W0 W->W.cell? ⟨w.heap.size,0,none⟩=some (.func (.func F) #[] #[])/\W.cell? ⟨w.heap.size,1,none⟩=some (.int .i64 rc)/\bF W (w.heap.size+1) 0 h o1 l1 c1 (some ⟨b9,off,none⟩) l2 c2):=fun W hq=>by
  have hb:=ak hq HB0.out
  exact ⟨by rw [cell_of_row _ _ _ _ _ (0,0) hb];rfl,by rw [cell_of_row _ _ _ _ _ (0,0) hb];rfl,aA (ak hq HB1.out)⟩
 have HOW:=hid (ho W0 h o1 l1 c1 (some ⟨b9,off,none⟩) l2 c2)
 obtain ⟨n0,hn0⟩:∃ n0,own h.k=n0:=⟨_,rfl⟩
 have XB:=hid hn0
 have XC:Hid (InT n0):=by show InT n0;rw [<-hn0];exact hin _
 rw [hn0] at HOW
 have HK:=hid hk
 clear hk
 clear hs hB yj NZ hok mF hin hrc ih ho hn0
 unfold bC at HOW ⊢
 go_enter Tryz.func49,Tryz.ntmps49
 go_upto_region 1 with fail
 rw [<-hW0]
 clear hW0
 generalize eX:w.heap.size=B at *
 clear eX
 obtain ⟨b0,b1,a0,a1,a2,a3,a4,a5,a6,a7,a8⟩:=AV.out W0 (ah.refl _)
 go_wp2_with fail
 refine HOW.out.mono ?_;rintro x w1 ⟨rfl,hq1⟩
 have bI:=hid hq1
 have xY:Hid (∀ W,ah w1 W->W.cell? ⟨B,0,none⟩=some (.func (.func F) #[] #[])/\W.cell? ⟨B,1,none⟩=some (.int .i64 rc)/\bF W (B+1) 0 h o1 l1 c1 (some ⟨b9,off,none⟩) l2 c2):=fun W hq=>AV.out W (bI.out.trans hq)
 have Dy:=hid (JH.out.stay (aK.out.trans hq1))
 have xR:Hid (ah w w1):=aK.out.trans hq1
 clear hq1 b0 b1 a0 a1 a2 a3 a4 a5 a6 a7 a8
 obtain ⟨b0,b1,a0,a1,a2,a3,a4,a5,a6,a7,a8⟩:=xY.out w1 (ah.refl _)
 obtain ⟨e1,he1⟩:∃ e1,e1=(h.nm,(0:Int))::e:=⟨_,rfl⟩
 have He1:=hid he1
 have Va:Hid (jT e1):=by show jT e1;rw [he1];exact Qq.out.cons in0
 obtain ⟨v1,hv1⟩:∃ v1,cnt own rc u qu e1=v1:=⟨_,rfl⟩
 have Hv1:=hid hv1
 have Ei:Hid (InT v1):=by show InT v1;rw [<-hv1];exact yQ kR.out J4.out u qu Va.out
 obtain ⟨kp,hkp⟩:∃ kp,jg [rc,v1]=kp:=⟨_,rfl⟩
 have adn:=hid hkp
 have aco:Hid (InT kp):=by show InT kp;rw [<-hkp];exact pX (by intro x hx;simp at hx;rcases hx with rfl | rfl;exact J4.out;exact Ei.out)
 obtain ⟨e2,he2⟩:∃ e2,e2=(h.nm,(kp:Int))::e:=⟨_,rfl⟩
 have He2:=hid he2
 have Vj:Hid (jT e2):=by show jT e2;rw [he2];exact Qq.out.cons aco.out
 obtain ⟨v2,hv2⟩:∃ v2,cnt own rc v qv e2=v2:=⟨_,rfl⟩
 have Hv2:=hid hv2
 have aaf:Hid (InT v2):=by show InT v2;rw [<-hv2];exact yQ kR.out J4.out v qv Vj.out
 have HV:Hid (cnt own rc h ps e=jg [n0,kp,v2]):=by
  show tK own rc h _ e=_
  unfold tK
  rw [if_neg (by rw [HK.out];decide),if_neg (by rw [HK.out];decide),if_neg (by rw [HK.out];decide),if_pos HK.out,XB.out,List.getD_eq_getElem?_getD,List.getD_eq_getElem?_getD,lZ own rc ps 0 u qu gu,lZ own rc ps 1 v qv gv]
  show jg [n0,jg [rc,cnt own rc u qu ((h.nm,0)::e)],cnt own rc v qv ((h.nm,jg [rc,cnt own rc u qu ((h.nm,0)::e)])::e)]=_
  rw [<-he1,hv1,hkp,<-he2,hv2]
 clear hv1 he2 hv2 he1 hkp
 have HEu:Hid (∀ W,ah w1 W->(W.cell? ⟨b9,off,none⟩=some (.int .i64 u.k)/\W.cell? ⟨b9,off+1,none⟩=some (.string u.nm)/\W.cell? ⟨b9,off+2,none⟩=some (.int .i64 u.n)/\W.cell? ⟨b9,off+3,none⟩=some (.int .i64 u.tk)/\W.cell? ⟨b9,off+4,none⟩=some (.int .i64 u.tn)/\W.cell? ⟨b9,off+5,none⟩=some (.slice kS kT d1u)/\W.cell? ⟨b9,off+6,none⟩=some (.slice kU kV kW)/\W.cell? ⟨b9,off+7,none⟩=some (.int .i64 u.fr)/\W.cell? ⟨b9,off+8,none⟩=some (.int .i64 u.en))):=fun W hq=>by
  have k:=(cu.fr xR.out (fun h=>h)).fr hq (fun h=>h)
  rw [Nat.zero_mul,Nat.add_zero] at k
  exact k
 have HTu:=hid (tu.stay xR.out)
 clear cu tu
 have HEv:Hid (∀ W,ah w1 W->(W.cell? ⟨b9,off+9,none⟩=some (.int .i64 v.k)/\W.cell? ⟨b9,off+9+1,none⟩=some (.string v.nm)/\W.cell? ⟨b9,off+9+2,none⟩=some (.int .i64 v.n)/\W.cell? ⟨b9,off+9+3,none⟩=some (.int .i64 v.tk)/\W.cell? ⟨b9,off+9+4,none⟩=some (.int .i64 v.tn)/\W.cell? ⟨b9,off+9+5,none⟩=some (.slice Vb Vd Ve)/\W.cell? ⟨b9,off+9+6,none⟩=some (.slice Vf Vg Vh)/\W.cell? ⟨b9,off+9+7,none⟩=some (.int .i64 v.fr)/\W.cell? ⟨b9,off+9+8,none⟩=some (.int .i64 v.en))):=fun W hq=>by
  have k:=(cv.fr xR.out (fun h=>h)).fr hq (fun h=>h)
  rw [Nat.one_mul] at k
  exact k
 have HTv:=hid (tv.stay xR.out)
 clear cv tv
 have PZ:Hid (∀ W,ah w1 W->W.cell? ⟨B,0,none⟩=some (.func (.func F) #[] #[])/\W.cell? ⟨B,1,none⟩=some (.int .i64 rc)/\(W.cell? ⟨B+1,0,none⟩=some (.int .i64 h.k)/\W.cell? ⟨B+1,1,none⟩=some (.string h.nm)/\W.cell? ⟨B+1,2,none⟩=some (.int .i64 h.n)/\W.cell? ⟨B+1,3,none⟩=some (.int .i64 h.tk)/\W.cell? ⟨B+1,4,none⟩=some (.int .i64 h.tn)/\W.cell? ⟨B+1,5,none⟩=some (.slice o1 l1 c1)/\W.cell? ⟨B+1,6,none⟩=some (.slice (some ⟨b9,off,none⟩) l2 c2)/\W.cell? ⟨B+1,7,none⟩=some (.int .i64 h.fr)/\W.cell? ⟨B+1,8,none⟩=some (.int .i64 h.en))/\(W.cell? ⟨b9,off,none⟩=some (.int .i64 u.k)/\W.cell? ⟨b9,off+1,none⟩=some (.string u.nm)/\W.cell? ⟨b9,off+2,none⟩=some (.int .i64 u.n)/\W.cell? ⟨b9,off+3,none⟩=some (.int .i64 u.tk)/\W.cell? ⟨b9,off+4,none⟩=some (.int .i64 u.tn)/\W.cell? ⟨b9,off+5,none⟩=some (.slice kS kT d1u)/\W.cell? ⟨b9,off+6,none⟩=some (.slice kU kV kW)/\W.cell? ⟨b9,off+7,none⟩=some (.int .i64 u.fr)/\W.cell? ⟨b9,off+8,none⟩=some (.int .i64 u.en))):=fun W hq=>⟨(xY.out W (hq)).1,(xY.out W (hq)).2.1,(xY.out W (hq)).2.2,HEu.out W (hq)⟩
 have HKQ:Hid (∀ W,ah w1 W->W.cell? ⟨B,0,none⟩=some (.func (.func F) #[] #[])/\W.cell? ⟨B,1,none⟩=some (.int .i64 rc)/\(W.cell? ⟨B+1,0,none⟩=some (.int .i64 h.k)/\W.cell? ⟨B+1,1,none⟩=some (.string h.nm)/\W.cell? ⟨B+1,2,none⟩=some (.int .i64 h.n)/\W.cell? ⟨B+1,3,none⟩=some (.int .i64 h.tk)/\W.cell? ⟨B+1,4,none⟩=some (.int .i64 h.tn)/\W.cell? ⟨B+1,5,none⟩=some (.slice o1 l1 c1)/\W.cell? ⟨B+1,6,none⟩=some (.slice (some ⟨b9,off,none⟩) l2 c2)/\W.cell? ⟨B+1,7,none⟩=some (.int .i64 h.fr)/\W.cell? ⟨B+1,8,none⟩=some (.int .i64 h.en))/\(W.cell? ⟨b9,off+9,none⟩=some (.int .i64 v.k)/\W.cell? ⟨b9,off+9+1,none⟩=some (.string v.nm)/\W.cell? ⟨b9,off+9+2,none⟩=some (.int .i64 v.n)/\W.cell? ⟨b9,off+9+3,none⟩=some (.int .i64 v.tk)/\W.cell? ⟨b9,off+9+4,none⟩=some (.int .i64 v.tn)/\W.cell? ⟨b9,off+9+5,none⟩=some (.slice Vb Vd Ve)/\W.cell? ⟨b9,off+9+6,none⟩=some (.slice Vf Vg Vh)/\W.cell? ⟨b9,off+9+7,none⟩=some (.int .i64 v.fr)/\W.cell? ⟨b9,off+9+8,none⟩=some (.int .i64 v.en))):=fun W hq=>⟨(xY.out W (hq)).1,(xY.out W (hq)).2.1,(xY.out W (hq)).2.2,HEv.out W (hq)⟩
 have HWU:Hid (∀ W,ah w1 W->Calls Tryz.prog 33 #[.slice eo en ec,.string h.nm,.int .i64 0] W (BnP W (en+1) e1)):=fun W hq=>NY T e e1 h.nm 0 eo en ec W (Dy.out.stay (hq)) QO.out (by omega) He1.out
 have vO:Hid (∀ (W:World) (wo:Option Addr) (wc:Nat),iF (fun _=>True) W wo (en+1) e1->en+1<=wc->ah w1 W->Calls Tryz.prog 49 #[ctr F rc,bC u kS kT d1u kU kV kW,.slice wo (en+1) wc] W fun x w'=>x=.returned (.int .i64 v1)/\ah W w'):=fun W wo wc hb hc hq=>by
  have k:=IH.out _ u qu gu W R (fun _=>True) kS kT d1u kU kV kW wo (en+1) wc e1 (HTu.out.stay (hq)) hb hc (by omega) Va.out (jK _ _ _ _ nX.out gu).1 (jK _ _ _ _ nX.out gu).2
  rw [Hv1.out] at k
  exact k
 have HWT:Hid (∀ W,ah w1 W->Calls Tryz.prog 33 #[.slice eo en ec,.string h.nm,.int .i64 kp] W (BnP W (en+1) e2)):=fun W hq=>NY T e e2 h.nm kp eo en ec W (Dy.out.stay (hq)) QO.out (by omega) He2.out
 have QN:Hid (∀ (W:World) (wo:Option Addr) (wc:Nat),iF (fun _=>True) W wo (en+1) e2->en+1<=wc->ah w1 W->Calls Tryz.prog 49 #[ctr F rc,bC v Vb Vd Ve Vf Vg Vh,.slice wo (en+1) wc] W fun x w'=>x=.returned (.int .i64 v2)/\ah W w'):=fun W wo wc hb hc hq=>by
  have k:=IH.out _ v qv gv W R (fun _=>True) Vb Vd Ve Vf Vg Vh wo (en+1) wc e2 (HTv.out.stay (hq)) hb hc (by omega) Vj.out (jK _ _ _ _ nX.out gv).1 (jK _ _ _ _ nX.out gv).2
  rw [Hv2.out] at k
  exact k
 unfold bC at vO QN
 clear gu gv
 go_upto_region 11 with fail
 go_cut [9] (fun v wx=>v=.int .i64 kp/\ah w1 wx)
 case first =>
  have hqc:=ah.refl w1
  go_region_held3 (fun W=>W.cell? ⟨B,0,none⟩=some (.func (.func F) #[] #[])/\W.cell? ⟨B,1,none⟩=some (.int .i64 rc)/\(W.cell? ⟨B+1,0,none⟩=some (.int .i64 h.k)/\W.cell? ⟨B+1,1,none⟩=some (.string h.nm)/\W.cell? ⟨B+1,2,none⟩=some (.int .i64 h.n)/\W.cell? ⟨B+1,3,none⟩=some (.int .i64 h.tk)/\W.cell? ⟨B+1,4,none⟩=some (.int .i64 h.tn)/\W.cell? ⟨B+1,5,none⟩=some (.slice o1 l1 c1)/\W.cell? ⟨B+1,6,none⟩=some (.slice (some ⟨b9,off,none⟩) l2 c2)/\W.cell? ⟨B+1,7,none⟩=some (.int .i64 h.fr)/\W.cell? ⟨B+1,8,none⟩=some (.int .i64 h.en))/\(W.cell? ⟨b9,off,none⟩=some (.int .i64 u.k)/\W.cell? ⟨b9,off+1,none⟩=some (.string u.nm)/\W.cell? ⟨b9,off+2,none⟩=some (.int .i64 u.n)/\W.cell? ⟨b9,off+3,none⟩=some (.int .i64 u.tk)/\W.cell? ⟨b9,off+4,none⟩=some (.int .i64 u.tn)/\W.cell? ⟨b9,off+5,none⟩=some (.slice kS kT d1u)/\W.cell? ⟨b9,off+6,none⟩=some (.slice kU kV kW)/\W.cell? ⟨b9,off+7,none⟩=some (.int .i64 u.fr)/\W.cell? ⟨b9,off+8,none⟩=some (.int .i64 u.en)))
   (((refine PZ.out _ ?_);(repeat with_reducible first | exact hqc | exact ah.refl _ | refine jq ?_ | refine jr ?_)))
   (first
    | (go_at_call 33;(with_reducible refine Calls.mono (HWU.out _ ?hq) ?_);(case hq=>(repeat with_reducible first | exact hqc | exact ah.refl _ | refine jq ?_ | refine jr ?_));rintro e wx ⟨wo,wc,rfl,hbn,hcap,jQ⟩;(refine jd (w0:=w1) ?hq2 jQ ?_);(case hq2=>(repeat with_reducible first | exact hqc | exact ah.refl _ | refine jq ?_ | refine jr ?_));intro hqc)
    | ((go_at_call 49;(with_reducible refine Calls.mono (vO.out _ _ _ (hbn.stay ?h1) hcap ?hq) ?_));(case h1=>(repeat with_reducible first | exact ah.refl _ | refine jq ?_ | refine jr ?_));(case hq=>(repeat with_reducible first | exact hqc | exact ah.refl _ | refine jq ?_ | refine jr ?_));rintro x wx ⟨rfl,jQ⟩;(refine jd (w0:=w1) ?hq2 jQ ?_);(case hq2=>(repeat with_reducible first | exact hqc | exact ah.refl _ | refine jq ?_ | refine jr ?_));intro hqc)
    | ((go_at_call 81;(with_reducible refine Calls.mono (yg _ _  _ _ ?hb J4.out Ei.out) ?_));(case hb=>(repeat (first | ((with_reducible refine dM _ _ _ _ ?hbe);(case hbe=>(simp;done))) | with_reducible refine ak (ah.alloc _ _) ?_ | with_reducible refine bT ?_ | with_reducible refine ak jQ ?_ | fail)));rintro x wx ⟨rfl,jQ⟩;(refine jd (w0:=w1) ?hq2 jQ ?_);(case hq2=>(repeat with_reducible first | exact hqc | exact ah.refl _ | refine jq ?_ | refine jr ?_));intro hqc)
    | fail)
  all_goals
   go_wp2_with fail
   go_meet
   exact ⟨by rw [adn.out],hqc⟩
 case rest =>
  rename World=>w2
  obtain ⟨rfl,hq12⟩:=hcut
  have L8:=hid hq12
  have aag:Hid (ah w w2):=xR.out.trans hq12
  have aah:=hid (fun W hq=>HWT.out W (L8.out.trans hq))
  have aai:=hid (fun W wo wc h1 h2 hq=>QN.out W wo wc h1 h2 (L8.out.trans hq))
  have Vk:=hid (fun W hq=>HKQ.out W (L8.out.trans hq))
  clear hq12
  clear b0 b1 a0 a1 a2 a3 a4 a5 a6 a7 a8
  obtain ⟨b0,b1,⟨a0,a1,a2,a3,a4,a5,a6,a7,a8⟩,_⟩:=Vk.out w2 (ah.refl _)
  go_upto_region 12 with fail
  have hqc:=ah.refl w2
  go_region_held3 (fun W=>W.cell? ⟨B,0,none⟩=some (.func (.func F) #[] #[])/\W.cell? ⟨B,1,none⟩=some (.int .i64 rc)/\(W.cell? ⟨B+1,0,none⟩=some (.int .i64 h.k)/\W.cell? ⟨B+1,1,none⟩=some (.string h.nm)/\W.cell? ⟨B+1,2,none⟩=some (.int .i64 h.n)/\W.cell? ⟨B+1,3,none⟩=some (.int .i64 h.tk)/\W.cell? ⟨B+1,4,none⟩=some (.int .i64 h.tn)/\W.cell? ⟨B+1,5,none⟩=some (.slice o1 l1 c1)/\W.cell? ⟨B+1,6,none⟩=some (.slice (some ⟨b9,off,none⟩) l2 c2)/\W.cell? ⟨B+1,7,none⟩=some (.int .i64 h.fr)/\W.cell? ⟨B+1,8,none⟩=some (.int .i64 h.en))/\(W.cell? ⟨b9,off+9,none⟩=some (.int .i64 v.k)/\W.cell? ⟨b9,off+9+1,none⟩=some (.string v.nm)/\W.cell? ⟨b9,off+9+2,none⟩=some (.int .i64 v.n)/\W.cell? ⟨b9,off+9+3,none⟩=some (.int .i64 v.tk)/\W.cell? ⟨b9,off+9+4,none⟩=some (.int .i64 v.tn)/\W.cell? ⟨b9,off+9+5,none⟩=some (.slice Vb Vd Ve)/\W.cell? ⟨b9,off+9+6,none⟩=some (.slice Vf Vg Vh)/\W.cell? ⟨b9,off+9+7,none⟩=some (.int .i64 v.fr)/\W.cell? ⟨b9,off+9+8,none⟩=some (.int .i64 v.en)))
   (((refine Vk.out _ ?_);(repeat with_reducible first | exact hqc | exact ah.refl _ | refine jq ?_ | refine jr ?_)))
   (first
    | (go_at_call 33;(with_reducible refine Calls.mono (aah.out _ ?hq) ?_);(case hq=>(repeat with_reducible first | exact hqc | exact ah.refl _ | refine jq ?_ | refine jr ?_));rintro e wx ⟨wo,wc,rfl,hbn,hcap,jQ⟩;(refine jd (w0:=w2) ?hq2 jQ ?_);(case hq2=>(repeat with_reducible first | exact hqc | exact ah.refl _ | refine jq ?_ | refine jr ?_));intro hqc)
    | ((go_at_call 49;(with_reducible refine Calls.mono (aai.out _ _ _ (hbn.stay ?h1) hcap ?hq) ?_));(case h1=>(repeat with_reducible first | exact ah.refl _ | refine jq ?_ | refine jr ?_));(case hq=>(repeat with_reducible first | exact hqc | exact ah.refl _ | refine jq ?_ | refine jr ?_));rintro x wx ⟨rfl,jQ⟩;(refine jd (w0:=w2) ?hq2 jQ ?_);(case hq2=>(repeat with_reducible first | exact hqc | exact ah.refl _ | refine jq ?_ | refine jr ?_));intro hqc)
    | ((go_at_call 81;(with_reducible refine Calls.mono (JA _ _ _  _ _ ?hb XC.out aco.out aaf.out) ?_));(case hb=>(repeat (first | ((with_reducible refine dM _ _ _ _ ?hbe);(case hbe=>(simp;done))) | with_reducible refine ak (ah.alloc _ _) ?_ | with_reducible refine bT ?_ | with_reducible refine ak jQ ?_ | fail)));rintro x wx ⟨rfl,jQ⟩;(refine jd (w0:=w2) ?hq2 jQ ?_);(case hq2=>(repeat with_reducible first | exact hqc | exact ah.refl _ | refine jq ?_ | refine jr ?_));intro hqc)
    | fail)
  all_goals
   go_wp2_with fail
   go_ret
   exact ⟨by rw [HV.out];rfl,aag.out.trans hqc⟩
theorem L9 (F:Nat) (own:Int->Int) (rc:Int) (eg:∀ args w,(callFunc F args).run Tryz.prog w=.ok (.enter F args) w) (ho:FZ F own) (hin:∀ k,InT (own k)) (hrc:InT rc) (h:Nd) (ps:To) (ih:∀ i g qs,ps.get i=some (g,qs)->Ak F own rc g qs) (hk:¬ (h.k=1∨h.k=4∨h.k=6∨h.k=7)):Ak F own rc h ps:=by
 intro w R T o1 l1 c1 o2 l2 c2 eo en ec e hs hB yj hz NZ hok mF
 have k1:(h.k == 1)=false:=by simp;omega
 have k4:(h.k == 4)=false:=by simp;omega
 have k6:(h.k == 6)=false:=by simp;omega
 have k7:(h.k == 7)=false:=by simp;omega
 have HS:=hid hs
 have JH:=hid hB
 have IH:=hid ih
 have Qq:=hid NZ
 have nX:=hid mF
 have kR:=hid hin
 have J4:=hid hrc
 have QO:=hid yj
 have HL:=hid hs.1
 obtain ⟨W0,hW0⟩:∃ W0,W0=(w.alloc (.cells #[.func (.func F) #[] #[],.int .i64 rc] 58)).alloc (.cells (cells9 h o1 l1 c1 o2 l2 c2) 29):=⟨_,rfl⟩
 have aK:Hid (ah w W0):=by rw [hW0];exact (ah.alloc _ _).trans (ah.alloc _ _)
 have HB0:Hid (W0.heap[w.heap.size]?=some (.cells #[.func (.func F) #[] #[],.int .i64 rc] 58 (0,0))):=by
  show _=_;rw [hW0,Below.heap_alloc _ _ _ (by simp)];exact heap_alloc_new w _
 have HB1:Hid (W0.heap[w.heap.size+1]?=some (.cells (cells9 h o1 l1 c1 o2 l2 c2) 29 (0,0))):=by
  show _=_;rw [hW0]
  have:=heap_alloc_new (w.alloc (.cells #[.func (.func F) #[] #[],.int .i64 rc] 58)) (.cells (cells9 h o1 l1 c1 o2 l2 c2) 29)
  simpa using this
 have AV:Hid (∀ W,ah W0 W->W.cell? ⟨w.heap.size,0,none⟩=some (.func (.func F) #[] #[])/\W.cell? ⟨w.heap.size,1,none⟩=some (.int .i64 rc)/\bF W (w.heap.size+1) 0 h o1 l1 c1 o2 l2 c2):=fun W hq=>by
  have hb:=ak hq HB0.out
  exact ⟨by rw [cell_of_row _ _ _ _ _ (0,0) hb];rfl,by rw [cell_of_row _ _ _ _ _ (0,0) hb];rfl,aA (ak hq HB1.out)⟩
 have HOW:=hid (ho W0 h o1 l1 c1 o2 l2 c2)
 obtain ⟨n0,hn0⟩:∃ n0,own h.k=n0:=⟨_,rfl⟩
 have XB:=hid hn0
 have XC:Hid (InT n0):=by show InT n0;rw [<-hn0];exact hin _
 rw [hn0] at HOW
 have HK:=hid hk
 clear hk
 clear hs hB yj NZ hok mF hin hrc ih ho hn0
 unfold bC at HOW ⊢
 go_enter Tryz.func49,Tryz.ntmps49
 go_upto_region 1 with fail
 rw [<-hW0]
 clear hW0
 generalize eX:w.heap.size=B at *
 clear eX
 obtain ⟨b0,b1,a0,a1,a2,a3,a4,a5,a6,a7,a8⟩:=AV.out W0 (ah.refl _)
 go_wp2_with fail
 refine HOW.out.mono ?_;rintro x w1 ⟨rfl,hq1⟩
 have bI:=hid hq1
 have xY:Hid (∀ W,ah w1 W->W.cell? ⟨B,0,none⟩=some (.func (.func F) #[] #[])/\W.cell? ⟨B,1,none⟩=some (.int .i64 rc)/\bF W (B+1) 0 h o1 l1 c1 o2 l2 c2):=fun W hq=>AV.out W (bI.out.trans hq)
 have Dy:=hid (JH.out.stay (aK.out.trans hq1))
 have nH:=hid (HS.out.stay (aK.out.trans hq1))
 have xR:Hid (ah w w1):=aK.out.trans hq1
 clear hq1 b0 b1 a0 a1 a2 a3 a4 a5 a6 a7 a8
 obtain ⟨b0,b1,a0,a1,a2,a3,a4,a5,a6,a7,a8⟩:=xY.out w1 (ah.refl _)
 have hll:=To.length_le ps
 rw [<-HL.out] at hll
 obtain ⟨fin,hfin⟩:∃ fin,(pW own rc ps).foldl (fun n v=>jg [n,v e]) n0=fin:=⟨_,rfl⟩
 have bJ:=hid hfin
 have HV:Hid (cnt own rc h ps e=fin):=by
  show tK own rc h _ e=_
  unfold tK
  have hk:=HK.out
  rw [if_neg (by omega),if_neg (by omega),if_neg (by omega),if_neg (by omega),XB.out,hfin]
 clear hfin
 go_wp2_with fail
 go_loopw [7,100] (fun v t wr=>∃ (i:Nat) (n:Int),t=.int .i64 i/\v=.int .i64 n/\i<=l2/\InT n/\((pW own rc ps).drop i).foldl (fun n v=>jg [n,v e]) n=fin/\ah w1 wr) (fun _ t _=>l2 - (intOf t).toNat)
 case atStart=>exact ⟨0,n0,rfl,rfl,Nat.zero_le _,XC.out,bJ.out,ah.refl _⟩
 case round =>
  obtain ⟨i,n,rfl,rfl,hi,hni,hf,hq⟩:=hrel
  have ED:=hid hni
  have HF:=hid hf
  have HQ:=hid hq
  clear hni hf hq b0 b1 a0 a1 a2 a3 a4 a5 a6 a7 a8
  by_cases hlt:i < l2
  ·have hlt':(i:Int) < l2:=by omega
   obtain ⟨b9,off,u,qu,kS,kT,d1u,kU,kV,kW,rfl,_,gu,ru,cu,_,tu⟩:=(nH.out.stay HQ.out).nth hlt
   obtain ⟨v1,hv1⟩:∃ v1,cnt own rc u qu e=v1:=⟨_,rfl⟩
   have Ei:Hid (InT v1):=by show InT v1;rw [<-hv1];exact yQ kR.out J4.out u qu Qq.out
   have hqz:=To.bV ps i u qu gu
   have HD:Hid (((pW own rc ps).drop (i+1)).foldl (fun n v=>jg [n,v e]) (jg [n,v1])=fin):=by
    show _=_
    have hg:=lZ own rc ps i u qu gu
    obtain ⟨hk,hx⟩:=List.getElem?_eq_some_iff.1 hg
    rw [<-HF.out,List.drop_eq_getElem_cons hk,hx,<-hv1];rfl
   obtain ⟨W3,hW3⟩:∃ W3,W3=wr.alloc (.cells (cells9 u kS kT d1u kU kV kW) 29):=⟨_,rfl⟩
   have hq3:ah wr W3:=by rw [hW3];exact ah.alloc _ _
   have HU3:Hid (∀ W,ah W3 W->bF W wr.heap.size 0 u kS kT d1u kU kV kW):=by
    intro W hq;rw [hW3] at hq;exact (ig wr u kS kT d1u kU kV kW _).fr hq (fun h=>h)
   have vO:=hid (IH.out _ u qu gu W3 R T kS kT d1u kU kV kW eo en ec e (tu.stay hq3) (Dy.out.stay (HQ.out.trans hq3)) QO.out (by omega) Qq.out (jK _ _ _ _ nX.out gu).1 (jK _ _ _ _ nX.out gu).2)
   rw [hv1] at vO
   have dG:=hid (HQ.out.trans hq3)
   obtain ⟨b0,b1,_⟩:=xY.out wr HQ.out
   obtain ⟨q0,q1,q2,q3,q4,q5,q6,q7,q8⟩:=cu
   unfold bC at vO
   clear hv1 gu tu hq3
   go_upto_region 16 with fail
   change Code.wp _ _ _ _ (wr.alloc (.cells (cells9 u kS kT d1u kU kV kW) 29))
   rw [<-hW3]
   clear hW3 b0 b1 q0 q1 q2 q3 q4 q5 q6 q7 q8
   obtain ⟨b0,b1,_⟩:=xY.out W3 dG.out
   obtain ⟨z0,z1,z2,z3,z4,z5,z6,z7,z8⟩:=HU3.out W3 (ah.refl _)
   generalize wr.heap.size=pb at *
   go_wp2_with fail
   refine vO.out.mono ?_;rintro x w4 ⟨rfl,hq4⟩
   have gY:=hid (dG.out.trans hq4)
   clear hq4
   go_wp2_with fail
   refine (yg n v1 w4.heap.size (w4.alloc (.cells #[.int .i64 n,.int .i64 v1] 3)) (heap_alloc_new w4 _) ED.out Ei.out).mono ?_;rintro x w5 ⟨rfl,hq5⟩
   have qM:=hid ((gY.out.trans (ah.alloc _ _)).trans hq5)
   have Xi:Hid (InT (jg [n,v1])):=pX (by intro x hx;simp at hx;rcases hx with rfl | rfl;exact ED.out;exact Ei.out)
   clear hq5
   go_wp2_with fail
   go_roundw
   case rel=>exact ⟨i+1,jg [n,v1],by go_num,rfl,by omega,Xi.out,HD.out,qM.out⟩
   case measure=>simp [intOf];omega
  ·have hlt':¬ (i:Int) < l2:=by omega
   have HE:Hid (fin=n):=by
    show _=_
    rw [<-HF.out,List.drop_eq_nil_of_le (by rw [xk];have:=HL.out;omega)];rfl
   go_wp2_with fail
   go_ret
   exact ⟨by rw [HV.out,HE.out];rfl,xR.out.trans HQ.out⟩
theorem count_any (F:Nat) (own:Int->Int) (rc:Int) (eg:∀ args w,(callFunc F args).run Tryz.prog w=.ok (.enter F args) w) (ho:FZ F own) (hin:∀ k,InT (own k)) (hrc:InT rc) (h:Nd) (ps:To):Ak F own rc h ps:=by
 refine To.qE (T:=Ak F own rc) ?_ h ps
 intro h ps ih
 by_cases h1:h.k=1
 ·exact Qp F own rc eg ho hin hrc h ps ih h1
 ·by_cases h4:h.k=4
  ·exact Qr F own rc eg ho hin hrc h ps ih h4
  ·by_cases h6:h.k=6
   ·exact Qs F own rc eg ho hin hrc h ps ih h6
   ·by_cases h7:h.k=7
    ·exact Qu F own rc eg ho hin hrc h ps ih h7
    ·exact L9 F own rc eg ho hin hrc h ps ih (by omega)
end Cn
end
section
open Go.RowKit Go.Shelf
namespace Sc
def UJ (L0:Nat) (_:Nat) (_:Unit) (D:Nat->Prop) (W:World):Prop:=L0<=W.heap.size/\∀ k,¬ D k
theorem Og (R:Nat->Prop) (L0:Nat):DoW 96 #[] R L0 (fun (s:Unit) _ _=>s) Oc (UJ L0) where
 own:=fun b s D A h k hk=>absurd hk (h.2 k)
 big:=fun b s D A h=>h.1
 weak:=fun b b' s D A h _=>h
 stay:=fun b s D A B h hf=>⟨Nat.le_trans h.1 hf.size,h.2⟩
 call:=by
  rintro b s D A T e h o1 l1 c1 o2 l2 c2 no n c hJ hN hn hs hk
  obtain ⟨W0,hW0⟩:∃ W0,W0=(A.alloc (.cells (cells9 h o1 l1 c1 o2 l2 c2) 29)).alloc (.cells zero9 29):=⟨_,rfl⟩
  have aK:Hid (ah A W0):=by rw [hW0];exact (ah.alloc _ _).trans (ah.alloc _ _)
  have hz0:A.heap.size+2=W0.heap.size:=by rw [hW0];simp
  have HZ0:=hid hz0
  have HJ:=hid hJ
  have HB0:Hid (W0.heap[A.heap.size]?=some (.cells (cells9 h o1 l1 c1 o2 l2 c2) 29 (0,0))):=by
   show _=_;rw [hW0,Below.heap_alloc _ _ _ (by simp)];exact heap_alloc_new A _
  have HB1:Hid (W0.heap[A.heap.size+1]?=some (.cells zero9 29 (0,0))):=by
   show _=_;rw [hW0]
   have:=heap_alloc_new (A.alloc (.cells (cells9 h o1 l1 c1 o2 l2 c2) 29)) (.cells zero9 29)
   simpa using this
  have HI:=hid (Fe T e h.nm no n c W0 (hN.stay aK.out) (by omega))
  clear hN hs hk hz0 hJ
  unfold bC
  by_cases hx:0<=ix e h.nm
  ·have HO:Hid (Oc h e={ h with n:=ix e h.nm }):=by show _=_;unfold Oc;rw [if_pos hx]
   have hx':ix e h.nm≥0:=hx
   generalize ix e h.nm=r at *
   go_enter Tryz.func96,Tryz.ntmps96
   go_upto_region 1 with fail
   rw [<-hW0]
   clear hW0
   generalize hB:A.heap.size=B at *
   have bM:=hid hB
   clear hB
   obtain ⟨⟨x0,x1,x2,x3,x4,x5,x6,x7,x8⟩,y0,y1,y2,y3,y4,y5,y6,y7,y8⟩:=aT HB0.out
   obtain ⟨⟨z0,z1,z2,z3,z4,z5,z6,z7,z8⟩,t0,t1,t2,t3,t4,t5,t6,t7,t8⟩:=aT HB1.out
   go_wp2_with fail
   refine HI.out.mono ?_;rintro x w2 ⟨rfl,rfl⟩
   go_wp2_with fail
   have nP:=iW (W0.setCell ⟨B,2,none⟩ (.int .i64 r)) (B+1) (.int .i64 h.k) (.string h.nm) (.int .i64 r) (.int .i64 h.tk) (.int .i64 h.tn) (.slice o1 l1 c1) (.slice o2 l2 c2) (.int .i64 h.fr) (.int .i64 h.en)
   have hbf:=dH (a0:=.int .i64 h.k) (a1:=.string h.nm) (a2:=.int .i64 r) (a3:=.int .i64 h.tk) (a4:=.int .i64 h.tn) (a5:=.slice o1 l1 c1) (a6:=.slice o2 l2 c2) (a7:=.int .i64 h.fr) (a8:=.int .i64 h.en) (ay (Fr.setCell (fun k=>k=B) W0 ⟨B,2,none⟩ (.int .i64 r) rfl) (by omega) HB1.out)
   change bodyPost _ _ _ _ _ (gq (W0.setCell ⟨B,2,none⟩ (.int .i64 r)) (B+1) (.int .i64 h.k) (.string h.nm) (.int .i64 r) (.int .i64 h.tk) (.int .i64 h.tn) (.slice o1 l1 c1) (.slice o2 l2 c2) (.int .i64 h.fr) (.int .i64 h.en))
   clear x0 x1 x2 x3 x4 x5 x6 x7 x8 y0 y1 y2 y3 y4 y5 y6 y7 y8 z0 z1 z2 z3 z4 z5 z6 z7 z8 t0 t1 t2 t3 t4 t5 t6 t7 t8
   have hfw:Fr (fun k=>k=B∨k=B+1) W0 (W0.setCell ⟨B,2,none⟩ (.int .i64 r)):=(Fr.setCell _ W0 ⟨B,2,none⟩ (.int .i64 r) (.inl rfl))
   generalize gq (W0.setCell ⟨B,2,none⟩ (.int .i64 r)) (B+1) (.int .i64 h.k) (.string h.nm) (.int .i64 r) (.int .i64 h.tk) (.int .i64 h.tn) (.slice o1 l1 c1) (.slice o2 l2 c2) (.int .i64 h.fr) (.int .i64 h.en)=wf at *
   obtain ⟨⟨x0,x1,x2,x3,x4,x5,x6,x7,x8⟩,_⟩:=aT hbf
   have bJ:Hid (DoQ (fun (s:Unit) _ _=>s) Oc (UJ L0) b s D e h o1 l1 c1 o2 l2 c2 A (.returned (.agg #[.int .i64 h.k,.string h.nm,.int .i64 r,.int .i64 h.tk,.int .i64 h.tn,.slice o1 l1 c1,.slice o2 l2 c2,.int .i64 h.fr,.int .i64 h.en])) wf):=by
    have hz2:=HZ0.out
    have hB:=bM.out
    have hfs:=nP.size
    have hfz:=hfw.size
    refine ⟨by rw [HO.out];rfl,D,⟨by have:=HJ.out.1;omega,HJ.out.2⟩,((aK.out.fr).trans' hfw (fun k hk h=>by omega)).trans' nP (fun k hk h=>by omega),fun k hk=>.inl hk⟩
   clear nP hbf
   refine bodyPost_ret (by simp [results,Tryz.results96,go_sem,x0,x1,x2,x3,x4,x5,x6,x7,x8];rfl) rfl ?_
   exact bJ.out
  ·have HO:Hid (Oc h e=h):=by show _=_;unfold Oc;rw [if_neg hx]
   have hx':¬ ix e h.nm≥0:=hx
   generalize ix e h.nm=r at *
   go_enter Tryz.func96,Tryz.ntmps96
   go_upto_region 1 with fail
   rw [<-hW0]
   clear hW0
   generalize hB:A.heap.size=B at *
   have bM:=hid hB
   clear hB
   obtain ⟨⟨x0,x1,x2,x3,x4,x5,x6,x7,x8⟩,y0,y1,y2,y3,y4,y5,y6,y7,y8⟩:=aT HB0.out
   obtain ⟨⟨z0,z1,z2,z3,z4,z5,z6,z7,z8⟩,t0,t1,t2,t3,t4,t5,t6,t7,t8⟩:=aT HB1.out
   go_wp2_with fail
   refine HI.out.mono ?_;rintro x w2 ⟨rfl,rfl⟩
   go_wp2_with fail
   have nP:=iW W0 (B+1) (.int .i64 h.k) (.string h.nm) (.int .i64 h.n) (.int .i64 h.tk) (.int .i64 h.tn) (.slice o1 l1 c1) (.slice o2 l2 c2) (.int .i64 h.fr) (.int .i64 h.en)
   have hbf:=dH (a0:=.int .i64 h.k) (a1:=.string h.nm) (a2:=.int .i64 h.n) (a3:=.int .i64 h.tk) (a4:=.int .i64 h.tn) (a5:=.slice o1 l1 c1) (a6:=.slice o2 l2 c2) (a7:=.int .i64 h.fr) (a8:=.int .i64 h.en) HB1.out
   change bodyPost _ _ _ _ _ (gq W0 (B+1) (.int .i64 h.k) (.string h.nm) (.int .i64 h.n) (.int .i64 h.tk) (.int .i64 h.tn) (.slice o1 l1 c1) (.slice o2 l2 c2) (.int .i64 h.fr) (.int .i64 h.en))
   clear x0 x1 x2 x3 x4 x5 x6 x7 x8 y0 y1 y2 y3 y4 y5 y6 y7 y8 z0 z1 z2 z3 z4 z5 z6 z7 z8 t0 t1 t2 t3 t4 t5 t6 t7 t8
   have hfw:Fr (fun k=>k=B∨k=B+1) W0 W0:=Fr.refl _ _
   generalize gq W0 (B+1) (.int .i64 h.k) (.string h.nm) (.int .i64 h.n) (.int .i64 h.tk) (.int .i64 h.tn) (.slice o1 l1 c1) (.slice o2 l2 c2) (.int .i64 h.fr) (.int .i64 h.en)=wf at *
   obtain ⟨⟨x0,x1,x2,x3,x4,x5,x6,x7,x8⟩,_⟩:=aT hbf
   have bJ:Hid (DoQ (fun (s:Unit) _ _=>s) Oc (UJ L0) b s D e h o1 l1 c1 o2 l2 c2 A (.returned (.agg #[.int .i64 h.k,.string h.nm,.int .i64 h.n,.int .i64 h.tk,.int .i64 h.tn,.slice o1 l1 c1,.slice o2 l2 c2,.int .i64 h.fr,.int .i64 h.en])) wf):=by
    have hz2:=HZ0.out
    have hB:=bM.out
    have hfs:=nP.size
    have hfz:=hfw.size
    refine ⟨by rw [HO.out];rfl,D,⟨by have:=HJ.out.1;omega,HJ.out.2⟩,((aK.out.fr).trans' hfw (fun k hk h=>by omega)).trans' nP (fun k hk h=>by omega),fun k hk=>.inl hk⟩
   clear nP hbf
   refine bodyPost_ret (by simp [results,Tryz.results96,go_sem,x0,x1,x2,x3,x4,x5,x6,x7,x8];rfl) rfl ?_
   exact bJ.out
end Sc
end
section
open Go.RowKit Go.Shelf
namespace Sc
theorem XD:∀ args w,(callFunc 93 args).run Tryz.prog w=.ok (.enter 93 args) w:=enters_of Tryz.func93 (by kernel_rfl) rfl
theorem Yo:∀ args w,(callFunc 96 args).run Tryz.prog w=.ok (.enter 96 args) w:=enters_of Tryz.func96 (by kernel_rfl) rfl
theorem QY (h : Nd) (ps : To) (w : World) (R : Nat -> Prop) (o1 : Option Addr) (l1 c1 : Nat) (o2 : Option Addr) (l2 c2 : Nat) (hs1 : aC R w o1 l1 h.tp) (hs : aY R w o2 l2 ps) (hz : ps.size <= 100000) (hv : vg h ps) (hav : AP ps) :
    Calls Tryz.prog 63 #[bC h o1 l1 c1 o2 l2 c2] w (Eo w (eG [] h ps)):=by
 obtain ⟨W1,hW1⟩:∃ W1,W1=(w.alloc (.cells (cells9 h o1 l1 c1 o2 l2 c2) 29)).alloc (.cells #[.slice none 0 0] 25):=⟨_,rfl⟩
 have bI:Hid (ah w W1):=by rw [hW1];exact (ah.alloc _ _).trans (ah.alloc _ _)
 have hb0:W1.heap[w.heap.size]?=some (.cells (cells9 h o1 l1 c1 o2 l2 c2) 29 (0,0)):=by
  rw [hW1,Below.heap_alloc _ _ _ (by simp)];exact heap_alloc_new w _
 have hb1:W1.heap[w.heap.size+1]?=some (.cells #[.slice none 0 0] 25 (0,0)):=by
  rw [hW1]
  have:=heap_alloc_new (w.alloc (.cells (cells9 h o1 l1 c1 o2 l2 c2) 29)) (.cells #[.slice none 0 0] 25)
  simpa using this
 have hz1:W1.heap.size=w.heap.size+2:=by rw [hW1];simp
 have hJ:FJ (w.heap.size+1) (0+(ps.size+1)) [] (fun k=>k=w.heap.size+1) W1:=⟨none,0,[],hb1,Dq _ _,by simp;omega,fun k=>by simp [Value.ownBlock]⟩
 have HC:=hid (Ej (F:=93) (lb:=#[.pointer (some ⟨w.heap.size+1,0,none⟩)]) (R:=fun k=>k < w.heap.size) (L0:=w.heap.size+1) (l7:=Qi) (out:=fun x _=>x) XD (LY _ _ (fun k hk=>by omega)) (fun k hk=>by omega) (fun _ _=>rfl) h ps 0 [] _ W1 (fun _=>False) [] o1 l1 c1 o2 l2 c2 none 0 0 hJ (iE.nil _ _ _) (Nat.le_refl _) (fun _ h=>h.elim) (by omega)
  (((hs1.mono (T:=fun k=>k < w.heap.size) (fun k hk _=>hk)).stay bI.out)) (((hs.mono (T:=fun k=>k < w.heap.size) (fun k hk _=>hk)).stay bI.out)) hv hav)
 have HF:Hid ((zQ Qi (fun x _=>x) [] [] h ps).1=eG [] h ps):=by show _=_;rw [U1];rfl
 obtain ⟨⟨a0,a1,a2,a3,a4,a5,a6,a7,a8⟩,_⟩:=aT hb0
 clear hb0 hb1 hJ hs1 hs hv hav hz1
 unfold bC at HC ⊢
 go_enter Tryz.func63,Tryz.ntmps63
 go_upto_region 2 with fail
 change Code.wp _ _ _ _ ((w.alloc (.cells (cells9 h o1 l1 c1 o2 l2 c2) 29)).alloc (.cells #[.slice none 0 0] 25))
 rw [<-hW1]
 clear hW1
 go_wp2_with fail
 refine HC.out.mono ?_;rintro x w2 ⟨r2,e2,D2,E2,rfl,⟨o,c,xs,hb,hl,_,hd⟩,_,_,hf,_⟩
 rw [HF.out] at hb hl hd
 have cb:=cell_of_one hb
 have HL:=hid hl
 have Vz:=hid hf
 unfold bC
 clear hb hl hd hf a0 a1 a2 a3 a4 a5 a6 a7 a8
 go_wp2_with fail
 go_ret
 exact ⟨o,c,xs,rfl,Dt HL.out (by omega),bI.out.trans' Vz.out (fun k hk h=>by have h':k=w.heap.size+1:=h;omega)⟩
theorem QX (h:Nd) (e:List ByteArray):(Oc h e).tp=h.tp:=by unfold Oc;split<;>rfl
end Sc
end
section
open Go.RowKit Go.Shelf
attribute [local go_sem] Oper.semAt_some
theorem N9 {R:Nat->Prop} {i:Nat} {x:Nd × To} {va:Array Value} {W:World} (h:Z5 R i x va W):va.size=2:=by
 obtain ⟨o1,l1,c1,o2,l2,c2,rfl,_⟩:=h;rfl
end
end Go.Proofs.YtcninopmelmajaaGreatDoor
