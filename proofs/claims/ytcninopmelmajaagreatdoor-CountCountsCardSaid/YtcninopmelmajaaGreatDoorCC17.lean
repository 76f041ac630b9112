/-
  Texts laid together (PaBr): laws and walks, with their conditions.
-/
import Derived.Deep.RegionLaw
import Derived.Test.YtcninopmelmajaaGreatDoorCC16
set_option maxHeartbeats 8000000
set_option maxRecDepth 1000000
namespace Go.Proofs.YtcninopmelmajaaGreatDoor
open Go.Lib (hid)
section
namespace Pa
open Go.RowKit Lx
structure ML (B rb tb:Nat) (h:Nd) (qs:To) (o1:Option Addr) (l1 c1:Nat) (o2:Option Addr) (l2 c2:Nat) (x:Pt) (j0:Nat) (w:World) (k tk tn fr en:Int) (tp:Fo) (po:Option Addr) (pl pc:Nat) (ps:To) (g c:Nat) (xs:List Value) (wx:World):Prop where
 b:wx.heap[B]?=some (.cells (z13 0 0) 129 (0,0))
 r:wx.heap[rb]?=some (.cells (c13 h o1 l1 c1 o2 l2 c2 x (j0:Nat) 0) 129 (0,0))
 t:wx.heap[tb]?=some (.cells #[.int .i64 k,.string ⟨#[]⟩,.int .i64 0,.int .i64 tk,.int .i64 tn,.slice po pl pc,.slice (some ⟨g,0,none⟩) ps.length c,.int .i64 fr,.int .i64 en] 29 (0,0))
 s1:aC (fun b=>B+1<=b/\b < rb) wx o1 l1 h.tp
 s2:aY (fun b=>B+1<=b/\b < rb) wx o2 l2 qs
 s3:aC (fun b=>B+1<=b/\b≠rb/\b≠tb) wx po pl tp
 row:cZ wx (fun b=>B+1<=b/\b≠rb/\b≠tb) (.slice (some ⟨g,0,none⟩) ps.length c) ps xs
 few:ps.length<=9
 gr:rb < g
 q:ah w wx
theorem ML.stay {B rb tb:Nat} {h:Nd} {qs:To} {o1:Option Addr} {l1 c1:Nat} {o2:Option Addr} {l2 c2:Nat} {x:Pt} {j0:Nat} {w:World} {k tk tn fr en:Int} {tp:Fo} {po:Option Addr} {pl pc:Nat} {ps:To} {g c:Nat} {xs:List Value} {wx wy:World} (s:ML B rb tb h qs o1 l1 c1 o2 l2 c2 x j0 w k tk tn fr en tp po pl pc ps g c xs wx) (hq:ah wx wy):ML B rb tb h qs o1 l1 c1 o2 l2 c2 x j0 w k tk tn fr en tp po pl pc ps g c xs wy :=
 ⟨ak hq s.b,ak hq s.r,ak hq s.t,s.s1.stay hq,s.s2.stay hq,s.s3.stay hq,s.row.stay hq,s.few,s.gr,s.q.trans hq⟩
theorem ML.aaG {B rb tb : Nat} {h : Nd} {qs : To} {o1 : Option Addr} {l1 c1 : Nat} {o2 : Option Addr} {l2 c2 : Nat} {x : Pt} {j0 : Nat} {w : World} {k tk tn fr en : Int} {tp : Fo} {po : Option Addr} {pl pc : Nat} {ps : To} {g c : Nat} {xs : List Value} {wx wy : World} {k' tk' tn' fr' en' : Int} {tp' : Fo} {po' : Option Addr} {Kt pc' : Nat} (s : ML B rb tb h qs o1 l1 c1 o2 l2 c2 x j0 w k tk tn fr en tp po pl pc ps g c xs wx) (hf : Fr (fun b => b = tb) wx wy) (hB : B < rb) (hrt : rb < tb) (hw : w.heap.size <= tb)
    (ht:wy.heap[tb]?=some (.cells #[.int .i64 k',.string ⟨#[]⟩,.int .i64 0,.int .i64 tk',.int .i64 tn',.slice po' Kt pc',.slice (some ⟨g,0,none⟩) ps.length c,.int .i64 fr',.int .i64 en'] 29 (0,0))) (h3:aC (fun b=>B+1<=b/\b≠rb/\b≠tb) wy po' Kt tp'):ML B rb tb h qs o1 l1 c1 o2 l2 c2 x j0 w k' tk' tn' fr' en' tp' po' Kt pc' ps g c xs wy :=
 ⟨ay hf (by omega) s.b,ay hf (by omega) s.r,ht,s.s1.fr hf (fun b _ k=>⟨k,by omega⟩),s.s2.fr hf (fun b _ k=>⟨k,by omega⟩),h3,s.row.fr hf (fun b k=>k.2.2),s.few,s.gr,s.q.trans' hf (fun b hb e=>by omega)⟩
theorem ML.next {B rb tb : Nat} {h : Nd} {qs : To} {o1 : Option Addr} {l1 c1 : Nat} {o2 : Option Addr} {l2 c2 : Nat} {x : Pt} {j0 : Nat} {w : World} {ps : To} {g c : Nat} {xs : List Value} {wx wy : World} {h2 : Nd} {rX : To} {p1 : Option Addr} {m1 d1 : Nat} {p2 : Option Addr} {m2 d2 g3 c3 : Nat} {v : Value} (s : ML B rb tb h qs o1 l1 c1 o2 l2 c2 x j0 w 9 0 0 0 0 .nil none 0 0 ps g c xs wx) (hB : B < rb) (hrt : rb < tb) (hw : w.heap.size <= rb)
    (hs1:aC (fun b=>(B+1<=b/\b≠rb/\b≠tb)/\(Value.slice (some ⟨g,0,none⟩) ps.length c).ownBlock≠some b) wx p1 m1 h2.tp) (hs2:aY (fun b=>(B+1<=b/\b≠rb/\b≠tb)/\(Value.slice (some ⟨g,0,none⟩) ps.length c).ownBlock≠some b) wx p2 m2 rX)
    (ho:wy.ownsRow 0 29 9 (.slice (some ⟨g3,0,none⟩) (ps.length+1) c3) (ps.length+1) (xs++(cells9 h2 p1 m1 d1 p2 m2 d2).toList)) (hf:Fr (fun k=>(Value.slice (some ⟨g,0,none⟩) ps.length c).ownBlock=some k) wx wy) (hg:(Value.slice (some ⟨g,0,none⟩) ps.length c).ownBlock=some g3∨wx.heap.size<=g3) (hfew:ps.length<=8)
    (hv:v=.slice (some ⟨g3,0,none⟩) (ps.length+1) c3):ML B rb tb h qs o1 l1 c1 o2 l2 c2 x j0 w 9 0 0 0 0 .nil none 0 0 (ps.app (.cons h2 rX .nil)) g3 c3 (xs++(cells9 h2 p1 m1 d1 p2 m2 d2).toList) (wy.setCell ⟨tb,6,none⟩ v):=by
 subst hv
 have hlow:=s.row.low g rfl
 have hgr:=s.gr
 have hrl:=lt_of_block s.r
 have htl:=lt_of_block s.t
 have hg':∀ b,(Value.slice (some ⟨g,0,none⟩) ps.length c).ownBlock=some b->b=g:=fun b e=>by simp [Value.ownBlock] at e;exact e.symm
 have hfs:=Fr.setCell (fun b=>b=tb) wy ⟨tb,6,none⟩ (.slice (some ⟨g3,0,none⟩) (ps.length+1) c3) rfl
 have hlen:(ps.app (.cons h2 rX .nil)).length=ps.length+1:=by rw [To.bP];simp [To.length]
 have ht:=ay hf (fun e=>hlow.2.2 (hg' _ e).symm) s.t
 refine ⟨ay hfs (by omega) (ay hf (fun e=>by have:=hg' _ e;omega) s.b),ay hfs (by omega) (ay hf (fun e=>hlow.2.1 (hg' _ e).symm) s.r),?_,(s.s1.fr hf (fun b _ k=>⟨k,fun e=>by have:=hg' _ e;omega⟩)).fr hfs (fun b _ k=>⟨k,by omega⟩),(s.s2.fr hf (fun b _ k=>⟨k,fun e=>by have:=hg' _ e;omega⟩)).fr hfs (fun b _ k=>⟨k,by omega⟩),aC.nil _ _ _,?_,by rw [hlen];omega,?_,(s.q.trans' hf (fun b hb e=>by have:=hg' _ e;omega)).trans' hfs (fun b hb e=>by omega)⟩
 ·rw [hlen];exact aB (i:=6) (u:=.slice (some ⟨g3,0,none⟩) (ps.length+1) c3) ht
 ·rw [hlen];exact (cZ.snoc s.row hs1 hs2 ho hf hg (fun b hb=>⟨by omega,by omega,by omega⟩)).fr hfs (fun b k=>k.2.2)
 ·rcases hg with h | h
  ·have:=hg' _ h;omega
  ·omega
def YN (ts:List Tok) (i0 B rb tb:Nat) (h:Nd) (qs:To) (o1:Option Addr) (l1 c1:Nat) (o2:Option Addr) (l2 c2:Nat) (x:Pt) (j0:Nat) (fin:jL) (w:World) (t:Value) (wx:World):Prop :=
 ∃ (k tk tn:Int) (tp:Fo) (po:Option Addr) (pl pc:Nat) (ps:To) (g c:Nat) (xs:List Value) (j:Nat),t=.int .i64 (j:Nat)/\j < ts.length/\ML B rb tb h qs o1 l1 c1 o2 l2 c2 x j0 w k tk tn 0 0 tp po pl pc ps g c xs wx/\fin=wZ ts i0 h qs k tk tn tp ps j
def YO (E:Nat->jL) (ts:List Tok) (i0 B rb tb:Nat) (h:Nd) (qs:To) (o1:Option Addr) (l1 c1:Nat) (o2:Option Addr) (l2 c2:Nat) (x:Pt) (j0:Nat) (fin:jL) (w:World) (t:Value) (wx:World):Prop :=
 ∃ (ps:To) (g c:Nat) (xs:List Value) (j n:Nat),t=.int .i64 (j:Nat)/\j < ts.length/\ML B rb tb h qs o1 l1 c1 o2 l2 c2 x j0 w 9 0 0 0 0 .nil none 0 0 ps g c xs wx/\ps.length+n=9/\1<=ps.length/\1<=n/\(ps.length=1->ps=.cons h qs .nil)/\fin=vC ts i0 (uK E ts n ps j)
theorem KF {ts:List Tok} {i:Nat} {t:Tok} (h:ts[i]?=some t):at' ts i=(((t.fr:Nat):Int),((t.to:Nat):Int)):=by unfold at';rw [h]
theorem Gf (ts : List Tok) (g c : Nat) (E : Nat -> jL) (T : Nat -> nI) (i : Nat) (lv mo : Int) (w : World) (hsh : Shut ts) (hop : bY ts i 4 nJ = true) (hin : ∀ j, j < ts.length -> rP ts.length j (E j)) (hint : ∀ j, j < ts.length -> wV ts.length j (T j)) (ht : ny w g ts) (hlv1 : -1000000 <= lv) (hlv2 : lv <= 900000)
    (hE:∀ (j:Nat) (aj:Int) (W:World),aj=j->j < ts.length->ah w W->Calls Tryz.prog 79 #[tks g ts c,.int .i64 aj,.int .i64 (lv+1),.int .i64 mo] W (iJ W (E j)))
    (hT:∀ (j:Nat) (aj:Int) (W:World),aj=j->j < ts.length->ah w W->Calls Tryz.prog 129 #[tks g ts c,.int .i64 aj,.int .i64 (lv+2),.int .i64 mo] W (F8 W (T j))) :
    Calls Tryz.prog 122 #[tks g ts c,.int .i64 i,.int .i64 lv,.int .i64 mo] w (iJ w (VQ E T ts i (E (i+1)))):=by
 have hlt:=dI hsh hop (by decide)
 obtain ⟨t9,O6,_,_⟩:=Bo hop
 have hfew:=ht.few
 obtain ⟨W0,hW0⟩:∃ W0,W0=w.alloc zX:=⟨_,rfl⟩
 have aK:Hid (ah w W0):=by rw [hW0];exact ah.alloc _ _
 have HB0:Hid (W0.heap[w.heap.size]?=some (.cells (z13 0 0) 129 (0,0))):=by show _=_;rw [hW0];exact heap_alloc_new w _
 have hz0:W0.heap.size=w.heap.size+1:=by rw [hW0];simp
 have HC:=hE (i+1) ((i:Int)+1) W0 (by omega) hlt aK.out
 have HI1:=hin (i+1) hlt
 have HET:=hid hE
 have YP:=hid hT
 have kR:=hid hin
 have acI:=hid hint
 have DC:=hid hsh
 have HSG:Hid (∀ (j:Nat) (s:ByteArray) (W:World),ah w W->Calls Tryz.prog 121 #[tks g ts c,.int .i64 j,.string s] W fun e w'=>e=.returned (.bool (bY ts j 4 s.data.toList))/\W=w'):=fun j s W hq=>BH ts g c j s W (ht.stay hq)
 have acJ:Hid (∀ (j:Nat) (W:World),ah w W->Calls Tryz.prog 121 #[tks g ts c,.int .i64 j,.string ⟨#[58]⟩] W fun e w'=>e=.returned (.bool (bY ts j 4 F7))/\W=w'):=fun j W hq=>HSG.out j _ W hq
 have acK:Hid (∀ (j:Nat) (W:World),ah w W->Calls Tryz.prog 121 #[tks g ts c,.int .i64 j,.string ⟨#[44]⟩] W fun e w'=>e=.returned (.bool (bY ts j 4 vP))/\W=w'):=fun j W hq=>HSG.out j _ W hq
 have acL:Hid (∀ (j:Nat) (W:World),ah w W->Calls Tryz.prog 121 #[tks g ts c,.int .i64 j,.string ⟨#[41]⟩] W fun e w'=>e=.returned (.bool (bY ts j 4 jB))/\W=w'):=fun j W hq=>HSG.out j _ W hq
 have Vq:Hid (∀ (j:Nat) (t:Tok),ts[j]?=some t->∀ W,ah w W->W.cell? ⟨g,j * 4,none⟩=some (.int .i64 (t.kind:Nat))/\W.cell? ⟨g,j * 4+1,none⟩=some (.string (bW t.text))/\W.cell? ⟨g,j * 4+2,none⟩=some (.int .i64 (t.fr:Nat))/\W.cell? ⟨g,j * 4+3,none⟩=some (.int .i64 (t.to:Nat))):=fun j t h W hq=>(ht.stay hq).cells j t h
 have YQ:=hid O6
 obtain ⟨res,hres⟩:∃ res,VQ E T ts i (E (i+1))=res:=⟨_,rfl⟩
 have aW:=hid hres
 rw [hres]
 clear ht hE hT hin hint hsh hop O6 hres
 go_enter Tryz.func122,Tryz.ntmps122
 go_wp2_with fail
 rw [<-hW0]
 clear hW0
 generalize hB:w.heap.size=B at *
 have bM:=hid hB
 clear hB
 cases hr:E (i+1) with
 | inr y =>
  obtain ⟨j,er⟩:=y
  rw [hr] at HC HI1
  have hne:er≠0:=HI1.2
  have hne2:((er:Int) != 0)=true:=by simp [hne]
  refine HC.mono ?_;rintro e w2 ⟨rfl,hq2⟩
  obtain ⟨W3,hW3⟩:∃ W3,W3=w2.alloc (.cells (z13 (j:Nat) (er:Nat)) 129):=⟨_,rfl⟩
  have hqa:ah w2 W3:=by rw [hW3];exact ah.alloc _ _
  have hr3:W3.heap[w2.heap.size]?=some (.cells (z13 (j:Nat) (er:Nat)) 129 (0,0)):=by rw [hW3];exact heap_alloc_new w2 _
  have hb3:=ay (hq2.trans hqa) (fun h=>h) HB0.out
  have HB3:=hid hb3
  have dG:=hid (aK.out.trans (hq2.trans hqa))
  go_upto_region 2 with fail
  change Code.wp _ _ _ _ (w2.alloc (.cells (z13 (j:Nat) (er:Nat)) 129))
  rw [<-hW3]
  clear hW3 hqa hq2 HI1
  generalize w2.heap.size=rb at *
  obtain ⟨x0,x1,x2,x3,x4,x5,x6,x7,x8,x9,x10,x11,x12⟩:=aG hb3
  have y0:=au hb3 0
  have y1:=au hb3 1
  have y2:=au hb3 2
  have y3:=au hb3 3
  have y4:=au hb3 4
  have y5:=au hb3 5
  have y6:=au hb3 6
  have y7:=au hb3 7
  have y8:=au hb3 8
  have y9:=au hb3 9
  have yI:=au hb3 10
  have yJ:=au hb3 11
  have yK:=au hb3 12
  obtain ⟨r0,r1,r2,r3,r4,r5,r6,r7,r8,r9,r10,r11,r12⟩:=aG hr3
  clear hb3 hr3
  go_wp2_with fail
  have hf:=bf W3 B (.int .i64 0) (.string ⟨#[]⟩) (.int .i64 0) (.int .i64 0) (.int .i64 0) (.slice none 0 0) (.slice none 0 0) (.int .i64 0) (.int .i64 0) (.int .i64 0) (.int .i64 0) (.int .i64 (j:Nat)) (.int .i64 (er:Nat))
  have dN:ah w (aO W3 B (.int .i64 0) (.string ⟨#[]⟩) (.int .i64 0) (.int .i64 0) (.int .i64 0) (.slice none 0 0) (.slice none 0 0) (.int .i64 0) (.int .i64 0) (.int .i64 0) (.int .i64 0) (.int .i64 (j:Nat)) (.int .i64 (er:Nat))):=(dG.out).trans' hf (fun k hk e=>by have:=bM.out;omega)
  obtain ⟨f0,f1,f2,f3,f4,f5,f6,f7,f8,f9,f10,f11,f12⟩:=aG (aN (a0:=.int .i64 0) (a1:=.string ⟨#[]⟩) (a2:=.int .i64 0) (a3:=.int .i64 0) (a4:=.int .i64 0) (a5:=.slice none 0 0) (a6:=.slice none 0 0) (a7:=.int .i64 0) (a8:=.int .i64 0) (a9:=.int .i64 0) (a10:=.int .i64 0) (a11:=.int .i64 (j:Nat)) (a12:=.int .i64 (er:Nat)) HB3.out)
  change bodyPost _ _ _ _ _ (aO W3 B (.int .i64 0) (.string ⟨#[]⟩) (.int .i64 0) (.int .i64 0) (.int .i64 0) (.slice none 0 0) (.slice none 0 0) (.int .i64 0) (.int .i64 0) (.int .i64 0) (.int .i64 0) (.int .i64 (j:Nat)) (.int .i64 (er:Nat)))
  generalize aO W3 B (.int .i64 0) (.string ⟨#[]⟩) (.int .i64 0) (.int .i64 0) (.int .i64 0) (.slice none 0 0) (.slice none 0 0) (.int .i64 0) (.int .i64 0) (.int .i64 0) (.int .i64 0) (.int .i64 (j:Nat)) (.int .i64 (er:Nat))=wf at *
  refine bodyPost_ret (by simp [results,Tryz.results122,go_sem,f0,f1,f2,f3,f4,f5,f6,f7,f8,f9,f10,f11,f12];rfl) rfl ?_
  rw [show res=.inr (j,er) from by rw [<-aW.out,hr];rfl]
  exact ⟨rfl,dN⟩
 | inl y =>
  obtain ⟨⟨h,qs⟩,x,j0⟩:=y
  rw [hr] at HC HI1
  have hj1:i+1 < j0/\j0 < ts.length:=HI1
  obtain ⟨fin,hfin⟩:∃ fin,Wn E T ts i h qs j0=fin:=⟨_,rfl⟩
  have Vo:Hid (res=fin):=by show _=_;rw [<-aW.out,hr];exact (YM E T ts i h qs x j0).trans hfin
  have bJ:=hid hfin
  refine HC.mono ?_;rintro e w2 ⟨o1,l1,c1,o2,l2,c2,rfl,hs1,hs2,hq2⟩
  obtain ⟨W3,hW3⟩:∃ W3,W3=w2.alloc (.cells (c13 h o1 l1 c1 o2 l2 c2 x (j0:Nat) 0) 129):=⟨_,rfl⟩
  have hqa:ah w2 W3:=by rw [hW3];exact ah.alloc _ _
  have hr3:W3.heap[w2.heap.size]?=some (.cells (c13 h o1 l1 c1 o2 l2 c2 x (j0:Nat) 0) 129 (0,0)):=by rw [hW3];exact heap_alloc_new w2 _
  have hz3:W3.heap.size=w2.heap.size+1:=by rw [hW3];simp
  have hw2:B+1<=w2.heap.size:=by have:=hq2.size;omega
  go_upto_region 2 with fail
  change Code.wp _ _ _ _ (w2.alloc (.cells (c13 h o1 l1 c1 o2 l2 c2 x (j0:Nat) 0) 129))
  rw [<-hW3]
  have dG:=hid (aK.out.trans (hq2.trans hqa))
  have HB3:=hid (ay (hq2.trans hqa) (fun h=>h) HB0.out)
  have nH:Hid (aC (fun b=>W0.heap.size<=b/\b < w2.heap.size) W3 o1 l1 h.tp):=hs1.fr hqa (fun b hb k=>⟨⟨k,hb⟩,fun h=>h⟩)
  have HS2:Hid (aY (fun b=>W0.heap.size<=b/\b < w2.heap.size) W3 o2 l2 qs):=hs2.fr hqa (fun b hb k=>⟨⟨k,hb⟩,fun h=>h⟩)
  clear hW3 hqa hq2 hs1 hs2 HC HI1 hfin hr
  generalize w2.heap.size=rb at *
  have HR3:=hid hr3
  obtain ⟨r0,r1,r2,r3,r4,r5,r6,r7,r8,r9,r10,r11,r12⟩:=aG hr3
  obtain ⟨W4,Gg⟩:∃ W4,W4=W3.alloc (.cells (cells9 h o1 l1 c1 o2 l2 c2) 29):=⟨_,rfl⟩
  obtain ⟨W5,Vp⟩:∃ W5,W5=W4.alloc (.cells #[.int .i64 9,.string ⟨#[]⟩,.int .i64 0,.int .i64 0,.int .i64 0,.slice none 0 0,.slice (some ⟨rb+1,0,none⟩) 1 1,.int .i64 0,.int .i64 0] 29):=⟨_,rfl⟩
  have hq4:ah W3 W4:=by rw [Gg];exact ah.alloc _ _
  have hq5:ah W4 W5:=by rw [Vp];exact ah.alloc _ _
  have Ov:W4.heap.size=rb+1+1:=by rw [Gg];simp [hz3]
  have hb4:W4.heap[rb+1]?=some (.cells (cells9 h o1 l1 c1 o2 l2 c2) 29 (0,0)):=by rw [Gg,<-hz3];exact heap_alloc_new W3 _
  have hb5:W5.heap[rb+1+1]?=some (.cells #[.int .i64 9,.string ⟨#[]⟩,.int .i64 0,.int .i64 0,.int .i64 0,.slice none 0 0,.slice (some ⟨rb+1,0,none⟩) 1 1,.int .i64 0,.int .i64 0] 29 (0,0)):=by rw [Vp,<-Ov];exact heap_alloc_new W4 _
  have MC:Hid (ML B rb (rb+1+1) h qs o1 l1 c1 o2 l2 c2 x j0 w 9 0 0 0 0 .nil none 0 0 (.cons h qs .nil) (rb+1) 1 (cells9 h o1 l1 c1 o2 l2 c2).toList W5):=by
   have KG:=hq4.trans hq5
   refine ⟨ak KG HB3.out,ak KG HR3.out,hb5,nH.out.fr KG (fun b _ k=>⟨⟨by omega,by omega⟩,fun h=>h⟩),HS2.out.fr KG (fun b _ k=>⟨⟨by omega,by omega⟩,fun h=>h⟩),aC.nil _ _ _,?_,by simp [To.length],by omega,dG.out.trans KG⟩
   refine ⟨⟨rfl,.inr ⟨rb+1,1,_,rfl,Nat.zero_le _,ak hq5 hb4,Nat.le_refl _,by decide,rfl,rfl⟩⟩,fun b hb=>?_,⟨o1,l1,c1,o2,l2,c2,[],by simp,nH.out.fr KG (fun b hb k=>⟨⟨⟨by omega,by omega,by omega⟩,fun e=>by simp [Value.ownBlock] at e;omega⟩,fun h=>h⟩),HS2.out.fr KG (fun b hb k=>⟨⟨⟨by omega,by omega,by omega⟩,fun e=>by simp [Value.ownBlock] at e;omega⟩,fun h=>h⟩),rfl⟩⟩
   simp [Value.ownBlock] at hb;subst hb;exact ⟨by omega,by omega,by omega⟩
  go_upto_region 5 with fail
  change Code.wp _ _ _ _ ((W3.alloc (.cells (cells9 h o1 l1 c1 o2 l2 c2) 29)).alloc (.cells #[.int .i64 9,.string ⟨#[]⟩,.int .i64 0,.int .i64 0,.int .i64 0,.slice none 0 0,.slice (some ⟨rb+1,0,none⟩) 1 1,.int .i64 0,.int .i64 0] 29))
  rw [<-Gg,<-Vp]
  have YR:=MC.out.r
  clear Gg Vp hq4 hq5 hb4 hb5 hr3 r0 r1 r2 r3 r4 r5 r6 r7 r8 r9 r10 r11 r12 Ov HB3 HR3 nH HS2 dG
  have hrt:rb < rb+1+1:=by omega
  have hBr:B < rb:=by omega
  have hwr:w.heap.size<=rb:=by have:=bM.out;omega
  generalize rb+1+1=tb at *
  generalize rb+1=g3 at *
  obtain ⟨r0,r1,r2,r3,r4,r5,r6,r7,r8,r9,r10,r11,r12⟩:=aG YR
  clear YR
  go_wp2_with fail
  refine (acJ.out j0 W5 MC.out.q).mono ?_;rintro e w4 ⟨rfl,rfl⟩
  go_upto_if 35 with fail
  clear r0 r1 r2 r3 r4 r5 r6 r7 r8 r9 r10 r11 r12
  go_cut [11] (fun t wx=>YN ts i B rb tb h qs o1 l1 c1 o2 l2 c2 x j0 fin w t wx)
  case first =>
   cases YS:bY ts j0 4 F7
   case true =>
    have hlt2:=dI DC.out YS (by decide)
    have HFA:Hid (fin=Ia ts i h qs (T (j0+1))):=by show _=_;rw [<-bJ.out];unfold Wn;rw [if_pos YS]
    have HC:=YP.out (j0+1) ((j0:Int)+1) W5 (by omega) hlt2 MC.out.q
    have HI2:=acI.out (j0+1) hlt2
    cases hr2:T (j0+1) with
    | inr y =>
     obtain ⟨j,er⟩:=y
     rw [hr2] at HC HI2
     have hne:er≠0:=HI2.2
     have hne2:((er:Int) != 0)=true:=by simp [hne]
     have HC2:=hid HC
     clear HC HI2
     go_wp2_with fail
     refine HC2.out.mono ?_;rintro e w6 ⟨rfl,hq6⟩
     obtain ⟨W7,zW⟩:∃ W7,W7=w6.alloc zU:=⟨_,rfl⟩
     have hq7:ah W5 W7:=by rw [zW];exact hq6.trans (ah.alloc _ _)
     go_upto_region 8 with fail
     change Code.wp _ _ _ _ (w6.alloc zU)
     rw [<-zW]
     have HW7:=hid hq7
     have KA:=hid (kM (j:Int) (er:Int) W7)
     clear zW hq6 hq7 HC2
     go_wp2_with fail
     refine KA.out.mono ?_;rintro e w8 ⟨rfl,hq8⟩
     have G5:=hid (MC.out.stay (HW7.out.trans hq8))
     have hb8:=G5.out.b
     clear hq8
     obtain ⟨x0,x1,x2,x3,x4,x5,x6,x7,x8,x9,x10,x11,x12⟩:=aG hb8
     have y0:=au hb8 0
     have y1:=au hb8 1
     have y2:=au hb8 2
     have y3:=au hb8 3
     have y4:=au hb8 4
     have y5:=au hb8 5
     have y6:=au hb8 6
     have y7:=au hb8 7
     have y8:=au hb8 8
     have y9:=au hb8 9
     have yI:=au hb8 10
     have yJ:=au hb8 11
     have yK:=au hb8 12
     clear hb8
     go_wp2_with fail
     have hf:=bf w8 B (.int .i64 0) (.string ⟨#[]⟩) (.int .i64 0) (.int .i64 0) (.int .i64 0) (.slice none 0 0) (.slice none 0 0) (.int .i64 0) (.int .i64 0) (.int .i64 0) (.int .i64 0) (.int .i64 (j:Nat)) (.int .i64 (er:Nat))
     have dN:ah w (aO w8 B (.int .i64 0) (.string ⟨#[]⟩) (.int .i64 0) (.int .i64 0) (.int .i64 0) (.slice none 0 0) (.slice none 0 0) (.int .i64 0) (.int .i64 0) (.int .i64 0) (.int .i64 0) (.int .i64 (j:Nat)) (.int .i64 (er:Nat))):=(G5.out.q).trans' hf (fun k hk e=>by have:=bM.out;omega)
     obtain ⟨f0,f1,f2,f3,f4,f5,f6,f7,f8,f9,f10,f11,f12⟩:=aG (aN (a0:=.int .i64 0) (a1:=.string ⟨#[]⟩) (a2:=.int .i64 0) (a3:=.int .i64 0) (a4:=.int .i64 0) (a5:=.slice none 0 0) (a6:=.slice none 0 0) (a7:=.int .i64 0) (a8:=.int .i64 0) (a9:=.int .i64 0) (a10:=.int .i64 0) (a11:=.int .i64 (j:Nat)) (a12:=.int .i64 (er:Nat)) G5.out.b)
     change bodyPost _ _ _ _ _ (aO w8 B (.int .i64 0) (.string ⟨#[]⟩) (.int .i64 0) (.int .i64 0) (.int .i64 0) (.slice none 0 0) (.slice none 0 0) (.int .i64 0) (.int .i64 0) (.int .i64 0) (.int .i64 0) (.int .i64 (j:Nat)) (.int .i64 (er:Nat)))
     generalize aO w8 B (.int .i64 0) (.string ⟨#[]⟩) (.int .i64 0) (.int .i64 0) (.int .i64 0) (.slice none 0 0) (.slice none 0 0) (.int .i64 0) (.int .i64 0) (.int .i64 0) (.int .i64 0) (.int .i64 (j:Nat)) (.int .i64 (er:Nat))=wf at *
     refine bodyPost_ret (by simp [results,Tryz.results122,go_sem,f0,f1,f2,f3,f4,f5,f6,f7,f8,f9,f10,f11,f12];rfl) rfl ?_
     rw [Vo.out,HFA.out,hr2,show Ia ts i h qs (.inr (j,er))=.inr (j,er) from rfl]
     exact ⟨rfl,dN⟩
    | inl y =>
     obtain ⟨⟨k,m,us⟩,j⟩:=y
     rw [hr2] at HC HI2
     have hj2:j0+1 < j/\j < ts.length:=HI2
     have HC2:=hid HC
     have HR2:=hid hr2
     clear HC HI2 hr2
     go_wp2_with fail
     refine HC2.out.mono ?_;rintro e w6 ⟨po,pl,pc,rfl,hs6,hq6⟩
     obtain ⟨W7,zW⟩:∃ W7,W7=w6.alloc (.cells #[.int .i64 k,.int .i64 m,.slice po pl pc] 24):=⟨_,rfl⟩
     have hqa:ah w6 W7:=by rw [zW];exact ah.alloc _ _
     have hy7:W7.heap[w6.heap.size]?=some (.cells #[.int .i64 k,.int .i64 m,.slice po pl pc] 24 (0,0)):=by rw [zW];exact heap_alloc_new w6 _
     have wX:=hid (MC.out.stay (hq6.trans hqa))
     have Wp:=lt_of_block MC.out.t
     have HS7:Hid (aC (fun b=>B+1<=b/\b≠rb/\b≠tb) W7 po pl us):=hs6.fr hqa (fun b _ k=>⟨by have k':W5.heap.size<=b:=k;exact ⟨by omega,by omega,by omega⟩,fun h=>h⟩)
     go_upto_region 10 with fail
     change Code.wp _ _ _ _ (w6.alloc (.cells #[.int .i64 k,.int .i64 m,.slice po pl pc] 24))
     rw [<-zW]
     have hz6:=hq6.size
     have hyt:tb < w6.heap.size:=by omega
     clear zW hqa hq6 hs6 HC2 Wp hz6
     generalize w6.heap.size=yb at *
     have hn1:¬ tb=yb:=by omega
     have hn2:¬ yb=tb:=by omega
     have MN:=wX.out.t
     obtain ⟨⟨t0,t1,t2,t3,t4,t5,t6,t7,t8⟩,u0,u1,u2,u3,u4,u5,u6,u7,u8⟩:=aT MN
     obtain ⟨z0,z1,z2,_,_,_⟩:=aF hy7
     clear MN hy7
     go_region
     have JD:Fr (fun b=>b=tb) W7 (((((W7.setCell ⟨tb,0,none⟩ (.int .i64 10)).setCell ⟨tb,3,none⟩ (.int .i64 k)).setCell ⟨tb,4,none⟩ (.int .i64 m)).setCell ⟨tb,5,none⟩ (.slice po pl pc)).drew):=((((Fr.setCell (fun b=>b=tb) _ ⟨tb,0,none⟩ _ rfl).trans (Fr.setCell (fun b=>b=tb) _ ⟨tb,3,none⟩ _ rfl)).trans (Fr.setCell (fun b=>b=tb) _ ⟨tb,4,none⟩ _ rfl)).trans (Fr.setCell (fun b=>b=tb) _ ⟨tb,5,none⟩ _ rfl)).trans (Fr.drew _ _)
     have G5:Hid (ML B rb tb h qs o1 l1 c1 o2 l2 c2 x j0 w 10 k m 0 0 us po pl pc (.cons h qs .nil) g3 1 (cells9 h o1 l1 c1 o2 l2 c2).toList (((((W7.setCell ⟨tb,0,none⟩ (.int .i64 10)).setCell ⟨tb,3,none⟩ (.int .i64 k)).setCell ⟨tb,4,none⟩ (.int .i64 m)).setCell ⟨tb,5,none⟩ (.slice po pl pc)).drew)) :=
      wX.out.aaG JD hBr hrt (by omega) (bT (aB (i:=5) (u:=.slice po pl pc) (aB (i:=4) (u:=.int .i64 m) (aB (i:=3) (u:=.int .i64 k) (aB (i:=0) (u:=.int .i64 10) wX.out.t))))) (HS7.out.fr JD (fun b _ k=>⟨k,k.2.2⟩))
     go_wp2_with fail
     go_meet
     exact ⟨10,k,m,us,po,pl,pc,.cons h qs .nil,g3,1,_,j,rfl,hj2.2,G5.out,by rw [HFA.out,HR2.out];exact Sr ts i h qs k m us j⟩
   case false =>
    have HFA:Hid (fin=vC ts i (uK E ts 8 (.cons h qs .nil) j0)):=by show _=_;rw [<-bJ.out];unfold Wn;rw [if_neg (by rw [YS];simp)]
    go_wp2_with fail
    go_loopw [11] (fun t wr=>YO E ts i B rb tb h qs o1 l1 c1 o2 l2 c2 x j0 fin w t wr) (fun t _=>ts.length - (intOf t).toNat)
    case atStart=>exact ⟨.cons h qs .nil,g3,1,_,j0,8,rfl,hj1.2,MC.out,rfl,Nat.le_refl _,by omega,fun _=>rfl,HFA.out⟩
    case round =>
     obtain ⟨ps,g4,c4,xs,j,n,rfl,hj,hbw,hn9,hp1,hn1,hone,hfe⟩:=hrel
     have DW:=hid hbw
     have acM:=hid hone
     have sN:=hid hfe
     clear hbw hone hfe
     go_wp2_with fail
     refine (acK.out j wr DW.out.q).mono ?_;rintro e w4 ⟨rfl,rfl⟩
     cases cs:bY ts j 4 vP
     case false =>
      go_wp2_with fail
      go_meet
      exact ⟨9,0,0,.nil,none,0,0,ps,g4,c4,xs,j,rfl,hj,DW.out,by rw [sN.out,YL cs];exact Sv ts i h qs ps j acM.out⟩
     case true =>
      have hlt3:=dI DC.out cs (by decide)
      have ht4:=DW.out.t
      obtain ⟨⟨t0,t1,t2,t3,t4,t5,t6,t7,t8⟩,u0,u1,u2,u3,u4,u5,u6,u7,u8⟩:=aT ht4
      clear ht4
      by_cases h8:8<=ps.length
      ·have h8':(8:Int)<=(ps.length:Int):=by omega
       have YD:(ps.length:Int)≥8:=h8'
       have KA:=hid (kM (j:Int) 6 wr)
       go_wp2_with fail
       refine KA.out.mono ?_;rintro e w8 ⟨rfl,hq8⟩
       have G5:=hid (DW.out.stay hq8)
       have hb8:=G5.out.b
       clear hq8 t0 t1 t2 t3 t4 t5 t6 t7 t8 u0 u1 u2 u3 u4 u5 u6 u7 u8
       obtain ⟨x0,x1,x2,x3,x4,x5,x6,x7,x8,x9,x10,x11,x12⟩:=aG hb8
       have y0:=au hb8 0
       have y1:=au hb8 1
       have y2:=au hb8 2
       have y3:=au hb8 3
       have y4:=au hb8 4
       have y5:=au hb8 5
       have y6:=au hb8 6
       have y7:=au hb8 7
       have y8:=au hb8 8
       have y9:=au hb8 9
       have yI:=au hb8 10
       have yJ:=au hb8 11
       have yK:=au hb8 12
       clear hb8
       go_wp2_with fail
       have hf:=bf w8 B (.int .i64 0) (.string ⟨#[]⟩) (.int .i64 0) (.int .i64 0) (.int .i64 0) (.slice none 0 0) (.slice none 0 0) (.int .i64 0) (.int .i64 0) (.int .i64 0) (.int .i64 0) (.int .i64 (j:Nat)) (.int .i64 6)
       have dN:ah w (aO w8 B (.int .i64 0) (.string ⟨#[]⟩) (.int .i64 0) (.int .i64 0) (.int .i64 0) (.slice none 0 0) (.slice none 0 0) (.int .i64 0) (.int .i64 0) (.int .i64 0) (.int .i64 0) (.int .i64 (j:Nat)) (.int .i64 6)):=(G5.out.q).trans' hf (fun k hk e=>by have:=bM.out;omega)
       obtain ⟨f0,f1,f2,f3,f4,f5,f6,f7,f8,f9,f10,f11,f12⟩:=aG (aN (a0:=.int .i64 0) (a1:=.string ⟨#[]⟩) (a2:=.int .i64 0) (a3:=.int .i64 0) (a4:=.int .i64 0) (a5:=.slice none 0 0) (a6:=.slice none 0 0) (a7:=.int .i64 0) (a8:=.int .i64 0) (a9:=.int .i64 0) (a10:=.int .i64 0) (a11:=.int .i64 (j:Nat)) (a12:=.int .i64 6) G5.out.b)
       change bodyPost _ _ _ _ _ (aO w8 B (.int .i64 0) (.string ⟨#[]⟩) (.int .i64 0) (.int .i64 0) (.int .i64 0) (.slice none 0 0) (.slice none 0 0) (.int .i64 0) (.int .i64 0) (.int .i64 0) (.int .i64 0) (.int .i64 (j:Nat)) (.int .i64 6))
       generalize aO w8 B (.int .i64 0) (.string ⟨#[]⟩) (.int .i64 0) (.int .i64 0) (.int .i64 0) (.slice none 0 0) (.slice none 0 0) (.int .i64 0) (.int .i64 0) (.int .i64 0) (.int .i64 0) (.int .i64 (j:Nat)) (.int .i64 6)=wf at *
       refine bodyPost_ret (by simp [results,Tryz.results122,go_sem,f0,f1,f2,f3,f4,f5,f6,f7,f8,f9,f10,f11,f12];rfl) rfl ?_
       rw [Vo.out,sN.out,Sl cs h8 hn1,show vC ts i (.inr (j,6))=.inr (j,6) from rfl]
       exact ⟨rfl,dN⟩
      ·have h8':¬ (8:Int)<=(ps.length:Int):=by omega
       have YD:¬ (ps.length:Int)≥8:=h8'
       have HC:=HET.out (j+1) ((j:Int)+1) wr (by omega) hlt3 DW.out.q
       have HI2:=kR.out (j+1) hlt3
       cases hr2:E (j+1) with
       | inr y =>
        obtain ⟨j2,er⟩:=y
        rw [hr2] at HC HI2
        have hne:er≠0:=HI2.2
        have hne2:((er:Int) != 0)=true:=by simp [hne]
        have HC2:=hid HC
        clear HC HI2
        go_wp2_with fail
        refine HC2.out.mono ?_;rintro e w6 ⟨rfl,hq6⟩
        obtain ⟨W7,zW⟩:∃ W7,W7=w6.alloc (.cells (z13 (j2:Nat) (er:Nat)) 129):=⟨_,rfl⟩
        have hqa:ah w6 W7:=by rw [zW];exact ah.alloc _ _
        have hr7:W7.heap[w6.heap.size]?=some (.cells (z13 (j2:Nat) (er:Nat)) 129 (0,0)):=by rw [zW];exact heap_alloc_new w6 _
        have wX:=hid (DW.out.stay (hq6.trans hqa))
        go_upto_region 16 with fail
        change Code.wp _ _ _ _ (w6.alloc (.cells (z13 (j2:Nat) (er:Nat)) 129))
        rw [<-zW]
        clear zW hqa hq6 HC2 t0 t1 t2 t3 t4 t5 t6 t7 t8 u0 u1 u2 u3 u4 u5 u6 u7 u8
        generalize w6.heap.size=qb at *
        have hb7:=wX.out.b
        obtain ⟨x0,x1,x2,x3,x4,x5,x6,x7,x8,x9,x10,x11,x12⟩:=aG hb7
        have y0:=au hb7 0
        have y1:=au hb7 1
        have y2:=au hb7 2
        have y3:=au hb7 3
        have y4:=au hb7 4
        have y5:=au hb7 5
        have y6:=au hb7 6
        have y7:=au hb7 7
        have y8:=au hb7 8
        have y9:=au hb7 9
        have yI:=au hb7 10
        have yJ:=au hb7 11
        have yK:=au hb7 12
        obtain ⟨q0,q1,q2,q3,q4,q5,q6,q7,q8,q9,q10,q11,q12⟩:=aG hr7
        clear hb7 hr7
        go_wp2_with fail
        have hf:=bf W7 B (.int .i64 0) (.string ⟨#[]⟩) (.int .i64 0) (.int .i64 0) (.int .i64 0) (.slice none 0 0) (.slice none 0 0) (.int .i64 0) (.int .i64 0) (.int .i64 0) (.int .i64 0) (.int .i64 (j2:Nat)) (.int .i64 (er:Nat))
        have dN:ah w (aO W7 B (.int .i64 0) (.string ⟨#[]⟩) (.int .i64 0) (.int .i64 0) (.int .i64 0) (.slice none 0 0) (.slice none 0 0) (.int .i64 0) (.int .i64 0) (.int .i64 0) (.int .i64 0) (.int .i64 (j2:Nat)) (.int .i64 (er:Nat))):=(wX.out.q).trans' hf (fun k hk e=>by have:=bM.out;omega)
        obtain ⟨f0,f1,f2,f3,f4,f5,f6,f7,f8,f9,f10,f11,f12⟩:=aG (aN (a0:=.int .i64 0) (a1:=.string ⟨#[]⟩) (a2:=.int .i64 0) (a3:=.int .i64 0) (a4:=.int .i64 0) (a5:=.slice none 0 0) (a6:=.slice none 0 0) (a7:=.int .i64 0) (a8:=.int .i64 0) (a9:=.int .i64 0) (a10:=.int .i64 0) (a11:=.int .i64 (j2:Nat)) (a12:=.int .i64 (er:Nat)) wX.out.b)
        change bodyPost _ _ _ _ _ (aO W7 B (.int .i64 0) (.string ⟨#[]⟩) (.int .i64 0) (.int .i64 0) (.int .i64 0) (.slice none 0 0) (.slice none 0 0) (.int .i64 0) (.int .i64 0) (.int .i64 0) (.int .i64 0) (.int .i64 (j2:Nat)) (.int .i64 (er:Nat)))
        generalize aO W7 B (.int .i64 0) (.string ⟨#[]⟩) (.int .i64 0) (.int .i64 0) (.int .i64 0) (.slice none 0 0) (.slice none 0 0) (.int .i64 0) (.int .i64 0) (.int .i64 0) (.int .i64 0) (.int .i64 (j2:Nat)) (.int .i64 (er:Nat))=wf at *
        refine bodyPost_ret (by simp [results,Tryz.results122,go_sem,f0,f1,f2,f3,f4,f5,f6,f7,f8,f9,f10,f11,f12];rfl) rfl ?_
        rw [Vo.out,sN.out,Wj cs h8 hn1 hr2,show vC ts i (.inr (j2,er))=.inr (j2,er) from rfl]
        exact ⟨rfl,dN⟩
       | inl y =>
        obtain ⟨⟨h2,rX⟩,x2,j2⟩:=y
        rw [hr2] at HC HI2
        have hj2:j+1 < j2/\j2 < ts.length:=HI2
        have HC2:=hid HC
        clear HC HI2
        go_wp2_with fail
        refine HC2.out.mono ?_;rintro e w6 ⟨p1,m1,d1,p2,m2,d2,rfl,hs3,hs4,hq6⟩
        obtain ⟨W7,zW⟩:∃ W7,W7=w6.alloc (.cells (c13 h2 p1 m1 d1 p2 m2 d2 x2 (j2:Nat) 0) 129):=⟨_,rfl⟩
        have hqa:ah w6 W7:=by rw [zW];exact ah.alloc _ _
        have hr7:W7.heap[w6.heap.size]?=some (.cells (c13 h2 p1 m1 d1 p2 m2 d2 x2 (j2:Nat) 0) 129 (0,0)):=by rw [zW];exact heap_alloc_new w6 _
        have wX:=hid (DW.out.stay (hq6.trans hqa))
        have Wp:=lt_of_block DW.out.t
        have YR:=lt_of_block DW.out.r
        have hg5:g4 < wr.heap.size:=(DW.out.row.own.lt g4 rfl).2
        have HS3:Hid (aC (fun b=>(B+1<=b/\b≠rb/\b≠tb)/\(Value.slice (some ⟨g4,0,none⟩) ps.length c4).ownBlock≠some b) W7 p1 m1 h2.tp):=hs3.fr hqa (fun b _ k=>⟨by have k':wr.heap.size<=b:=k;exact ⟨⟨by omega,by omega,by omega⟩,fun e=>by simp [Value.ownBlock] at e;omega⟩,fun h=>h⟩)
        have Wh:Hid (aY (fun b=>(B+1<=b/\b≠rb/\b≠tb)/\(Value.slice (some ⟨g4,0,none⟩) ps.length c4).ownBlock≠some b) W7 p2 m2 rX):=hs4.fr hqa (fun b _ k=>⟨by have k':wr.heap.size<=b:=k;exact ⟨⟨by omega,by omega,by omega⟩,fun e=>by simp [Value.ownBlock] at e;omega⟩,fun h=>h⟩)
        go_upto_region 18 with fail
        change Code.wp _ _ _ _ (w6.alloc (.cells (c13 h2 p1 m1 d1 p2 m2 d2 x2 (j2:Nat) 0) 129))
        rw [<-zW]
        have hz6:=hq6.size
        have hqt:tb < w6.heap.size:=by omega
        have hqg:g4 < w6.heap.size:=by omega
        clear zW hqa hq6 HC2 hs3 hs4 Wp YR hg5 hz6 t0 t1 t2 t3 t4 t5 t6 t7 t8 u0 u1 u2 u3 u4 u5 u6 u7 u8
        generalize w6.heap.size=qb at *
        have MN:=wX.out.t
        have HR7:=hid hr7
        obtain ⟨⟨t0,t1,t2,t3,t4,t5,t6,t7,t8⟩,u0,u1,u2,u3,u4,u5,u6,u7,u8⟩:=aT MN
        obtain ⟨q0,q1,q2,q3,q4,q5,q6,q7,q8,q9,q10,q11,q12⟩:=aG hr7
        clear MN hr7
        go_wp2_with (at_builtin;go_must (refine aP W7 rfl (.tmp 77) (.tmp 80) 25 rfl 29 _ 9 112 vU (.slice (some ⟨g4,0,none⟩) ps.length c4) ps.length xs rfl wX.out.row.own (cells9 h2 p1 m1 d1 p2 m2 d2) rfl rfl (by simp [Value.oneCell']) (by unfold maxLen;omega) (by omega) ?_))
        intro g5 c5 w8 ho JD BL
        have hlow:=wX.out.row.low g4 rfl
        have YT:∀ b,(Value.slice (some ⟨g4,0,none⟩) ps.length c4).ownBlock=some b->b=g4:=fun b e=>by simp [Value.ownBlock] at e;exact e.symm
        have O7:=ay JD (fun e=>hlow.2.2 (YT _ e).symm) wX.out.t
        have RU:=ay JD (fun e=>by have:=YT _ e;omega) HR7.out
        clear t0 t1 t2 t3 t4 t5 t6 t7 t8 u0 u1 u2 u3 u4 u5 u6 u7 u8 q0 q1 q2 q3 q4 q5 q6 q7 q8 q9 q10 q11 q12
        obtain ⟨⟨t0,t1,t2,t3,t4,t5,t6,t7,t8⟩,u0,u1,u2,u3,u4,u5,u6,u7,u8⟩:=aT O7
        go_upto_region 19 with fail
        have YU:=hid (wX.out.next hBr hrt hwr HS3.out Wh.out ho JD BL (by omega) rfl)
        have Aq:=ay (Fr.setCell (fun b=>b=tb) w8 ⟨tb,6,none⟩ (.slice (some ⟨g5,0,none⟩) (ps.length+1) c5) rfl) (by omega) RU
        clear t0 t1 t2 t3 t4 t5 t6 t7 t8 u0 u1 u2 u3 u4 u5 u6 u7 u8 O7 RU ho JD BL YT
        change Code.wp _ _ _ _ (w8.setCell ⟨tb,6,none⟩ (.slice (some ⟨g5,0,none⟩) (ps.length+1) c5))
        generalize w8.setCell ⟨tb,6,none⟩ (.slice (some ⟨g5,0,none⟩) (ps.length+1) c5)=W9 at *
        obtain ⟨q0,q1,q2,q3,q4,q5,q6,q7,q8,q9,q10,q11,q12⟩:=aG Aq
        clear Aq
        have hlen:(ps.app (.cons h2 rX .nil)).length=ps.length+1:=by rw [To.bP];simp [To.length]
        go_wp2_with fail
        go_roundw
        case rel=>exact ⟨_,g5,c5,_,j2,n - 1,rfl,hj2.2,YU.out,by omega,by omega,by omega,fun e=>by omega,by rw [sN.out,Sm cs h8 hn1 hr2]⟩
        case measure=>simp [intOf];omega
  case rest =>
   rename World=>wx
   obtain ⟨k,tk,tn,tp,po,pl,pc,ps,g4,c4,xs,j,rfl,hj,hbw,hfe⟩:=hcut
   have HB:=hid hbw
   have sN:=hid hfe
   clear hbw hfe MC bJ
   go_wp2_with fail
   refine (acL.out j wx HB.out.q).mono ?_;rintro e w4 ⟨rfl,rfl⟩
   cases cc:bY ts j 4 jB
   case false =>
    have KA:=hid (kM (j:Int) 3 wx)
    go_wp2_with fail
    refine KA.out.mono ?_;rintro e w8 ⟨rfl,hq8⟩
    have G5:=hid (HB.out.stay hq8)
    have hb8:=G5.out.b
    clear hq8
    obtain ⟨x0,x1,x2,x3,x4,x5,x6,x7,x8,x9,x10,x11,x12⟩:=aG hb8
    have y0:=au hb8 0
    have y1:=au hb8 1
    have y2:=au hb8 2
    have y3:=au hb8 3
    have y4:=au hb8 4
    have y5:=au hb8 5
    have y6:=au hb8 6
    have y7:=au hb8 7
    have y8:=au hb8 8
    have y9:=au hb8 9
    have yI:=au hb8 10
    have yJ:=au hb8 11
    have yK:=au hb8 12
    clear hb8
    go_wp2_with fail
    have hf:=bf w8 B (.int .i64 0) (.string ⟨#[]⟩) (.int .i64 0) (.int .i64 0) (.int .i64 0) (.slice none 0 0) (.slice none 0 0) (.int .i64 0) (.int .i64 0) (.int .i64 0) (.int .i64 0) (.int .i64 (j:Nat)) (.int .i64 3)
    have dN:ah w (aO w8 B (.int .i64 0) (.string ⟨#[]⟩) (.int .i64 0) (.int .i64 0) (.int .i64 0) (.slice none 0 0) (.slice none 0 0) (.int .i64 0) (.int .i64 0) (.int .i64 0) (.int .i64 0) (.int .i64 (j:Nat)) (.int .i64 3)):=(G5.out.q).trans' hf (fun k hk e=>by have:=bM.out;omega)
    obtain ⟨f0,f1,f2,f3,f4,f5,f6,f7,f8,f9,f10,f11,f12⟩:=aG (aN (a0:=.int .i64 0) (a1:=.string ⟨#[]⟩) (a2:=.int .i64 0) (a3:=.int .i64 0) (a4:=.int .i64 0) (a5:=.slice none 0 0) (a6:=.slice none 0 0) (a7:=.int .i64 0) (a8:=.int .i64 0) (a9:=.int .i64 0) (a10:=.int .i64 0) (a11:=.int .i64 (j:Nat)) (a12:=.int .i64 3) G5.out.b)
    change bodyPost _ _ _ _ _ (aO w8 B (.int .i64 0) (.string ⟨#[]⟩) (.int .i64 0) (.int .i64 0) (.int .i64 0) (.slice none 0 0) (.slice none 0 0) (.int .i64 0) (.int .i64 0) (.int .i64 0) (.int .i64 0) (.int .i64 (j:Nat)) (.int .i64 3))
    generalize aO w8 B (.int .i64 0) (.string ⟨#[]⟩) (.int .i64 0) (.int .i64 0) (.int .i64 0) (.slice none 0 0) (.slice none 0 0) (.int .i64 0) (.int .i64 0) (.int .i64 0) (.int .i64 0) (.int .i64 (j:Nat)) (.int .i64 3)=wf at *
    refine bodyPost_ret (by simp [results,Tryz.results122,go_sem,f0,f1,f2,f3,f4,f5,f6,f7,f8,f9,f10,f11,f12];rfl) rfl ?_
    rw [Vo.out,sN.out,show wZ ts i h qs k tk tn tp ps j=.inr (j,3) from by unfold wZ;rw [if_neg (by rw [cc];simp)]]
    exact ⟨rfl,dN⟩
   case true =>
    obtain ⟨t8,O7,_,_⟩:=Bo cc
    have hji:=(List.getElem?_eq_some_iff.1 YQ.out).1
    have HE:Hid (aV (at' ts i) (at' ts j)=aV (((t9.fr:Nat):Int),((t9.to:Nat):Int)) (((t8.fr:Nat):Int),((t8.to:Nat):Int))):=by show _=_;rw [KF YQ.out,KF O7]
    have HJ:Hid (∀ W,Calls Tryz.prog 105 #[.agg #[.int .i64 (t9.fr:Nat),.int .i64 (t9.to:Nat)],.agg #[.int .i64 (t8.fr:Nat),.int .i64 (t8.to:Nat)]] W fun e w'=>e=.returned (.agg #[.int .i64 (aV (at' ts i) (at' ts j)).1,.int .i64 (aV (at' ts i) (at' ts j)).2])/\ah W w'):=fun W=>by rw [HE.out];exact BJ _ _ _ _ W
    obtain ⟨k0,k1,k2,k3⟩:=Vq.out i t9 YQ.out wx HB.out.q
    obtain ⟨l0,l1',l2',l3⟩:=Vq.out j t8 O7 wx HB.out.q
    have hi':(i:Int) < ts.length:=by omega
    have hi0:(0:Int)<=i:=by omega
    have hj':(j:Int) < ts.length:=by omega
    have hj0:(0:Int)<=j:=by omega
    have HTJ:Hid (∀ r,wZ ts i h qs k tk tn tp ps j=r↔(if k=9/\ps.length=1 then .inl ((h,qs),aV (at' ts i) (at' ts j),j+1) else .inl ((⟨k,⟨#[]⟩,0,tk,tn,tp,(aV (at' ts i) (at' ts j)).1,(aV (at' ts i) (at' ts j)).2⟩,ps),aV (at' ts i) (at' ts j),j+1))=r):=by intro r;unfold wZ;rw [if_pos cc]
    clear O7 YQ cc HE
    generalize aV (at' ts i) (at' ts j)=jp at *
    have hqc:=ah.refl wx
    go_upto_region 22 with fail
    go_cut [101] (fun _ wx9=>ML B rb tb h qs o1 l1 c1 o2 l2 c2 x j0 w k tk tn jp.1 jp.2 tp po pl pc ps g4 c4 xs wx9)
    case first =>
     go_region_law (first
      | (go_simp;go_at_call 105;(with_reducible refine Calls.mono (HJ.out _) ?_);rintro e w7 ⟨rfl,hq7⟩;have hqw:ah wx w7:=ah.trans (by (repeat with_reducible first | exact hqc | exact ah.refl _ | refine jq ?_ | refine jr ?_)) hq7;have wX:=hid (HB.out.stay hqw);have MN:=wX.out.t;obtain ⟨⟨t0,t1,t2,t3,t4,t5,t6,t7,t8⟩,u0,u1,u2,u3,u4,u5,u6,u7,u8⟩:=aT MN;clear hqw hq7 MN)
      | fail)
     all_goals
      have JD:Fr (fun b=>b=tb) w7 ((w7.setCell ⟨tb,7,none⟩ (.int .i64 jp.1)).setCell ⟨tb,8,none⟩ (.int .i64 jp.2)):=(Fr.setCell (fun b=>b=tb) w7 ⟨tb,7,none⟩ (.int .i64 jp.1) rfl).trans (Fr.setCell (fun b=>b=tb) _ ⟨tb,8,none⟩ (.int .i64 jp.2) rfl)
      have HX:=hid (wX.out.aaG (tk':=tk) (tn':=tn) (tp':=tp) (k':=k) (fr':=jp.1) (en':=jp.2) (po':=po) (Kt:=pl) (pc':=pc) JD hBr hrt (by omega) (aB (i:=8) (u:=.int .i64 jp.2) (aB (i:=7) (u:=.int .i64 jp.1) wX.out.t)) (wX.out.s3.fr JD (fun b _ k=>⟨k,k.2.2⟩)))
      clear JD t0 t1 t2 t3 t4 t5 t6 t7 t8 u0 u1 u2 u3 u4 u5 u6 u7 u8
      go_wp2_with fail
      go_meet
      first
       | with_reducible exact HX.out
       | with_reducible exact HX.out.stay (ah.drew _)
       | exact HX.out
    case rest =>
     rename World=>W8
     have HX:=hid hcut
     clear hcut
     have hx8:=HX.out.t
     have hb8:=HX.out.b
     obtain ⟨⟨t0,t1,t2,t3,t4,t5,t6,t7,t8⟩,u0,u1,u2,u3,u4,u5,u6,u7,u8⟩:=aT hx8
     obtain ⟨x0,x1,x2,x3,x4,x5,x6,x7,x8,x9,x10,x11,x12⟩:=aG hb8
     have y0:=au hb8 0
     have y1:=au hb8 1
     have y2:=au hb8 2
     have y3:=au hb8 3
     have y4:=au hb8 4
     have y5:=au hb8 5
     have y6:=au hb8 6
     have y7:=au hb8 7
     have y8:=au hb8 8
     have y9:=au hb8 9
     have yI:=au hb8 10
     have yJ:=au hb8 11
     have yK:=au hb8 12
     clear hx8 hb8
     by_cases YV:k=9/\ps.length=1
     ·have hk9:(k == 9)=true:=by simp [YV.1]
      have hl1:((ps.length:Int) == 1)=true:=by simp [YV.2]
      have yh:Hid (res=.inl ((h,qs),jp,j+1)):=by show _=_;rw [Vo.out,sN.out,HTJ.out,if_pos YV]
      have RU:=HX.out.r
      obtain ⟨r0,r1,r2,r3,r4,r5,r6,r7,r8,r9,r10,r11,r12⟩:=aG RU
      clear RU YV
      go_wp2_with fail
      have hf:=bf W8 B (.int .i64 h.k) (.string h.nm) (.int .i64 h.n) (.int .i64 h.tk) (.int .i64 h.tn) (.slice o1 l1 c1) (.slice o2 l2 c2) (.int .i64 h.fr) (.int .i64 h.en) (.int .i64 jp.1) (.int .i64 jp.2) (.int .i64 ((j:Int)+1)) (.int .i64 0)
      have dN:ah w (aO W8 B (.int .i64 h.k) (.string h.nm) (.int .i64 h.n) (.int .i64 h.tk) (.int .i64 h.tn) (.slice o1 l1 c1) (.slice o2 l2 c2) (.int .i64 h.fr) (.int .i64 h.en) (.int .i64 jp.1) (.int .i64 jp.2) (.int .i64 ((j:Int)+1)) (.int .i64 0)):=(HX.out.q).trans' hf (fun k hk e=>by have:=bM.out;omega)
      obtain ⟨f0,f1,f2,f3,f4,f5,f6,f7,f8,f9,f10,f11,f12⟩:=aG (aN (a0:=.int .i64 h.k) (a1:=.string h.nm) (a2:=.int .i64 h.n) (a3:=.int .i64 h.tk) (a4:=.int .i64 h.tn) (a5:=.slice o1 l1 c1) (a6:=.slice o2 l2 c2) (a7:=.int .i64 h.fr) (a8:=.int .i64 h.en) (a9:=.int .i64 jp.1) (a10:=.int .i64 jp.2) (a11:=.int .i64 ((j:Int)+1)) (a12:=.int .i64 0) HX.out.b)
      change bodyPost _ _ _ _ _ (aO W8 B (.int .i64 h.k) (.string h.nm) (.int .i64 h.n) (.int .i64 h.tk) (.int .i64 h.tn) (.slice o1 l1 c1) (.slice o2 l2 c2) (.int .i64 h.fr) (.int .i64 h.en) (.int .i64 jp.1) (.int .i64 jp.2) (.int .i64 ((j:Int)+1)) (.int .i64 0))
      generalize aO W8 B (.int .i64 h.k) (.string h.nm) (.int .i64 h.n) (.int .i64 h.tk) (.int .i64 h.tn) (.slice o1 l1 c1) (.slice o2 l2 c2) (.int .i64 h.fr) (.int .i64 h.en) (.int .i64 jp.1) (.int .i64 jp.2) (.int .i64 ((j:Int)+1)) (.int .i64 0)=wf at *
      refine bodyPost_ret (by simp [results,Tryz.results122,go_sem,f0,f1,f2,f3,f4,f5,f6,f7,f8,f9,f10,f11,f12];rfl) rfl ?_
      rw [yh.out]
      exact ⟨o1,l1,c1,o2,l2,c2,rfl,HX.out.s1.fr hf (fun b _ k=>⟨by have:=bM.out;have:=k.1;show w.heap.size<=b;omega,by have:=k.1;omega⟩),HX.out.s2.fr hf (fun b _ k=>⟨by have:=bM.out;have:=k.1;show w.heap.size<=b;omega,by have:=k.1;omega⟩),dN⟩
     ·have yh:Hid (res=.inl ((⟨k,⟨#[]⟩,0,tk,tn,tp,jp.1,jp.2⟩,ps),jp,j+1)):=by show _=_;rw [Vo.out,sN.out,HTJ.out,if_neg YV]
      have HSP:=hid (HX.out.row.slc rfl (by have:=HX.out.few;unfold maxLen;omega))
      cases hk9:(k == 9)
      case' false=>skip
      case' true=>have hl1:((ps.length:Int) == 1)=false:=by (have hk:k=9:=by simpa using hk9);simp;intro e;exact YV ⟨hk,by omega⟩
      all_goals
       clear YV
       go_wp2_with fail
       have hf:=bf W8 B (.int .i64 k) (.string ⟨#[]⟩) (.int .i64 0) (.int .i64 tk) (.int .i64 tn) (.slice po pl pc) (.slice (some ⟨g4,0,none⟩) ps.length c4) (.int .i64 jp.1) (.int .i64 jp.2) (.int .i64 jp.1) (.int .i64 jp.2) (.int .i64 ((j:Int)+1)) (.int .i64 0)
       have dN:ah w (aO W8 B (.int .i64 k) (.string ⟨#[]⟩) (.int .i64 0) (.int .i64 tk) (.int .i64 tn) (.slice po pl pc) (.slice (some ⟨g4,0,none⟩) ps.length c4) (.int .i64 jp.1) (.int .i64 jp.2) (.int .i64 jp.1) (.int .i64 jp.2) (.int .i64 ((j:Int)+1)) (.int .i64 0)):=(HX.out.q).trans' hf (fun k hk e=>by have:=bM.out;omega)
       obtain ⟨f0,f1,f2,f3,f4,f5,f6,f7,f8,f9,f10,f11,f12⟩:=aG (aN (a0:=.int .i64 k) (a1:=.string ⟨#[]⟩) (a2:=.int .i64 0) (a3:=.int .i64 tk) (a4:=.int .i64 tn) (a5:=.slice po pl pc) (a6:=.slice (some ⟨g4,0,none⟩) ps.length c4) (a7:=.int .i64 jp.1) (a8:=.int .i64 jp.2) (a9:=.int .i64 jp.1) (a10:=.int .i64 jp.2) (a11:=.int .i64 ((j:Int)+1)) (a12:=.int .i64 0) HX.out.b)
       change bodyPost _ _ _ _ _ (aO W8 B (.int .i64 k) (.string ⟨#[]⟩) (.int .i64 0) (.int .i64 tk) (.int .i64 tn) (.slice po pl pc) (.slice (some ⟨g4,0,none⟩) ps.length c4) (.int .i64 jp.1) (.int .i64 jp.2) (.int .i64 jp.1) (.int .i64 jp.2) (.int .i64 ((j:Int)+1)) (.int .i64 0))
       generalize aO W8 B (.int .i64 k) (.string ⟨#[]⟩) (.int .i64 0) (.int .i64 tk) (.int .i64 tn) (.slice po pl pc) (.slice (some ⟨g4,0,none⟩) ps.length c4) (.int .i64 jp.1) (.int .i64 jp.2) (.int .i64 jp.1) (.int .i64 jp.2) (.int .i64 ((j:Int)+1)) (.int .i64 0)=wf at *
       refine bodyPost_ret (by simp [results,Tryz.results122,go_sem,f0,f1,f2,f3,f4,f5,f6,f7,f8,f9,f10,f11,f12];rfl) rfl ?_
       rw [yh.out]
       exact ⟨po,pl,pc,some ⟨g4,0,none⟩,ps.length,c4,rfl,HX.out.s3.fr hf (fun b _ k=>⟨by have:=bM.out;have:=k.1;show w.heap.size<=b;omega,by have:=k.1;omega⟩),HSP.out.fr hf (fun b _ k=>⟨by have:=bM.out;have:=k.1;show w.heap.size<=b;omega,by have:=k.1;omega⟩),dN⟩
end Pa
end
end Go.Proofs.YtcninopmelmajaaGreatDoor
