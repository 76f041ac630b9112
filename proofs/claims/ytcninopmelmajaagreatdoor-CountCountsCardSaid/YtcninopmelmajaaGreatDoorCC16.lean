/-
  Texts laid together (PaExpr, PaNext, PaApp, PaRow): laws and walks, with their conditions.
-/
import Derived.Test.YtcninopmelmajaaGreatDoorCC15
set_option maxHeartbeats 8000000
set_option maxRecDepth 1000000
namespace Go.Proofs.YtcninopmelmajaaGreatDoor
open Go.Lib (hid)
section
namespace Pa
open Go.RowKit Lx
def ExT (ts:List Tok) (g c f:Nat):Prop:=∀ (i:Nat) (ai lv mo:Int) (W:World),ai=i->i < ts.length->ny W g ts->f=(mo+1 - lv).toNat->-1000000<=lv->lv<=900000->-1000000<=mo->mo<=800000 ->
 Calls Tryz.prog 79 #[tks g ts c,.int .i64 ai,.int .i64 lv,.int .i64 mo] W (iJ W (Dz ts f i))
theorem O1 (ts:List Tok) (g c:Nat):ExT ts g c 0:=by
 intro i ai lv mo w ea hi ht hf h1 h2 h3 h4
 subst ea
 have hlt:lv > mo:=by omega
 have hlt':mo < lv:=hlt
 clear hf ht
 obtain ⟨W0,hW0⟩:∃ W0,W0=w.alloc zX:=⟨_,rfl⟩
 have aK:Hid (ah w W0):=by rw [hW0];exact ah.alloc _ _
 have HB0:Hid (W0.heap[w.heap.size]?=some (.cells (z13 0 0) 129 (0,0))):=by show _=_;rw [hW0];exact heap_alloc_new w _
 have KA:=hid (kM (i:Int) 4 W0)
 go_enter Tryz.func79,Tryz.ntmps79
 go_wp2_with fail
 rw [<-hW0]
 clear hW0
 generalize hB:w.heap.size=B at *
 have bM:=hid hB
 clear hB
 refine KA.out.mono ?_;rintro e w1 ⟨rfl,hq1⟩
 have hb1:=ay hq1 (fun h=>h) HB0.out
 have HB1:=hid hb1
 have bI:=hid (aK.out.trans hq1)
 obtain ⟨x0,x1,x2,x3,x4,x5,x6,x7,x8,x9,x10,x11,x12⟩:=aG hb1
 have y0:=au hb1 0
 have y1:=au hb1 1
 have y2:=au hb1 2
 have y3:=au hb1 3
 have y4:=au hb1 4
 have y5:=au hb1 5
 have y6:=au hb1 6
 have y7:=au hb1 7
 have y8:=au hb1 8
 have y9:=au hb1 9
 have yI:=au hb1 10
 have yJ:=au hb1 11
 have yK:=au hb1 12
 clear hb1 hq1
 go_wp2_with fail
 have hf:=bf w1 B (.int .i64 0) (.string ⟨#[]⟩) (.int .i64 0) (.int .i64 0) (.int .i64 0) (.slice none 0 0) (.slice none 0 0) (.int .i64 0) (.int .i64 0) (.int .i64 0) (.int .i64 0) (.int .i64 (i:Int)) (.int .i64 4)
 have dN:ah w (aO w1 B (.int .i64 0) (.string ⟨#[]⟩) (.int .i64 0) (.int .i64 0) (.int .i64 0) (.slice none 0 0) (.slice none 0 0) (.int .i64 0) (.int .i64 0) (.int .i64 0) (.int .i64 0) (.int .i64 (i:Int)) (.int .i64 4)):=(bI.out).trans' hf (fun k hk e=>by have:=bM.out;omega)
 obtain ⟨f0,f1,f2,f3,f4,f5,f6,f7,f8,f9,f10,f11,f12⟩:=aG (aN (a0:=.int .i64 0) (a1:=.string ⟨#[]⟩) (a2:=.int .i64 0) (a3:=.int .i64 0) (a4:=.int .i64 0) (a5:=.slice none 0 0) (a6:=.slice none 0 0) (a7:=.int .i64 0) (a8:=.int .i64 0) (a9:=.int .i64 0) (a10:=.int .i64 0) (a11:=.int .i64 (i:Int)) (a12:=.int .i64 4) HB1.out)
 change bodyPost _ _ _ _ _ (aO w1 B (.int .i64 0) (.string ⟨#[]⟩) (.int .i64 0) (.int .i64 0) (.int .i64 0) (.slice none 0 0) (.slice none 0 0) (.int .i64 0) (.int .i64 0) (.int .i64 0) (.int .i64 0) (.int .i64 (i:Int)) (.int .i64 4))
 generalize aO w1 B (.int .i64 0) (.string ⟨#[]⟩) (.int .i64 0) (.int .i64 0) (.int .i64 0) (.slice none 0 0) (.slice none 0 0) (.int .i64 0) (.int .i64 0) (.int .i64 0) (.int .i64 0) (.int .i64 (i:Int)) (.int .i64 4)=wf at *
 refine bodyPost_ret (by simp [results,Tryz.results79,go_sem,f0,f1,f2,f3,f4,f5,f6,f7,f8,f9,f10,f11,f12];rfl) rfl ?_
 exact ⟨rfl,dN⟩
def sW (ts:List Tok) (i:Nat):Bool:=bY ts i 3 sQ || bY ts i 3 Bg || bY ts i 3 wIf
theorem O4 (ts : List Tok) (g c _ : Nat) (E : Nat -> jL) (i : Nat) (lv mo : Int) (w : World) (ht : ny w g ts) (hle : lv <= mo) (hw : sW ts i = true)
    (hform:∀ W,ah w W->Calls Tryz.prog 102 #[tks g ts c,.int .i64 i,.int .i64 lv,.int .i64 mo] W (iJ W (wU E ts i))) :
    Calls Tryz.prog 79 #[tks g ts c,.int .i64 i,.int .i64 lv,.int .i64 mo] w (iJ w (wU E ts i)):=by
 have hlt:¬ lv > mo:=by omega
 have hlt':¬ mo < lv:=by omega
 obtain ⟨W0,hW0⟩:∃ W0,W0=w.alloc zX:=⟨_,rfl⟩
 have aK:Hid (ah w W0):=by rw [hW0];exact ah.alloc _ _
 have HB0:Hid (W0.heap[w.heap.size]?=some (.cells (z13 0 0) 129 (0,0))):=by show _=_;rw [hW0];exact heap_alloc_new w _
 have H1:Hid (Calls Tryz.prog 101 #[tks g ts c,.int .i64 i,.string ⟨#[102,117,110]⟩] W0 fun e w'=>e=.returned (.bool (bY ts i 3 sQ))/\W0=w'):=lC ts g c i _ W0 (ht.stay aK.out)
 have H2:Hid (Calls Tryz.prog 101 #[tks g ts c,.int .i64 i,.string ⟨#[108,101,116]⟩] W0 fun e w'=>e=.returned (.bool (bY ts i 3 Bg))/\W0=w'):=lC ts g c i _ W0 (ht.stay aK.out)
 have H3:Hid (Calls Tryz.prog 101 #[tks g ts c,.int .i64 i,.string ⟨#[105,102]⟩] W0 fun e w'=>e=.returned (.bool (bY ts i 3 wIf))/\W0=w'):=lC ts g c i _ W0 (ht.stay aK.out)
 have HF:=hid (hform W0 aK.out)
 have hz0:W0.heap.size=w.heap.size+1:=by rw [hW0];simp
 unfold sW at hw
 generalize bY ts i 3 sQ=r1 at *
 generalize bY ts i 3 Bg=r2 at *
 generalize bY ts i 3 wIf=r3 at *
 generalize wU E ts i=r at *
 clear ht hform
 go_enter Tryz.func79,Tryz.ntmps79
 go_wp2_with fail
 rw [<-hW0]
 clear hW0
 generalize hB:w.heap.size=B at *
 have bM:=hid hB
 clear hB
 refine H1.out.mono ?_;rintro e w1 ⟨rfl,rfl⟩
 cases r1
 case true =>
  go_wp2_with fail
  refine HF.out.mono ?_
  cases r with
  | inr x =>
   obtain ⟨j,er⟩:=x
   rintro e w2 ⟨rfl,hq2⟩
   have hq3:=aK.out.trans hq2
   have hb2:=ay hq2 (fun h=>h) HB0.out
   have HX0:=hid hb2
   have BK:=hid hq3
   obtain ⟨x0,x1,x2,x3,x4,x5,x6,x7,x8,x9,x10,x11,x12⟩:=aG hb2
   have y0:=au hb2 0
   have y1:=au hb2 1
   have y2:=au hb2 2
   have y3:=au hb2 3
   have y4:=au hb2 4
   have y5:=au hb2 5
   have y6:=au hb2 6
   have y7:=au hb2 7
   have y8:=au hb2 8
   have y9:=au hb2 9
   have yI:=au hb2 10
   have yJ:=au hb2 11
   have yK:=au hb2 12
   clear hb2 hq3
   go_wp2_with fail
   have hf:=bf w2 B (.int .i64 0) (.string ⟨#[]⟩) (.int .i64 0) (.int .i64 0) (.int .i64 0) (.slice none 0 0) (.slice none 0 0) (.int .i64 0) (.int .i64 0) (.int .i64 0) (.int .i64 0) (.int .i64 (j:Nat)) (.int .i64 (er:Nat))
   have dN:ah w (aO w2 B (.int .i64 0) (.string ⟨#[]⟩) (.int .i64 0) (.int .i64 0) (.int .i64 0) (.slice none 0 0) (.slice none 0 0) (.int .i64 0) (.int .i64 0) (.int .i64 0) (.int .i64 0) (.int .i64 (j:Nat)) (.int .i64 (er:Nat))):=(BK.out).trans' hf (fun k hk e=>by have:=bM.out;omega)
   obtain ⟨f0,f1,f2,f3,f4,f5,f6,f7,f8,f9,f10,f11,f12⟩:=aG (aN (a0:=.int .i64 0) (a1:=.string ⟨#[]⟩) (a2:=.int .i64 0) (a3:=.int .i64 0) (a4:=.int .i64 0) (a5:=.slice none 0 0) (a6:=.slice none 0 0) (a7:=.int .i64 0) (a8:=.int .i64 0) (a9:=.int .i64 0) (a10:=.int .i64 0) (a11:=.int .i64 (j:Nat)) (a12:=.int .i64 (er:Nat)) HX0.out)
   change bodyPost _ _ _ _ _ (aO w2 B (.int .i64 0) (.string ⟨#[]⟩) (.int .i64 0) (.int .i64 0) (.int .i64 0) (.slice none 0 0) (.slice none 0 0) (.int .i64 0) (.int .i64 0) (.int .i64 0) (.int .i64 0) (.int .i64 (j:Nat)) (.int .i64 (er:Nat)))
   generalize aO w2 B (.int .i64 0) (.string ⟨#[]⟩) (.int .i64 0) (.int .i64 0) (.int .i64 0) (.slice none 0 0) (.slice none 0 0) (.int .i64 0) (.int .i64 0) (.int .i64 0) (.int .i64 0) (.int .i64 (j:Nat)) (.int .i64 (er:Nat))=wf at *
   refine bodyPost_ret (by simp [results,Tryz.results79,go_sem,f0,f1,f2,f3,f4,f5,f6,f7,f8,f9,f10,f11,f12];rfl) rfl ?_
   exact ⟨rfl,dN⟩
  | inl x =>
   obtain ⟨⟨h,ps⟩,p,j⟩:=x
   rintro e w2 ⟨o1,l1,c1,o2,l2,c2,rfl,hs1,hs2,hq2⟩
   have nH:=hid hs1
   have HS2:=hid hs2
   clear hs1 hs2
   have hq3:=aK.out.trans hq2
   have hb2:=ay hq2 (fun h=>h) HB0.out
   have HX0:=hid hb2
   have BK:=hid hq3
   obtain ⟨x0,x1,x2,x3,x4,x5,x6,x7,x8,x9,x10,x11,x12⟩:=aG hb2
   have y0:=au hb2 0
   have y1:=au hb2 1
   have y2:=au hb2 2
   have y3:=au hb2 3
   have y4:=au hb2 4
   have y5:=au hb2 5
   have y6:=au hb2 6
   have y7:=au hb2 7
   have y8:=au hb2 8
   have y9:=au hb2 9
   have yI:=au hb2 10
   have yJ:=au hb2 11
   have yK:=au hb2 12
   clear hb2 hq3
   go_wp2_with fail
   have hf:=bf w2 B (.int .i64 h.k) (.string h.nm) (.int .i64 h.n) (.int .i64 h.tk) (.int .i64 h.tn) (.slice o1 l1 c1) (.slice o2 l2 c2) (.int .i64 h.fr) (.int .i64 h.en) (.int .i64 p.1) (.int .i64 p.2) (.int .i64 (j:Nat)) (.int .i64 0)
   have dN:ah w (aO w2 B (.int .i64 h.k) (.string h.nm) (.int .i64 h.n) (.int .i64 h.tk) (.int .i64 h.tn) (.slice o1 l1 c1) (.slice o2 l2 c2) (.int .i64 h.fr) (.int .i64 h.en) (.int .i64 p.1) (.int .i64 p.2) (.int .i64 (j:Nat)) (.int .i64 0)):=(BK.out).trans' hf (fun k hk e=>by have:=bM.out;omega)
   obtain ⟨f0,f1,f2,f3,f4,f5,f6,f7,f8,f9,f10,f11,f12⟩:=aG (aN (a0:=.int .i64 h.k) (a1:=.string h.nm) (a2:=.int .i64 h.n) (a3:=.int .i64 h.tk) (a4:=.int .i64 h.tn) (a5:=.slice o1 l1 c1) (a6:=.slice o2 l2 c2) (a7:=.int .i64 h.fr) (a8:=.int .i64 h.en) (a9:=.int .i64 p.1) (a10:=.int .i64 p.2) (a11:=.int .i64 (j:Nat)) (a12:=.int .i64 0) HX0.out)
   change bodyPost _ _ _ _ _ (aO w2 B (.int .i64 h.k) (.string h.nm) (.int .i64 h.n) (.int .i64 h.tk) (.int .i64 h.tn) (.slice o1 l1 c1) (.slice o2 l2 c2) (.int .i64 h.fr) (.int .i64 h.en) (.int .i64 p.1) (.int .i64 p.2) (.int .i64 (j:Nat)) (.int .i64 0))
   generalize aO w2 B (.int .i64 h.k) (.string h.nm) (.int .i64 h.n) (.int .i64 h.tk) (.int .i64 h.tn) (.slice o1 l1 c1) (.slice o2 l2 c2) (.int .i64 h.fr) (.int .i64 h.en) (.int .i64 p.1) (.int .i64 p.2) (.int .i64 (j:Nat)) (.int .i64 0)=wf at *
   refine bodyPost_ret (by simp [results,Tryz.results79,go_sem,f0,f1,f2,f3,f4,f5,f6,f7,f8,f9,f10,f11,f12];rfl) rfl ?_
   exact ⟨o1,l1,c1,o2,l2,c2,rfl,nH.out.fr hf (fun b _ h=>⟨by have h':W0.heap.size<=b:=h;have:=bM.out;show w.heap.size<=b;omega,by have h':W0.heap.size<=b:=h;omega⟩),HS2.out.fr hf (fun b _ h=>⟨by have h':W0.heap.size<=b:=h;have:=bM.out;show w.heap.size<=b;omega,by have h':W0.heap.size<=b:=h;omega⟩),dN⟩
 case false =>
  go_wp2_with fail
  refine H2.out.mono ?_;rintro e w1 ⟨rfl,rfl⟩
  cases r2
  case true =>
   go_wp2_with fail
   refine HF.out.mono ?_
   cases r with
   | inr x =>
    obtain ⟨j,er⟩:=x
    rintro e w2 ⟨rfl,hq2⟩
    have hq3:=aK.out.trans hq2
    have hb2:=ay hq2 (fun h=>h) HB0.out
    have HX0:=hid hb2
    have BK:=hid hq3
    obtain ⟨x0,x1,x2,x3,x4,x5,x6,x7,x8,x9,x10,x11,x12⟩:=aG hb2
    have y0:=au hb2 0
    have y1:=au hb2 1
    have y2:=au hb2 2
    have y3:=au hb2 3
    have y4:=au hb2 4
    have y5:=au hb2 5
    have y6:=au hb2 6
    have y7:=au hb2 7
    have y8:=au hb2 8
    have y9:=au hb2 9
    have yI:=au hb2 10
    have yJ:=au hb2 11
    have yK:=au hb2 12
    clear hb2 hq3
    go_wp2_with fail
    have hf:=bf w2 B (.int .i64 0) (.string ⟨#[]⟩) (.int .i64 0) (.int .i64 0) (.int .i64 0) (.slice none 0 0) (.slice none 0 0) (.int .i64 0) (.int .i64 0) (.int .i64 0) (.int .i64 0) (.int .i64 (j:Nat)) (.int .i64 (er:Nat))
    have dN:ah w (aO w2 B (.int .i64 0) (.string ⟨#[]⟩) (.int .i64 0) (.int .i64 0) (.int .i64 0) (.slice none 0 0) (.slice none 0 0) (.int .i64 0) (.int .i64 0) (.int .i64 0) (.int .i64 0) (.int .i64 (j:Nat)) (.int .i64 (er:Nat))):=(BK.out).trans' hf (fun k hk e=>by have:=bM.out;omega)
    obtain ⟨f0,f1,f2,f3,f4,f5,f6,f7,f8,f9,f10,f11,f12⟩:=aG (aN (a0:=.int .i64 0) (a1:=.string ⟨#[]⟩) (a2:=.int .i64 0) (a3:=.int .i64 0) (a4:=.int .i64 0) (a5:=.slice none 0 0) (a6:=.slice none 0 0) (a7:=.int .i64 0) (a8:=.int .i64 0) (a9:=.int .i64 0) (a10:=.int .i64 0) (a11:=.int .i64 (j:Nat)) (a12:=.int .i64 (er:Nat)) HX0.out)
    change bodyPost _ _ _ _ _ (aO w2 B (.int .i64 0) (.string ⟨#[]⟩) (.int .i64 0) (.int .i64 0) (.int .i64 0) (.slice none 0 0) (.slice none 0 0) (.int .i64 0) (.int .i64 0) (.int .i64 0) (.int .i64 0) (.int .i64 (j:Nat)) (.int .i64 (er:Nat)))
    generalize aO w2 B (.int .i64 0) (.string ⟨#[]⟩) (.int .i64 0) (.int .i64 0) (.int .i64 0) (.slice none 0 0) (.slice none 0 0) (.int .i64 0) (.int .i64 0) (.int .i64 0) (.int .i64 0) (.int .i64 (j:Nat)) (.int .i64 (er:Nat))=wf at *
    refine bodyPost_ret (by simp [results,Tryz.results79,go_sem,f0,f1,f2,f3,f4,f5,f6,f7,f8,f9,f10,f11,f12];rfl) rfl ?_
    exact ⟨rfl,dN⟩
   | inl x =>
    obtain ⟨⟨h,ps⟩,p,j⟩:=x
    rintro e w2 ⟨o1,l1,c1,o2,l2,c2,rfl,hs1,hs2,hq2⟩
    have nH:=hid hs1
    have HS2:=hid hs2
    clear hs1 hs2
    have hq3:=aK.out.trans hq2
    have hb2:=ay hq2 (fun h=>h) HB0.out
    have HX0:=hid hb2
    have BK:=hid hq3
    obtain ⟨x0,x1,x2,x3,x4,x5,x6,x7,x8,x9,x10,x11,x12⟩:=aG hb2
    have y0:=au hb2 0
    have y1:=au hb2 1
    have y2:=au hb2 2
    have y3:=au hb2 3
    have y4:=au hb2 4
    have y5:=au hb2 5
    have y6:=au hb2 6
    have y7:=au hb2 7
    have y8:=au hb2 8
    have y9:=au hb2 9
    have yI:=au hb2 10
    have yJ:=au hb2 11
    have yK:=au hb2 12
    clear hb2 hq3
    go_wp2_with fail
    have hf:=bf w2 B (.int .i64 h.k) (.string h.nm) (.int .i64 h.n) (.int .i64 h.tk) (.int .i64 h.tn) (.slice o1 l1 c1) (.slice o2 l2 c2) (.int .i64 h.fr) (.int .i64 h.en) (.int .i64 p.1) (.int .i64 p.2) (.int .i64 (j:Nat)) (.int .i64 0)
    have dN:ah w (aO w2 B (.int .i64 h.k) (.string h.nm) (.int .i64 h.n) (.int .i64 h.tk) (.int .i64 h.tn) (.slice o1 l1 c1) (.slice o2 l2 c2) (.int .i64 h.fr) (.int .i64 h.en) (.int .i64 p.1) (.int .i64 p.2) (.int .i64 (j:Nat)) (.int .i64 0)):=(BK.out).trans' hf (fun k hk e=>by have:=bM.out;omega)
    obtain ⟨f0,f1,f2,f3,f4,f5,f6,f7,f8,f9,f10,f11,f12⟩:=aG (aN (a0:=.int .i64 h.k) (a1:=.string h.nm) (a2:=.int .i64 h.n) (a3:=.int .i64 h.tk) (a4:=.int .i64 h.tn) (a5:=.slice o1 l1 c1) (a6:=.slice o2 l2 c2) (a7:=.int .i64 h.fr) (a8:=.int .i64 h.en) (a9:=.int .i64 p.1) (a10:=.int .i64 p.2) (a11:=.int .i64 (j:Nat)) (a12:=.int .i64 0) HX0.out)
    change bodyPost _ _ _ _ _ (aO w2 B (.int .i64 h.k) (.string h.nm) (.int .i64 h.n) (.int .i64 h.tk) (.int .i64 h.tn) (.slice o1 l1 c1) (.slice o2 l2 c2) (.int .i64 h.fr) (.int .i64 h.en) (.int .i64 p.1) (.int .i64 p.2) (.int .i64 (j:Nat)) (.int .i64 0))
    generalize aO w2 B (.int .i64 h.k) (.string h.nm) (.int .i64 h.n) (.int .i64 h.tk) (.int .i64 h.tn) (.slice o1 l1 c1) (.slice o2 l2 c2) (.int .i64 h.fr) (.int .i64 h.en) (.int .i64 p.1) (.int .i64 p.2) (.int .i64 (j:Nat)) (.int .i64 0)=wf at *
    refine bodyPost_ret (by simp [results,Tryz.results79,go_sem,f0,f1,f2,f3,f4,f5,f6,f7,f8,f9,f10,f11,f12];rfl) rfl ?_
    exact ⟨o1,l1,c1,o2,l2,c2,rfl,nH.out.fr hf (fun b _ h=>⟨by have h':W0.heap.size<=b:=h;have:=bM.out;show w.heap.size<=b;omega,by have h':W0.heap.size<=b:=h;omega⟩),HS2.out.fr hf (fun b _ h=>⟨by have h':W0.heap.size<=b:=h;have:=bM.out;show w.heap.size<=b;omega,by have h':W0.heap.size<=b:=h;omega⟩),dN⟩
  case false =>
   go_wp2_with fail
   refine H3.out.mono ?_;rintro e w1 ⟨rfl,rfl⟩
   cases r3
   case true =>
    go_wp2_with fail
    refine HF.out.mono ?_
    cases r with
    | inr x =>
     obtain ⟨j,er⟩:=x
     rintro e w2 ⟨rfl,hq2⟩
     have hq3:=aK.out.trans hq2
     have hb2:=ay hq2 (fun h=>h) HB0.out
     have HX0:=hid hb2
     have BK:=hid hq3
     obtain ⟨x0,x1,x2,x3,x4,x5,x6,x7,x8,x9,x10,x11,x12⟩:=aG hb2
     have y0:=au hb2 0
     have y1:=au hb2 1
     have y2:=au hb2 2
     have y3:=au hb2 3
     have y4:=au hb2 4
     have y5:=au hb2 5
     have y6:=au hb2 6
     have y7:=au hb2 7
     have y8:=au hb2 8
     have y9:=au hb2 9
     have yI:=au hb2 10
     have yJ:=au hb2 11
     have yK:=au hb2 12
     clear hb2 hq3
     go_wp2_with fail
     have hf:=bf w2 B (.int .i64 0) (.string ⟨#[]⟩) (.int .i64 0) (.int .i64 0) (.int .i64 0) (.slice none 0 0) (.slice none 0 0) (.int .i64 0) (.int .i64 0) (.int .i64 0) (.int .i64 0) (.int .i64 (j:Nat)) (.int .i64 (er:Nat))
     have dN:ah w (aO w2 B (.int .i64 0) (.string ⟨#[]⟩) (.int .i64 0) (.int .i64 0) (.int .i64 0) (.slice none 0 0) (.slice none 0 0) (.int .i64 0) (.int .i64 0) (.int .i64 0) (.int .i64 0) (.int .i64 (j:Nat)) (.int .i64 (er:Nat))):=(BK.out).trans' hf (fun k hk e=>by have:=bM.out;omega)
     obtain ⟨f0,f1,f2,f3,f4,f5,f6,f7,f8,f9,f10,f11,f12⟩:=aG (aN (a0:=.int .i64 0) (a1:=.string ⟨#[]⟩) (a2:=.int .i64 0) (a3:=.int .i64 0) (a4:=.int .i64 0) (a5:=.slice none 0 0) (a6:=.slice none 0 0) (a7:=.int .i64 0) (a8:=.int .i64 0) (a9:=.int .i64 0) (a10:=.int .i64 0) (a11:=.int .i64 (j:Nat)) (a12:=.int .i64 (er:Nat)) HX0.out)
     change bodyPost _ _ _ _ _ (aO w2 B (.int .i64 0) (.string ⟨#[]⟩) (.int .i64 0) (.int .i64 0) (.int .i64 0) (.slice none 0 0) (.slice none 0 0) (.int .i64 0) (.int .i64 0) (.int .i64 0) (.int .i64 0) (.int .i64 (j:Nat)) (.int .i64 (er:Nat)))
     generalize aO w2 B (.int .i64 0) (.string ⟨#[]⟩) (.int .i64 0) (.int .i64 0) (.int .i64 0) (.slice none 0 0) (.slice none 0 0) (.int .i64 0) (.int .i64 0) (.int .i64 0) (.int .i64 0) (.int .i64 (j:Nat)) (.int .i64 (er:Nat))=wf at *
     refine bodyPost_ret (by simp [results,Tryz.results79,go_sem,f0,f1,f2,f3,f4,f5,f6,f7,f8,f9,f10,f11,f12];rfl) rfl ?_
     exact ⟨rfl,dN⟩
    | inl x =>
     obtain ⟨⟨h,ps⟩,p,j⟩:=x
     rintro e w2 ⟨o1,l1,c1,o2,l2,c2,rfl,hs1,hs2,hq2⟩
     have nH:=hid hs1
     have HS2:=hid hs2
     clear hs1 hs2
     have hq3:=aK.out.trans hq2
     have hb2:=ay hq2 (fun h=>h) HB0.out
     have HX0:=hid hb2
     have BK:=hid hq3
     obtain ⟨x0,x1,x2,x3,x4,x5,x6,x7,x8,x9,x10,x11,x12⟩:=aG hb2
     have y0:=au hb2 0
     have y1:=au hb2 1
     have y2:=au hb2 2
     have y3:=au hb2 3
     have y4:=au hb2 4
     have y5:=au hb2 5
     have y6:=au hb2 6
     have y7:=au hb2 7
     have y8:=au hb2 8
     have y9:=au hb2 9
     have yI:=au hb2 10
     have yJ:=au hb2 11
     have yK:=au hb2 12
     clear hb2 hq3
     go_wp2_with fail
     have hf:=bf w2 B (.int .i64 h.k) (.string h.nm) (.int .i64 h.n) (.int .i64 h.tk) (.int .i64 h.tn) (.slice o1 l1 c1) (.slice o2 l2 c2) (.int .i64 h.fr) (.int .i64 h.en) (.int .i64 p.1) (.int .i64 p.2) (.int .i64 (j:Nat)) (.int .i64 0)
     have dN:ah w (aO w2 B (.int .i64 h.k) (.string h.nm) (.int .i64 h.n) (.int .i64 h.tk) (.int .i64 h.tn) (.slice o1 l1 c1) (.slice o2 l2 c2) (.int .i64 h.fr) (.int .i64 h.en) (.int .i64 p.1) (.int .i64 p.2) (.int .i64 (j:Nat)) (.int .i64 0)):=(BK.out).trans' hf (fun k hk e=>by have:=bM.out;omega)
     obtain ⟨f0,f1,f2,f3,f4,f5,f6,f7,f8,f9,f10,f11,f12⟩:=aG (aN (a0:=.int .i64 h.k) (a1:=.string h.nm) (a2:=.int .i64 h.n) (a3:=.int .i64 h.tk) (a4:=.int .i64 h.tn) (a5:=.slice o1 l1 c1) (a6:=.slice o2 l2 c2) (a7:=.int .i64 h.fr) (a8:=.int .i64 h.en) (a9:=.int .i64 p.1) (a10:=.int .i64 p.2) (a11:=.int .i64 (j:Nat)) (a12:=.int .i64 0) HX0.out)
     change bodyPost _ _ _ _ _ (aO w2 B (.int .i64 h.k) (.string h.nm) (.int .i64 h.n) (.int .i64 h.tk) (.int .i64 h.tn) (.slice o1 l1 c1) (.slice o2 l2 c2) (.int .i64 h.fr) (.int .i64 h.en) (.int .i64 p.1) (.int .i64 p.2) (.int .i64 (j:Nat)) (.int .i64 0))
     generalize aO w2 B (.int .i64 h.k) (.string h.nm) (.int .i64 h.n) (.int .i64 h.tk) (.int .i64 h.tn) (.slice o1 l1 c1) (.slice o2 l2 c2) (.int .i64 h.fr) (.int .i64 h.en) (.int .i64 p.1) (.int .i64 p.2) (.int .i64 (j:Nat)) (.int .i64 0)=wf at *
     refine bodyPost_ret (by simp [results,Tryz.results79,go_sem,f0,f1,f2,f3,f4,f5,f6,f7,f8,f9,f10,f11,f12];rfl) rfl ?_
     exact ⟨o1,l1,c1,o2,l2,c2,rfl,nH.out.fr hf (fun b _ h=>⟨by have h':W0.heap.size<=b:=h;have:=bM.out;show w.heap.size<=b;omega,by have h':W0.heap.size<=b:=h;omega⟩),HS2.out.fr hf (fun b _ h=>⟨by have h':W0.heap.size<=b:=h;have:=bM.out;show w.heap.size<=b;omega,by have h':W0.heap.size<=b:=h;omega⟩),dN⟩
   case false=>simp at hw
end Pa
end
section
namespace Pa
open Go.RowKit Lx
def RY (E:Nat->jL) (T:Nat->nI) (ts:List Tok) (fin:jL) (w:World) (B rb:Nat) (wx:World):Prop :=
 ∃ (h:Nd) (qs:To) (x:Pt) (j n:Nat) (o1:Option Addr) (l1 c1:Nat) (o2:Option Addr) (l2 c2:Nat),
  wx.heap[rb]?=some (.cells (c13 h o1 l1 c1 o2 l2 c2 x (j:Nat) 0) 129 (0,0))/\aC (fun b=>B+1<=b/\b≠rb) wx o1 l1 h.tp/\aY (fun b=>B+1<=b/\b≠rb) wx o2 l2 qs /\
  wx.heap[B]?=some (.cells (z13 0 0) 129 (0,0))/\j < ts.length/\ts.length < j+n/\wS E T ts n (h,qs) x j=fin/\ah w wx
def KD (rb:Nat) (w:World):Nat:=match w.cell? ⟨rb,11,none⟩ with
 | some (.int _ j)=>j.toNat
 | _=>0
theorem MK {rb j:Nat} {w:World} {k:IntKind} (h:w.cell? ⟨rb,11,none⟩=some (.int k (j:Nat))):KD rb w=j:=by unfold KD;rw [h];simp
theorem RZ {E:Nat->jL} {T:Nat->nI} {ts:List Tok} {n:Nat} {t:Nd × To} {x:Pt} {j:Nat} (h:nR ts j=false):wS E T ts n t x j=.inl (t,x,j):=by
 cases n with
 | zero=>rfl
 | succ n=>unfold wS;rw [if_neg (by rw [h];simp)]
theorem V9 {E:Nat->jL} {T:Nat->nI} {ts:List Tok} {n:Nat} {t:Nd × To} {x:Pt} {j:Nat} {e:Nat × Nat} (h:nR ts j=true) (hn:1<=n) (ha:jf E T ts j=.inr e):wS E T ts n t x j=.inr e:=by
 obtain ⟨m,rfl⟩:∃ m,n=m+1:=⟨n - 1,by omega⟩
 unfold wS;rw [if_pos h,ha]
theorem Si {E : Nat -> jL} {T : Nat -> nI} {ts : List Tok} {n : Nat} {h : Nd} {qs : To} {x : Pt} {j : Nat} {h2 : Nd} {rX : To} {x2 : Pt} {j2 : Nat} (hb : nR ts j = true) (hn : 1 <= n) (ha : jf E T ts j = .inl ((h2, rX), x2, j2)) :
    wS E T ts n (h,qs) x j=wS E T ts (n - 1) (nd 5 [] 0 (aV x x2),.cons h qs (.cons h2 rX .nil)) (aV x x2) j2:=by
 obtain ⟨m,rfl⟩:∃ m,n=m+1:=⟨n - 1,by omega⟩
 conv=>lhs;unfold wS
 rw [if_pos hb,ha];rfl
theorem Sj {E : Nat -> jL} {T : Nat -> nI} {ts : List Tok} {fin : jL} {w W9 : World} {B rb g8 : Nat} {h h2 : Nd} {qs rX : To} {x x2 : Pt} {j j2 n : Nat} {o1 : Option Addr} {l1 c1 : Nat} {o2 : Option Addr} {l2 c2 : Nat} {p1 : Option Addr} {m1 d1 : Nat} {p2 : Option Addr} {m2 d2 : Nat}
    (Aq:W9.heap[rb]?=some (.cells (c13 h o1 l1 c1 o2 l2 c2 x (j:Nat) 0) 129 (0,0))) (hrow:W9.heap[g8]?=some (.cells #[.int .i64 h.k,.string h.nm,.int .i64 h.n,.int .i64 h.tk,.int .i64 h.tn,.slice o1 l1 c1,.slice o2 l2 c2,.int .i64 h.fr,.int .i64 h.en,.int .i64 h2.k,.string h2.nm,.int .i64 h2.n,.int .i64 h2.tk,.int .i64 h2.tn,.slice p1 m1 d1,.slice p2 m2 d2,.int .i64 h2.fr,.int .i64 h2.en] 29 (0,0))) (hg1:B+1<=g8) (hg2:g8≠rb)
    (a1:aC (fun b=>B+1<=b/\b≠rb) W9 o1 l1 h.tp) (a2:aY (fun b=>B+1<=b/\b≠rb) W9 o2 l2 qs) (a3:aC (fun b=>B+1<=b/\b≠rb) W9 p1 m1 h2.tp) (a4:aY (fun b=>B+1<=b/\b≠rb) W9 p2 m2 rX)
    (hbb:W9.heap[B]?=some (.cells (z13 0 0) 129 (0,0))) (hbr:B+1<=rb) (hwB:w.heap.size<=B) (hj:j2 < ts.length) (hn:ts.length < j2+n) (happ:wS E T ts n (nd 5 [] 0 (aV x x2),.cons h qs (.cons h2 rX .nil)) (aV x x2) j2=fin) (hq:ah w W9) :
    RY E T ts fin w B rb (aO W9 rb (.int .i64 5) (.string ⟨#[]⟩) (.int .i64 0) (.int .i64 0) (.int .i64 0) (.slice none 0 0) (.slice (some ⟨g8,0,none⟩) 2 2) (.int .i64 (aV x x2).1) (.int .i64 (aV x x2).2) (.int .i64 (aV x x2).1) (.int .i64 (aV x x2).2) (.int .i64 (j2:Nat)) (.int .i64 0)):=by
 have hf:=bf W9 rb (.int .i64 5) (.string ⟨#[]⟩) (.int .i64 0) (.int .i64 0) (.int .i64 0) (.slice none 0 0) (.slice (some ⟨g8,0,none⟩) 2 2) (.int .i64 (aV x x2).1) (.int .i64 (aV x x2).2) (.int .i64 (aV x x2).1) (.int .i64 (aV x x2).2) (.int .i64 (j2:Nat)) (.int .i64 0)
 have hblk:=aN (a0:=.int .i64 5) (a1:=.string ⟨#[]⟩) (a2:=.int .i64 0) (a3:=.int .i64 0) (a4:=.int .i64 0) (a5:=.slice none 0 0) (a6:=.slice (some ⟨g8,0,none⟩) 2 2) (a7:=.int .i64 (aV x x2).1) (a8:=.int .i64 (aV x x2).2) (a9:=.int .i64 (aV x x2).1) (a10:=.int .i64 (aV x x2).2) (a11:=.int .i64 (j2:Nat)) (a12:=.int .i64 0) Aq
 have hrow2:=ay hf hg2 hrow
 have hst:∀ k,k < W9.heap.size->(B+1<=k/\k≠rb)->((B+1<=k/\k≠rb)/\¬ k=rb):=fun k _ h=>⟨h,h.2⟩
 have b1:=a1.fr hf hst
 have b2:=a2.fr hf hst
 have b3:=a3.fr hf hst
 have b4:=a4.fr hf hst
 have hbf:=ay hf (by omega) hbb
 have dN:=hq.trans' hf (fun k hk e=>by omega)
 generalize aO W9 rb (.int .i64 5) (.string ⟨#[]⟩) (.int .i64 0) (.int .i64 0) (.int .i64 0) (.slice none 0 0) (.slice (some ⟨g8,0,none⟩) 2 2) (.int .i64 (aV x x2).1) (.int .i64 (aV x x2).2) (.int .i64 (aV x x2).1) (.int .i64 (aV x x2).2) (.int .i64 (j2:Nat)) (.int .i64 0)=wf at *
 refine ⟨nd 5 [] 0 (aV x x2),.cons h qs (.cons h2 rX .nil),aV x x2,j2,n,none,0,0,some ⟨g8,0,none⟩,2,2,hblk,aC.nil _ _ _,⟨rfl,by decide,fun _=>⟨g8,0,rfl,?_⟩⟩,hbf,hj,hn,happ,dN⟩
 refine ku.at ⟨hg1,hg2⟩ _ ((cells9 h o1 l1 c1 o2 l2 c2).toList++((cells9 h2 p1 m1 d1 p2 m2 d2).toList++[])) 0 ⟨o1,l1,c1,o2,l2,c2,_,rfl,b1,b2,p1,m1,d1,p2,m2,d2,[],rfl,b3,b4,rfl⟩ ?_
 intro k u hu
 rw [Nat.zero_add,cell_of_row _ _ _ _ _ (0,0) hrow2]
 simpa using hu
theorem YG {W9:World} {rb g8:Nat} {h:Nd} {x x2:Pt} {j j2:Nat} {o1:Option Addr} {l1 c1:Nat} {o2:Option Addr} {l2 c2:Nat} (Aq:W9.heap[rb]?=some (.cells (c13 h o1 l1 c1 o2 l2 c2 x (j:Nat) 0) 129 (0,0))):KD rb (aO W9 rb (.int .i64 5) (.string ⟨#[]⟩) (.int .i64 0) (.int .i64 0) (.int .i64 0) (.slice none 0 0) (.slice (some ⟨g8,0,none⟩) 2 2) (.int .i64 (aV x x2).1) (.int .i64 (aV x x2).2) (.int .i64 (aV x x2).1) (.int .i64 (aV x x2).2) (.int .i64 (j2:Nat)) (.int .i64 0))=j2:=by
 have hblk:=aN (a0:=.int .i64 5) (a1:=.string ⟨#[]⟩) (a2:=.int .i64 0) (a3:=.int .i64 0) (a4:=.int .i64 0) (a5:=.slice none 0 0) (a6:=.slice (some ⟨g8,0,none⟩) 2 2) (a7:=.int .i64 (aV x x2).1) (a8:=.int .i64 (aV x x2).2) (a9:=.int .i64 (aV x x2).1) (a10:=.int .i64 (aV x x2).2) (a11:=.int .i64 (j2:Nat)) (a12:=.int .i64 0) Aq
 exact MK (aG hblk).2.2.2.2.2.2.2.2.2.2.2.1
end Pa
end
section
namespace Pa
open Go.RowKit Lx
theorem KE (ts : List Tok) (g c : Nat) (E : Nat -> jL) (T : Nat -> nI) (i : Nat) (lv mo : Int) (w : World) (hi : i < ts.length) (hin : ∀ j, j < ts.length -> rP ts.length j (jf E T ts j)) (hsh : Shut ts) (ht : ny w g ts) (hle : lv <= mo) (hw : sW ts i = false)
    (hatom:∀ (j:Nat) (aj:Int) (W:World),aj=j->ah w W->Calls Tryz.prog 103 #[tks g ts c,.int .i64 aj,.int .i64 lv,.int .i64 mo] W (iJ W (jf E T ts j))) :
    Calls Tryz.prog 79 #[tks g ts c,.int .i64 i,.int .i64 lv,.int .i64 mo] w (iJ w (goQ E T ts (jf E T ts i))):=by
 have hlt:¬ lv > mo:=by omega
 have hlt':¬ mo < lv:=by omega
 obtain ⟨W0,hW0⟩:∃ W0,W0=w.alloc zX:=⟨_,rfl⟩
 have aK:Hid (ah w W0):=by rw [hW0];exact ah.alloc _ _
 have HB0:Hid (W0.heap[w.heap.size]?=some (.cells (z13 0 0) 129 (0,0))):=by show _=_;rw [hW0];exact heap_alloc_new w _
 unfold sW at hw
 rw [Bool.or_eq_false_iff,Bool.or_eq_false_iff] at hw
 have H1:Hid (Calls Tryz.prog 101 #[tks g ts c,.int .i64 i,.string ⟨#[102,117,110]⟩] W0 fun e w'=>e=.returned (.bool false)/\W0=w'):=by have:=lC ts g c i ⟨#[102,117,110]⟩ W0 (ht.stay aK.out);rw [show bY ts i 3 (ByteArray.mk #[102,117,110]).data.toList=false from hw.1.1] at this;exact this
 have H2:Hid (Calls Tryz.prog 101 #[tks g ts c,.int .i64 i,.string ⟨#[108,101,116]⟩] W0 fun e w'=>e=.returned (.bool false)/\W0=w'):=by have:=lC ts g c i ⟨#[108,101,116]⟩ W0 (ht.stay aK.out);rw [show bY ts i 3 (ByteArray.mk #[108,101,116]).data.toList=false from hw.1.2] at this;exact this
 have H3:Hid (Calls Tryz.prog 101 #[tks g ts c,.int .i64 i,.string ⟨#[105,102]⟩] W0 fun e w'=>e=.returned (.bool false)/\W0=w'):=by have:=lC ts g c i ⟨#[105,102]⟩ W0 (ht.stay aK.out);rw [show bY ts i 3 (ByteArray.mk #[105,102]).data.toList=false from hw.2] at this;exact this
 have HA:=hid (hatom i i W0 rfl aK.out)
 have HAT:=hid hatom
 have kR:=hid hin
 have DC:=hid hsh
 have F9:Hid (∀ (j:Nat) (W:World),ah w W->Calls Tryz.prog 104 #[tks g ts c,.int .i64 j] W fun e w'=>e=.returned (.bool (nR ts j))/\W=w'):=fun j W hq=>kD ts g c j W (ht.stay hq)
 have hz0:W0.heap.size=w.heap.size+1:=by rw [hW0];simp
 have hfew:=ht.few
 clear ht hatom hin hsh hw
 go_enter Tryz.func79,Tryz.ntmps79
 go_wp2_with fail
 rw [<-hW0]
 clear hW0
 generalize hB:w.heap.size=B at *
 have bM:=hid hB
 clear hB
 refine H1.out.mono ?_;rintro e w1 ⟨rfl,rfl⟩
 go_wp2_with fail
 refine H2.out.mono ?_;rintro e w1 ⟨rfl,rfl⟩
 go_wp2_with fail
 refine H3.out.mono ?_;rintro e w1 ⟨rfl,rfl⟩
 go_wp2_with fail
 cases hr:jf E T ts i with
 | inr y =>
  obtain ⟨j,er⟩:=y
  have HI1:=kR.out i hi
  rw [hr] at HA HI1
  have hne:er≠0:=HI1.2
  have hne2:((er:Int) == 0)=false:=by simp [hne]
  have HEQ:Hid (goQ E T ts (jf E T ts i)=.inr (j,er)):=by show _=_;rw [hr];rfl
  refine HA.out.mono ?_;rintro e w2 ⟨rfl,hq2⟩
  obtain ⟨W3,hW3⟩:∃ W3,W3=w2.alloc (.cells (z13 (j:Nat) (er:Nat)) 129):=⟨_,rfl⟩
  have hqa:ah w2 W3:=by rw [hW3];exact ah.alloc _ _
  have hr3:W3.heap[w2.heap.size]?=some (.cells (z13 (j:Nat) (er:Nat)) 129 (0,0)):=by rw [hW3];exact heap_alloc_new w2 _
  have HB3:=hid (ay (hq2.trans hqa) (fun h=>h) HB0.out)
  have dG:=hid (aK.out.trans (hq2.trans hqa))
  go_upto_block 0 with fail
  change Code.wp _ _ _ _ (w2.alloc (.cells (z13 (j:Nat) (er:Nat)) 129))
  rw [<-hW3]
  clear hW3 hqa hq2
  generalize w2.heap.size=rb at *
  have HR3:=hid hr3
  clear hr3
  go_wp2_with fail
  go_loopw [10] (fun _ wr=>wr=W3) (fun _ _=>0)
  case atStart=>exact rfl
  case round =>
   obtain rfl:=hrel
   have hb3:=HB3.out
   have hr3:=HR3.out
   obtain ⟨x0,x1,x2,x3,x4,x5,x6,x7,x8,x9,x10,x11,x12⟩:=aG hb3
   have y0:=au hb3 0
   have y1:=au hb3 1
   have y2:=au hb3 2
   have y3:=au hb3 3
   have y4:=au hb3 4
   have y5:=au hb3 5
   have y6:=au hb3 6
   have y7:=au hb3 7
   have y8:=au hb3 8
   have y9:=au hb3 9
   have yI:=au hb3 10
   have yJ:=au hb3 11
   have yK:=au hb3 12
   obtain ⟨r0,r1,r2,r3,r4,r5,r6,r7,r8,r9,r10,r11,r12⟩:=aG hr3
   clear hb3 hr3
   go_wp2_with fail
   have hf:=bf wr B (.int .i64 0) (.string ⟨#[]⟩) (.int .i64 0) (.int .i64 0) (.int .i64 0) (.slice none 0 0) (.slice none 0 0) (.int .i64 0) (.int .i64 0) (.int .i64 0) (.int .i64 0) (.int .i64 (j:Nat)) (.int .i64 (er:Nat))
   have dN:ah w (aO wr B (.int .i64 0) (.string ⟨#[]⟩) (.int .i64 0) (.int .i64 0) (.int .i64 0) (.slice none 0 0) (.slice none 0 0) (.int .i64 0) (.int .i64 0) (.int .i64 0) (.int .i64 0) (.int .i64 (j:Nat)) (.int .i64 (er:Nat))):=(dG.out).trans' hf (fun k hk e=>by have:=bM.out;omega)
   obtain ⟨f0,f1,f2,f3,f4,f5,f6,f7,f8,f9,f10,f11,f12⟩:=aG (aN (a0:=.int .i64 0) (a1:=.string ⟨#[]⟩) (a2:=.int .i64 0) (a3:=.int .i64 0) (a4:=.int .i64 0) (a5:=.slice none 0 0) (a6:=.slice none 0 0) (a7:=.int .i64 0) (a8:=.int .i64 0) (a9:=.int .i64 0) (a10:=.int .i64 0) (a11:=.int .i64 (j:Nat)) (a12:=.int .i64 (er:Nat)) HB3.out)
   change bodyPost _ _ _ _ _ (aO wr B (.int .i64 0) (.string ⟨#[]⟩) (.int .i64 0) (.int .i64 0) (.int .i64 0) (.slice none 0 0) (.slice none 0 0) (.int .i64 0) (.int .i64 0) (.int .i64 0) (.int .i64 0) (.int .i64 (j:Nat)) (.int .i64 (er:Nat)))
   generalize aO wr B (.int .i64 0) (.string ⟨#[]⟩) (.int .i64 0) (.int .i64 0) (.int .i64 0) (.slice none 0 0) (.slice none 0 0) (.int .i64 0) (.int .i64 0) (.int .i64 0) (.int .i64 0) (.int .i64 (j:Nat)) (.int .i64 (er:Nat))=wf at *
   refine bodyPost_ret (by simp [results,Tryz.results79,go_sem,f0,f1,f2,f3,f4,f5,f6,f7,f8,f9,f10,f11,f12];rfl) rfl ?_
   rw [HEQ.out]
   exact ⟨rfl,dN⟩
 | inl y =>
  obtain ⟨⟨h,qs⟩,x,j⟩:=y
  have HI1:=kR.out i hi
  rw [hr] at HA HI1
  have hj1:i < j/\j < ts.length:=HI1
  obtain ⟨fin,hfin⟩:∃ fin,wS E T ts (ts.length+1) (h,qs) x j=fin:=⟨_,rfl⟩
  have DF:Hid (goQ E T ts (jf E T ts i)=fin):=by show _=_;rw [hr];exact hfin
  have bJ:=hid hfin
  refine HA.out.mono ?_;rintro e w2 ⟨o1,l1,c1,o2,l2,c2,rfl,hs1,hs2,hq2⟩
  obtain ⟨W3,hW3⟩:∃ W3,W3=w2.alloc (.cells (c13 h o1 l1 c1 o2 l2 c2 x (j:Nat) 0) 129):=⟨_,rfl⟩
  have hqa:ah w2 W3:=by rw [hW3];exact ah.alloc _ _
  have HR3:Hid (W3.heap[w2.heap.size]?=some (.cells (c13 h o1 l1 c1 o2 l2 c2 x (j:Nat) 0) 129 (0,0))):=by show _=_;rw [hW3];exact heap_alloc_new w2 _
  have HB3:=hid (ay (hq2.trans hqa) (fun h=>h) HB0.out)
  have dG:=hid (aK.out.trans (hq2.trans hqa))
  have nH:Hid (aC (fun b=>B+1<=b/\b≠w2.heap.size) W3 o1 l1 h.tp):=hs1.fr hqa (fun b hb k=>⟨⟨by have h':W0.heap.size<=b:=k;omega,by omega⟩,fun h=>h⟩)
  have HS2:Hid (aY (fun b=>B+1<=b/\b≠w2.heap.size) W3 o2 l2 qs):=hs2.fr hqa (fun b hb k=>⟨⟨by have h':W0.heap.size<=b:=k;omega,by omega⟩,fun h=>h⟩)
  have hrB:B+1<=w2.heap.size:=by have:=hq2.size;omega
  go_upto_block 0 with fail
  change Code.wp _ _ _ _ (w2.alloc (.cells (c13 h o1 l1 c1 o2 l2 c2 x (j:Nat) 0) 129))
  rw [<-hW3]
  clear hW3 hqa hq2 hs1 hs2 hfin hr
  generalize w2.heap.size=rb at *
  go_wp2_with fail
  go_loopw [10] (fun _ wr=>RY E T ts fin w B rb wr) (fun _ wr=>ts.length - KD rb wr)
  case atStart=>exact ⟨h,qs,x,j,ts.length+1,o1,l1,c1,o2,l2,c2,HR3.out,nH.out,HS2.out,HB3.out,hj1.2,by omega,bJ.out,dG.out⟩
  case round =>
   clear HR3 nH HS2 HB3 dG bJ HA HI1
   obtain ⟨h,qs,x,j,n,o1,l1,c1,o2,l2,c2,hrb,hs1,hs2,hbb,hj,hn,happ,hq⟩:=hrel
   have HRB:=hid hrb
   have nH:=hid hs1
   have HS2:=hid hs2
   have uZ:=hid hbb
   have YH:=hid happ
   have HQ:=hid hq
   obtain ⟨r0,r1,r2,r3,r4,r5,r6,r7,r8,r9,r10,r11,r12⟩:=aG hrb
   clear hrb hs1 hs2 hbb happ hq
   go_wp2_with fail
   refine (F9.out j wr HQ.out).mono ?_;rintro e w4 ⟨rfl,rfl⟩
   cases hb:nR ts j
   case false =>
    have hbb:=uZ.out
    obtain ⟨x0,x1,x2,x3,x4,x5,x6,x7,x8,x9,x10,x11,x12⟩:=aG hbb
    have y0:=au hbb 0
    have y1:=au hbb 1
    have y2:=au hbb 2
    have y3:=au hbb 3
    have y4:=au hbb 4
    have y5:=au hbb 5
    have y6:=au hbb 6
    have y7:=au hbb 7
    have y8:=au hbb 8
    have y9:=au hbb 9
    have yI:=au hbb 10
    have yJ:=au hbb 11
    have yK:=au hbb 12
    clear hbb
    go_wp2_with fail
    have hf:=bf wr B (.int .i64 h.k) (.string h.nm) (.int .i64 h.n) (.int .i64 h.tk) (.int .i64 h.tn) (.slice o1 l1 c1) (.slice o2 l2 c2) (.int .i64 h.fr) (.int .i64 h.en) (.int .i64 x.1) (.int .i64 x.2) (.int .i64 (j:Nat)) (.int .i64 0)
    have dN:ah w (aO wr B (.int .i64 h.k) (.string h.nm) (.int .i64 h.n) (.int .i64 h.tk) (.int .i64 h.tn) (.slice o1 l1 c1) (.slice o2 l2 c2) (.int .i64 h.fr) (.int .i64 h.en) (.int .i64 x.1) (.int .i64 x.2) (.int .i64 (j:Nat)) (.int .i64 0)):=(HQ.out).trans' hf (fun k hk e=>by have:=bM.out;omega)
    obtain ⟨f0,f1,f2,f3,f4,f5,f6,f7,f8,f9,f10,f11,f12⟩:=aG (aN (a0:=.int .i64 h.k) (a1:=.string h.nm) (a2:=.int .i64 h.n) (a3:=.int .i64 h.tk) (a4:=.int .i64 h.tn) (a5:=.slice o1 l1 c1) (a6:=.slice o2 l2 c2) (a7:=.int .i64 h.fr) (a8:=.int .i64 h.en) (a9:=.int .i64 x.1) (a10:=.int .i64 x.2) (a11:=.int .i64 (j:Nat)) (a12:=.int .i64 0) uZ.out)
    change bodyPost _ _ _ _ _ (aO wr B (.int .i64 h.k) (.string h.nm) (.int .i64 h.n) (.int .i64 h.tk) (.int .i64 h.tn) (.slice o1 l1 c1) (.slice o2 l2 c2) (.int .i64 h.fr) (.int .i64 h.en) (.int .i64 x.1) (.int .i64 x.2) (.int .i64 (j:Nat)) (.int .i64 0))
    generalize aO wr B (.int .i64 h.k) (.string h.nm) (.int .i64 h.n) (.int .i64 h.tk) (.int .i64 h.tn) (.slice o1 l1 c1) (.slice o2 l2 c2) (.int .i64 h.fr) (.int .i64 h.en) (.int .i64 x.1) (.int .i64 x.2) (.int .i64 (j:Nat)) (.int .i64 0)=wf at *
    refine bodyPost_ret (by simp [results,Tryz.results79,go_sem,f0,f1,f2,f3,f4,f5,f6,f7,f8,f9,f10,f11,f12];rfl) rfl ?_
    rw [DF.out,show fin=.inl ((h,qs),x,j) from by rw [<-YH.out,RZ hb]]
    exact ⟨o1,l1,c1,o2,l2,c2,rfl,nH.out.fr hf (fun b _ k=>⟨by have:=bM.out;have:=k.1;show w.heap.size<=b;omega,by have:=k.1;omega⟩),HS2.out.fr hf (fun b _ k=>⟨by have:=bM.out;have:=k.1;show w.heap.size<=b;omega,by have:=k.1;omega⟩),dN⟩
   case true =>
    have hat:=MK r11
    have hlt:=MG DC.out hb
    have HC:=HAT.out j (j:Int) wr rfl HQ.out
    have HI2:=kR.out j hj
    have ads:rb < wr.heap.size:=lt_of_block HRB.out
    have hbl:B < wr.heap.size:=lt_of_block uZ.out
    cases ha:jf E T ts j with
    | inr y =>
     obtain ⟨j2,er⟩:=y
     rw [ha] at HC HI2
     have hne:er≠0:=HI2.2
     have hne2:((er:Int) != 0)=true:=by simp [hne]
     have HC2:=hid HC
     clear HC HI2
     go_wp2_with fail
     refine HC2.out.mono ?_;rintro e w5 ⟨rfl,hq5⟩
     obtain ⟨W6,uM⟩:∃ W6,W6=w5.alloc (.cells (z13 (j2:Nat) (er:Nat)) 129):=⟨_,rfl⟩
     have hqa:ah w5 W6:=by rw [uM];exact ah.alloc _ _
     have hq6:W6.heap[w5.heap.size]?=some (.cells (z13 (j2:Nat) (er:Nat)) 129 (0,0)):=by rw [uM];exact heap_alloc_new w5 _
     have hb6:=ay (hq5.trans hqa) (fun h=>h) uZ.out
     have Vm:=hid hb6
     have zG:=hid (HQ.out.trans (hq5.trans hqa))
     go_upto_region 8 with fail
     change Code.wp _ _ _ _ (w5.alloc (.cells (z13 (j2:Nat) (er:Nat)) 129))
     rw [<-uM]
     clear uM hqa hq5 r0 r1 r2 r3 r4 r5 r6 r7 r8 r9 r10 r11 r12 HC2
     generalize w5.heap.size=qb at *
     obtain ⟨x0,x1,x2,x3,x4,x5,x6,x7,x8,x9,x10,x11,x12⟩:=aG hb6
     have y0:=au hb6 0
     have y1:=au hb6 1
     have y2:=au hb6 2
     have y3:=au hb6 3
     have y4:=au hb6 4
     have y5:=au hb6 5
     have y6:=au hb6 6
     have y7:=au hb6 7
     have y8:=au hb6 8
     have y9:=au hb6 9
     have yI:=au hb6 10
     have yJ:=au hb6 11
     have yK:=au hb6 12
     obtain ⟨q0,q1,q2,q3,q4,q5,q6,q7,q8,q9,q10,q11,q12⟩:=aG hq6
     clear hb6 hq6
     go_wp2_with fail
     have hf:=bf W6 B (.int .i64 0) (.string ⟨#[]⟩) (.int .i64 0) (.int .i64 0) (.int .i64 0) (.slice none 0 0) (.slice none 0 0) (.int .i64 0) (.int .i64 0) (.int .i64 0) (.int .i64 0) (.int .i64 (j2:Nat)) (.int .i64 (er:Nat))
     have dN:ah w (aO W6 B (.int .i64 0) (.string ⟨#[]⟩) (.int .i64 0) (.int .i64 0) (.int .i64 0) (.slice none 0 0) (.slice none 0 0) (.int .i64 0) (.int .i64 0) (.int .i64 0) (.int .i64 0) (.int .i64 (j2:Nat)) (.int .i64 (er:Nat))):=(zG.out).trans' hf (fun k hk e=>by have:=bM.out;omega)
     obtain ⟨f0,f1,f2,f3,f4,f5,f6,f7,f8,f9,f10,f11,f12⟩:=aG (aN (a0:=.int .i64 0) (a1:=.string ⟨#[]⟩) (a2:=.int .i64 0) (a3:=.int .i64 0) (a4:=.int .i64 0) (a5:=.slice none 0 0) (a6:=.slice none 0 0) (a7:=.int .i64 0) (a8:=.int .i64 0) (a9:=.int .i64 0) (a10:=.int .i64 0) (a11:=.int .i64 (j2:Nat)) (a12:=.int .i64 (er:Nat)) Vm.out)
     change bodyPost _ _ _ _ _ (aO W6 B (.int .i64 0) (.string ⟨#[]⟩) (.int .i64 0) (.int .i64 0) (.int .i64 0) (.slice none 0 0) (.slice none 0 0) (.int .i64 0) (.int .i64 0) (.int .i64 0) (.int .i64 0) (.int .i64 (j2:Nat)) (.int .i64 (er:Nat)))
     generalize aO W6 B (.int .i64 0) (.string ⟨#[]⟩) (.int .i64 0) (.int .i64 0) (.int .i64 0) (.slice none 0 0) (.slice none 0 0) (.int .i64 0) (.int .i64 0) (.int .i64 0) (.int .i64 0) (.int .i64 (j2:Nat)) (.int .i64 (er:Nat))=wf at *
     refine bodyPost_ret (by simp [results,Tryz.results79,go_sem,f0,f1,f2,f3,f4,f5,f6,f7,f8,f9,f10,f11,f12];rfl) rfl ?_
     rw [DF.out,show fin=.inr (j2,er) from by rw [<-YH.out,V9 hb (by omega) ha]]
     exact ⟨rfl,dN⟩
    | inl y =>
     obtain ⟨⟨h2,rX⟩,x2,j2⟩:=y
     rw [ha] at HC HI2
     have hj2:j < j2/\j2 < ts.length:=HI2
     have HC2:=hid HC
     clear HC HI2
     go_wp2_with fail
     refine HC2.out.mono ?_;rintro e w5 ⟨p1,m1,d1,p2,m2,d2,rfl,hs3,hs4,hq5⟩
     obtain ⟨W6,uM⟩:∃ W6,W6=w5.alloc (.cells (c13 h2 p1 m1 d1 p2 m2 d2 x2 (j2:Nat) 0) 129):=⟨_,rfl⟩
     have hqa:ah w5 W6:=by rw [uM];exact ah.alloc _ _
     have hq6:W6.heap[w5.heap.size]?=some (.cells (c13 h2 p1 m1 d1 p2 m2 d2 x2 (j2:Nat) 0) 129 (0,0)):=by rw [uM];exact heap_alloc_new w5 _
     have YI:ah wr W6:=hq5.trans hqa
     have hr6:=ay YI (fun h=>h) HRB.out
     have HS3:Hid (aC (fun b=>B+1<=b/\b≠rb) W6 p1 m1 h2.tp):=hs3.fr hqa (fun b _ k=>⟨⟨by have k':wr.heap.size<=b:=k;omega,by have k':wr.heap.size<=b:=k;omega⟩,fun h=>h⟩)
     have Wh:Hid (aY (fun b=>B+1<=b/\b≠rb) W6 p2 m2 rX):=hs4.fr hqa (fun b _ k=>⟨⟨by have k':wr.heap.size<=b:=k;omega,by have k':wr.heap.size<=b:=k;omega⟩,fun h=>h⟩)
     have HW6:=hid YI
     have HQB:=hid hq6
     go_upto_region 8 with fail
     change Code.wp _ _ _ _ (w5.alloc (.cells (c13 h2 p1 m1 d1 p2 m2 d2 x2 (j2:Nat) 0) 129))
     rw [<-uM]
     clear uM hqa hq5 hs3 hs4 YI r0 r1 r2 r3 r4 r5 r6 r7 r8 r9 r10 r11 r12 HC2
     generalize w5.heap.size=qb at *
     obtain ⟨r0,r1,r2,r3,r4,r5,r6,r7,r8,r9,r10,r11,r12⟩:=aG hr6
     obtain ⟨q0,q1,q2,q3,q4,q5,q6,q7,q8,q9,q10,q11,q12⟩:=aG hq6
     clear hr6 hq6
     have HJ:=hid (BJ x.1 x.2 x2.1 x2.2 W6)
     go_wp2_with fail
     refine HJ.out.mono ?_;rintro e w7 ⟨rfl,hq7⟩
     obtain ⟨W8,hW8⟩:∃ W8,W8=w7.alloc (.cells #[.int .i64 (aV x x2).1,.int .i64 (aV x x2).2] 27):=⟨_,rfl⟩
     have hq8:ah W6 W8:=by rw [hW8];exact hq7.trans (ah.alloc _ _)
     have hsp:W8.heap[w7.heap.size]?=some (.cells #[.int .i64 (aV x x2).1,.int .i64 (aV x x2).2] 27 (0,0)):=by rw [hW8];exact heap_alloc_new w7 _
     have s0:W8.cell? ⟨w7.heap.size,0,none⟩=some (.int .i64 (aV x x2).1):=by rw [cell_of_row _ _ _ _ _ (0,0) hsp];rfl
     have s1:W8.cell? ⟨w7.heap.size,1,none⟩=some (.int .i64 (aV x x2).2):=by rw [cell_of_row _ _ _ _ _ (0,0) hsp];rfl
     have RU:=ay (HW6.out.trans hq8) (fun h=>h) HRB.out
     have YJ:=ay hq8 (fun h=>h) HQB.out
     have HR8:=hid RU
     have HSP:=hid hsp
     have acH:=hid YJ
     go_upto_region 11 with fail
     change Code.wp _ _ _ _ (w7.alloc (.cells #[.int .i64 (aV x x2).1,.int .i64 (aV x x2).2] 27))
     rw [<-hW8]
     have HW8:=hid (HW6.out.trans hq8)
     have aaF:=hid hq8
     clear hW8 hq7 hq8 hsp r0 r1 r2 r3 r4 r5 r6 r7 r8 r9 r10 r11 r12 q0 q1 q2 q3 q4 q5 q6 q7 q8 q9 q10 q11 q12 HJ
     generalize w7.heap.size=sb at *
     obtain ⟨r0,r1,r2,r3,r4,r5,r6,r7,r8,r9,r10,r11,r12⟩:=aG RU
     obtain ⟨q0,q1,q2,q3,q4,q5,q6,q7,q8,q9,q10,q11,q12⟩:=aG YJ
     clear RU YJ
     obtain ⟨W9,hW9⟩:∃ W9,W9=W8.alloc (.cells #[.int .i64 h.k,.string h.nm,.int .i64 h.n,.int .i64 h.tk,.int .i64 h.tn,.slice o1 l1 c1,.slice o2 l2 c2,.int .i64 h.fr,.int .i64 h.en,.int .i64 h2.k,.string h2.nm,.int .i64 h2.n,.int .i64 h2.tk,.int .i64 h2.tn,.slice p1 m1 d1,.slice p2 m2 d2,.int .i64 h2.fr,.int .i64 h2.en] 29):=⟨_,rfl⟩
     have qI:ah W8 W9:=by rw [hW9];exact ah.alloc _ _
     have hrow:W9.heap[W8.heap.size]?=some (.cells #[.int .i64 h.k,.string h.nm,.int .i64 h.n,.int .i64 h.tk,.int .i64 h.tn,.slice o1 l1 c1,.slice o2 l2 c2,.int .i64 h.fr,.int .i64 h.en,.int .i64 h2.k,.string h2.nm,.int .i64 h2.n,.int .i64 h2.tk,.int .i64 h2.tn,.slice p1 m1 d1,.slice p2 m2 d2,.int .i64 h2.fr,.int .i64 h2.en] 29 (0,0)):=by rw [hW9];exact heap_alloc_new W8 _
     have Aq:=ay qI (fun h=>h) HR8.out
     have O5:=hid Aq
     have Wi:=ay qI (fun h=>h) HSP.out
     have YK:=ay qI (fun h=>h) acH.out
     rw [hW9] at Aq Wi YK
     have s2:=(cell_of_row _ sb 0 _ _ (0,0) Wi).trans (show _=some (Value.int .i64 (aV x x2).1) from rfl)
     have s3:=(cell_of_row _ sb 1 _ _ (0,0) Wi).trans (show _=some (Value.int .i64 (aV x x2).2) from rfl)
     have s4:=(aG YK).2.2.2.2.2.2.2.2.2.2.2.1
     have y0:=au Aq 0
     have y1:=au Aq 1
     have y2:=au Aq 2
     have y3:=au Aq 3
     have y4:=au Aq 4
     have y5:=au Aq 5
     have y6:=au Aq 6
     have y7:=au Aq 7
     have y8:=au Aq 8
     have y9:=au Aq 9
     have yI:=au Aq 10
     have yJ:=au Aq 11
     have yK:=au Aq 12
     obtain ⟨x0,x1,x2,x3,x4,x5,x6,x7,x8,x9,x10,x11,x12⟩:=aG Aq
     clear Aq Wi YK
     go_wp2_with fail
     go_roundw
     case rel =>
      have hwz:wr.heap.size<=W8.heap.size:=HW8.out.size
      rw [<-hW9]
      exact Sj (n:=n - 1) O5.out hrow (by have:=hbl;omega) (by omega) (nH.out.stay (HW8.out.trans qI)) (HS2.out.stay (HW8.out.trans qI)) (HS3.out.stay (aaF.out.trans qI)) (Wh.out.stay (aaF.out.trans qI)) (ay (HW8.out.trans qI) (fun h=>h) uZ.out) hrB (by have:=bM.out;omega) hj2.2 (by omega) (by rw [<-Si hb (by omega) ha];exact YH.out) (HQ.out.trans (HW8.out.trans qI))
     case measure =>
      rw [<-hW9]
      have key:∀ W,KD rb W=j2->ts.length - KD rb W < ts.length - KD rb wr:=fun W h=>by rw [h,hat];omega
      exact key _ (YG O5.out)
end Pa
end
section
namespace Pa
open Go.RowKit Lx
structure cZ (w:World) (T:Nat->Prop) (v:Value) (f:To) (xs:List Value):Prop where
 own:w.ownsRow 0 29 9 v f.length xs
 low:∀ k,v.ownBlock=some k->T k
 cells:ku (fun k=>T k/\v.ownBlock≠some k) w xs f
theorem cZ.nil (w:World) (T:Nat->Prop):cZ w T (.slice none 0 0) .nil []:=⟨World.ownsRow_nil _ _ _ _,fun k hk=>(by cases hk),rfl⟩
theorem cZ.fr {w w':World} {T:Nat->Prop} {v:Value} {f:To} {xs:List Value} {S:Nat->Prop} (h:cZ w T v f xs) (hf:Fr S w w') (hS:∀ k,T k->¬ S k):cZ w' T v f xs :=
 ⟨aZ h.own hf (fun k hk hs=>hS k (h.low k hk) hs),h.low,ku.fr hf (fun k _ hk=>⟨hk,hS k hk.1⟩) f xs h.cells⟩
theorem cZ.stay {w w':World} {T:Nat->Prop} {v:Value} {f:To} {xs:List Value} (h:cZ w T v f xs) (hf:ah w w'):cZ w' T v f xs:=h.fr hf (fun _ _ h=>h)
theorem cZ.snoc {W w1 : World} {T : Nat -> Prop} {v : Value} {f : To} {xs : List Value} {h : Nd} {ps : To} {o1 : Option Addr} {l1 c1 : Nat} {o2 : Option Addr} {l2 c2 g c : Nat} (hr : cZ W T v f xs)
    (hs:aC (fun k=>T k/\v.ownBlock≠some k) W o1 l1 h.tp) (ht:aY (fun k=>T k/\v.ownBlock≠some k) W o2 l2 ps)
    (ho:w1.ownsRow 0 29 9 (.slice (some ⟨g,0,none⟩) (f.length+1) c) (f.length+1) (xs++(cells9 h o1 l1 c1 o2 l2 c2).toList)) (hf:Fr (fun k=>v.ownBlock=some k) W w1) (hg:v.ownBlock=some g∨W.heap.size<=g) (hT:∀ k,W.heap.size<=k->T k) :
    cZ w1 T (.slice (some ⟨g,0,none⟩) (f.length+1) c) (f.app (.cons h ps .nil)) (xs++(cells9 h o1 l1 c1 o2 l2 c2).toList):=by
 refine ⟨by rw [To.bP];exact ho,?_,?_⟩
 ·intro k hk
  simp [Value.ownBlock] at hk
  subst hk
  rcases hg with h | h
  ·exact hr.low g h
  ·exact hT _ h
 ·have hk : ∀ k, k < W.heap.size -> (T k /\ v.ownBlock ≠ some k) -> ((T k /\ (Value.slice (some ⟨g, 0, none⟩) (f.length + 1) c).ownBlock ≠ some k) /\ ¬ v.ownBlock = some k) := by
    rintro k hk ⟨h1,h2⟩
    refine ⟨⟨h1,fun h=>?_⟩,h2⟩
    simp [Value.ownBlock] at h
    subst h
    rcases hg with h | h
    ·exact h2 h
    ·omega
  exact ku.snoc (hs.fr hf hk) (ht.fr hf hk) f xs (ku.fr hf hk f xs hr.cells)
theorem cZ.slc {w:World} {T:Nat->Prop} {o:Option Addr} {len cap:Nat} {f:To} {xs:List Value} (h:cZ w T (.slice o len cap) f xs) (hl:len=f.length) (hm:len<=maxLen):aY T w o len f:=by
 refine ⟨hl,hm,fun h0=>?_⟩
 rcases h.own.2 with ⟨_,h2⟩ | ⟨g,cap',cur,he,_⟩
 ·omega
 ·injection he with h1 h2 h3
  subst h1
  refine ⟨g,0,rfl,ku.at (h.low g rfl) f xs 0 (ku.fr (Fr.refl (fun _=>False) w) (fun k _ hk=>⟨hk.1,fun h=>h⟩) f xs h.cells) ?_⟩
  intro j u hj
  have:=h.own.cells (g:=g) rfl j u hj
  simpa [Addr.add_lit] using this
theorem YL {E:Nat->jL} {ts:List Tok} {n:Nat} {ps:To} {j:Nat} (h:bY ts j 4 vP=false):uK E ts n ps j=.inl (ps,j):=by
 cases n with
 | zero=>rfl
 | succ n=>unfold uK;rw [if_neg (by rw [h];simp)]
theorem Sl {E:Nat->jL} {ts:List Tok} {n:Nat} {ps:To} {j:Nat} (h:bY ts j 4 vP=true) (h8:8<=ps.length) (hn:1<=n):uK E ts n ps j=.inr (j,6):=by
 obtain ⟨m,rfl⟩:∃ m,n=m+1:=⟨n - 1,by omega⟩
 unfold uK;rw [if_pos h,if_pos h8]
theorem Wj {E:Nat->jL} {ts:List Tok} {n:Nat} {ps:To} {j:Nat} {x:Nat × Nat} (h:bY ts j 4 vP=true) (h8:¬ 8<=ps.length) (hn:1<=n) (ht:E (j+1)=.inr x):uK E ts n ps j=.inr x:=by
 obtain ⟨m,rfl⟩:∃ m,n=m+1:=⟨n - 1,by omega⟩
 unfold uK;rw [if_pos h,if_neg h8,ht]
theorem Sm {E:Nat->jL} {ts:List Tok} {n:Nat} {ps:To} {j:Nat} {h1:Nd} {qs:To} {x:Pt} {j':Nat} (h:bY ts j 4 vP=true) (h8:¬ 8<=ps.length) (hn:1<=n) (ht:E (j+1)=.inl ((h1,qs),x,j')):uK E ts n ps j=uK E ts (n - 1) (ps.app (.cons h1 qs .nil)) j':=by
 obtain ⟨l,rfl⟩:∃ l,n=l+1:=⟨n - 1,by omega⟩
 conv=>lhs;unfold uK
 rw [if_pos h,if_neg h8,ht];rfl
def wZ (ts:List Tok) (i0:Nat) (h:Nd) (qs:To) (k tk tn:Int) (tp:Fo) (ps:To) (i:Nat):jL :=
 if bY ts i 4 jB then
  if k=9/\ps.length=1 then .inl ((h,qs),aV (at' ts i0) (at' ts i),i+1)
  else .inl ((⟨k,⟨#[]⟩,0,tk,tn,tp,(aV (at' ts i0) (at' ts i)).1,(aV (at' ts i0) (at' ts i)).2⟩,ps),aV (at' ts i0) (at' ts i),i+1)
 else .inr (i,3)
theorem Sr (ts:List Tok) (i0:Nat) (h:Nd) (qs:To) (k m:Int) (us:Fo) (i:Nat):Ia ts i0 h qs (.inl ((k,m,us),i))=wZ ts i0 h qs 10 k m us (.cons h qs .nil) i:=by
 unfold Ia wZ
 simp only [show ¬ ((10:Int)=9/\(To.cons h qs .nil).length=1) from by omega,if_false]
 rfl
theorem Sv (ts:List Tok) (i0:Nat) (h:Nd) (qs:To) (ps:To) (i:Nat) (h1:ps.length=1->ps=.cons h qs .nil):vC ts i0 (.inl (ps,i))=wZ ts i0 h qs 9 0 0 .nil ps i:=by
 unfold vC wZ
 by_cases hl:ps.length=1
 ·rw [h1 hl];simp [To.length]
 ·simp only [hl,and_false,if_false]
  split
  ·split
   ·next h' qs'=>exact absurd rfl hl
   ·rfl
  ·rfl
def Wn (E:Nat->jL) (T:Nat->nI) (ts:List Tok) (i0:Nat) (h:Nd) (qs:To) (j:Nat):jL :=
 if bY ts j 4 F7 then Ia ts i0 h qs (T (j+1)) else vC ts i0 (uK E ts 8 (.cons h qs .nil) j)
theorem YM (E:Nat->jL) (T:Nat->nI) (ts:List Tok) (i0:Nat) (h:Nd) (qs:To) (x:Pt) (j:Nat):VQ E T ts i0 (.inl ((h,qs),x,j))=Wn E T ts i0 h qs j:=rfl
end Pa
end
end Go.Proofs.YtcninopmelmajaaGreatDoor
