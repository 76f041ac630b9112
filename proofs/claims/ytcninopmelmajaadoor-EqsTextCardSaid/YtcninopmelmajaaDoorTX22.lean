/-
  Texts laid together (PaAny, PaRight): laws and walks, with their conditions.
-/
import Derived.Test.YtcninopmelmajaaDoorTX7
import Derived.Test.YtcninopmelmajaaDoorTX18
import Derived.Test.YtcninopmelmajaaDoorTX20
import Derived.Test.YtcninopmelmajaaDoorTX21
set_option maxHeartbeats 8000000
set_option maxRecDepth 1000000
namespace Go.Proofs.YtcninopmelmajaaDoor
open Go.Lib (hid)
section
namespace Pa
open Go.RowKit Lx
theorem TN {ts:List Tok} {f i:Nat} (h:tJ ts i=true):zZ ts (f+1) i=tK (zZ ts f) ts i:=by
 conv=>lhs;unfold zZ
 unfold tJ at h;rw [if_pos h]
theorem PZ {ts:List Tok} {f i:Nat} (h:tJ ts i=false):zZ ts (f+1) i=YG (zZ ts f) (qh ts (f-1)) ts (gy (zZ ts f) (qh ts (f-1)) ts i):=by
 conv=>lhs;unfold zZ
 unfold tJ at h;rw [if_neg (by rw [h];simp)]
theorem TP {ts:List Tok} {i:Nat} (hs:Shut ts) (h:tJ ts i=true):i+1 < ts.length:=by
 unfold tJ at h;rw [Bool.or_eq_true,Bool.or_eq_true] at h;rcases h with (h | h) | h
 ·exact dN hs h (by decide)
 ·exact dN hs h (by decide)
 ·exact dN hs h (by decide)
theorem P5 (ts : List Tok) (g c : Nat) (E : Nat -> iU) (T : Nat -> l7) (i : Nat) (ai lv mo : Int) (w : World) (ea : ai = i) (ht : nN w g ts) (htl : ∀ t ∈ ts, t.text.length <= 1000000)
    (hbr:bZ ts i 4 nX=true->∀ W,ah w W->Calls Tryd.prog 66 #[tks g ts c,.int .i64 i,.int .i64 lv,.int .i64 mo] W (iy W (SK E T ts i (E (i+1))))) :
    Calls Tryd.prog 49 #[tks g ts c,.int .i64 ai,.int .i64 lv,.int .i64 mo] w (iy w (gy E T ts i)):=by
 subst ea;cases hb:oh ts i
 ·exact Po ts g c E T i lv mo w hb ht
 ·obtain ⟨t, hti⟩ : ∃ t, ts[i]? = some t := by
    unfold oh at hb
    split at hb
    ·next t ht=>exact ⟨t,ht⟩
    ·cases hb
  cases hk1:(t.kind == 1)
  ·cases hk2:(t.kind == 2)
   ·cases hx:(t.text == vP)
    ·cases hy:(t.text == nX)
     ·exact Ls ts g c E T i lv mo w hb ht t hti hk1 hk2 hx hy
     ·refine Px ts g c E T i lv mo w hb ht t hti hk1 hk2 hx hy (hbr ?_);have h1:=SA hti;rw [hb,hk1,hk2,tH hti,tH hti,tH hti,hx] at h1;rw [tH hti,hy,Bool.and_true];have h2:(t.text == BK)=false:=by
       have:=eq_of_beq hy;rw [this];rfl
      rw [h2] at h1;simpa [hy] using h1.symm
    ·exact Pv ts g c E T i lv mo w hb ht t hti hk1 hk2 hx
   ·exact SN ts g c E T i lv mo w hb ht t hti hk1 hk2 (htl t (List.mem_of_getElem? hti))
  ·exact Pq ts g c E T i lv mo w hb ht t hti hk1
theorem Jl (ts:List Tok) (g c:Nat) (hsh:Shut ts) (htl:∀ t∈ts,t.text.length<=1000000):∀ f,ExT ts g c f
 | 0=>Pz ts g c
 | f+1=>by
  have ih:=Jl ts g c hsh htl f;intro i ai lv mo W ea hi ht hf h1 h2 h3 h4;subst ea;have hle:lv<=mo:=by omega
  have hf2:f=(mo+1-(lv+1)).toNat:=by omega
  have hf3:f-1=(mo+1-(lv+2)).toNat:=by omega
  have hE:∀ (j:Nat) (aj:Int) (W':World),aj=j->j < ts.length->ah W W'->Calls Tryd.prog 28 #[tks g ts c,.int .i64 aj,.int .i64 (lv+1),.int .i64 mo] W' (iy W' (zZ ts f j)):=fun j aj W' e hj hq=>ih j aj (lv+1) mo W' e hj (ht.stay hq) hf2 (by omega) (by omega) h3 h4
  have hT:∀ (j:Nat) (aj:Int) (W':World),aj=j->j < ts.length->ah W W'->Calls Tryd.prog 80 #[tks g ts c,.int .i64 aj,.int .i64 (lv+2),.int .i64 mo] W' (GX W' (qh ts (f-1) j)):=fun j aj W' e hj hq=>Jd ts g c hsh (f-1) j aj (lv+2) mo W' e hj (ht.stay hq) hf3 (by omega) (by omega) h3 (by omega)
  cases hw:tJ ts i
  ·rw [PZ hw];refine LC ts g c (zZ ts f) (qh ts (f-1)) i lv mo W hi (fun j hj=>CB hsh (wE hsh f) (BN hsh (f-1)) j hj) hsh ht hle hw (fun j aj W' ea hq=>?_);refine P5 ts g c (zZ ts f) (qh ts (f-1)) j aj lv mo W' ea (ht.stay hq) htl (fun ho W'' hq'=>?_);exact Hl ts g c (zZ ts f) (qh ts (f-1)) j lv mo W'' hsh ho (wE hsh f) (BN hsh (f-1)) (ht.stay (hq.trans hq')) h1 (by omega) (fun j' aj' W3 e hj hq3=>hE j' aj' W3 e hj ((hq.trans hq').trans hq3)) (fun j' aj' W3 e hj hq3=>hT j' aj' W3 e hj ((hq.trans hq').trans hq3))
  ·rw [TN hw];exact PD ts g c f (zZ ts f) i lv mo W ht hle hw (fun W' hq=>TL ts g c (zZ ts f) i lv mo W' hsh (TP hsh hw) (wE hsh f) (ht.stay hq) h1 (by omega) (fun j aj W2 e hj hq2=>hE j aj W2 e hj (hq.trans hq2)))
def TQ (w:World) (r:iU) (e:Ending) (w':World):Prop:=match r with
 | .inl ((h,ps),_,j)=>∃ o1 l1 c1 o2 l2 c2,e=.returned (.tuple #[bP h o1 l1 c1 o2 l2 c2,.int .i64 (j:Nat),.int .i64 0])/\aB (fun b=>w.heap.size<=b) w' o1 l1 h.tp/\bC (fun b=>w.heap.size<=b) w' o2 l2 ps/\ah w w'
 | .inr (j,er)=>e=.returned (.tuple #[.agg zero9,.int .i64 (j:Nat),.int .i64 (er:Nat)])/\ah w w'
theorem P6 (ts : List Tok) (g c : Nat) (f : Nat) (mo : Int) (w : World) (hsh : Shut ts) (h0 : 0 < ts.length) (htl : ∀ t ∈ ts, t.text.length <= 1000000) (ht : nN w g ts) (hf : f = mo.toNat) (hm1 : -1000000 <= mo) (hm2 : mo <= 800000) :
    Calls Tryd.prog 16 #[tks g ts c,.int .i64 mo] w (TQ w (nP ts f)):=by
 have hfew:=ht.few;obtain ⟨W0,hW0⟩:∃ W0,W0=w.alloc (.cells zero9 30):=⟨_,rfl⟩;have bD:Hid (ah w W0):=by rw [hW0];exact ah.alloc _ _
 have HB0:Hid (W0.heap[w.heap.size]?=some (.cells zero9 30 (0,0))):=by show _=_;rw [hW0];exact heap_alloc_new w _
 have HC:Hid (Calls Tryd.prog 28 #[tks g ts c,.int .i64 0,.int .i64 1,.int .i64 mo] W0 (iy W0 (zZ ts f 0))):=Jl ts g c hsh htl f 0 0 1 mo W0 rfl h0 (ht.stay bD.out) (by omega) (by omega) (by omega) hm1 hm2;have uN:=wE hsh f 0 h0;have WG:Hid (∀ (j:Nat) (t:Tok),ts[j]?=some t->∀ W,ah w W->W.cell? ⟨g,j*4,none⟩=some (.int .i64 (t.kind:Nat))):=fun j t h W hq=>((ht.stay hq).cells j t h).1
 obtain ⟨res,hres⟩:∃ res,nP ts f=res:=⟨_,rfl⟩;have aQ:=hid hres;rw [hres];clear ht hsh htl hres hf;go_enter Tryd.func16,Tryd.ntmps16;go_wp2_with fail;rw [<-hW0];clear hW0;generalize hB:w.heap.size=B at *;have bY:=hid hB;clear hB;cases hr:zZ ts f 0 with
 | inr y =>
  obtain ⟨j,er⟩:=y;rw [hr] at HC uN;have hne:er≠0:=uN.2;have hne2:((er:Int) == 0)=false:=by simp [hne]
  have Xq:((er:Int) != 0)=true:=by simp [hne]
  have rZ:Hid (res=.inr (j,er)):=by show _=_;rw [<-aQ.out];unfold nP;rw [hr]
  refine HC.out.mono ?_;rintro e w2 ⟨rfl,hq2⟩;obtain ⟨W3,hW3⟩:∃ W3,W3=w2.alloc (.cells (z13 (j:Nat) (er:Nat)) 72):=⟨_,rfl⟩;have hqa:ah w2 W3:=by rw [hW3];exact ah.alloc _ _
  have hr3:W3.heap[w2.heap.size]?=some (.cells (z13 (j:Nat) (er:Nat)) 72 (0,0)):=by rw [hW3];exact heap_alloc_new w2 _
  have hb3:=aC (hq2.trans hqa) (fun h=>h) HB0.out;have HB3:=hid hb3;have qI:=hid (bD.out.trans (hq2.trans hqa));have hw2:B < w2.heap.size:=Nat.lt_of_lt_of_le (lt_of_block HB0.out) hq2.size;go_upto_region 2 with fail
  change Code.wp _ _ _ _ (w2.alloc (.cells (z13 (j:Nat) (er:Nat)) 72));rw [<-hW3];clear hW3 hqa hq2 uN;generalize w2.heap.size=rb at *;have hn1:¬ B=rb:=by omega
  have hn2:¬ rb=B:=by omega
  obtain ⟨r0,r1,r2,r3,r4,r5,r6,r7,r8,r9,r10,r11,r12⟩:=aG hr3;obtain ⟨⟨t0,t1,t2,t3,t4,t5,t6,t7,t8⟩,u0,u1,u2,u3,u4,u5,u6,u7,u8⟩:=aW hb3;clear hr3 hb3;go_upto_region 5 with fail
  go_region;have hf:=(iM W3 B (.int .i64 0) (.string ⟨#[]⟩) (.int .i64 0) (.int .i64 0) (.int .i64 0) (.slice none 0 0) (.slice none 0 0) (.int .i64 0) (.int .i64 0)).trans (Fr.drew (fun k=>k=B) _);have gB:=au (ah.drew _) (dO (a0:=.int .i64 0) (a1:=.string ⟨#[]⟩) (a2:=.int .i64 0) (a3:=.int .i64 0) (a4:=.int .i64 0) (a5:=.slice none 0 0) (a6:=.slice none 0 0) (a7:=.int .i64 0) (a8:=.int .i64 0) HB3.out)
  first
   | with_reducible change Exit.then _ _ _ _ (fV W3 B (.int .i64 0) (.string ⟨#[]⟩) (.int .i64 0) (.int .i64 0) (.int .i64 0) (.slice none 0 0) (.slice none 0 0) (.int .i64 0) (.int .i64 0)).drew
   | change Exit.then _ _ _ _ (fV W3 B (.int .i64 0) (.string ⟨#[]⟩) (.int .i64 0) (.int .i64 0) (.int .i64 0) (.slice none 0 0) (.slice none 0 0) (.int .i64 0) (.int .i64 0)).drew
  generalize (fV W3 B (.int .i64 0) (.string ⟨#[]⟩) (.int .i64 0) (.int .i64 0) (.int .i64 0) (.slice none 0 0) (.slice none 0 0) (.int .i64 0) (.int .i64 0)).drew=wf at *;obtain ⟨⟨x0,x1,x2,x3,x4,x5,x6,x7,x8⟩,_⟩:=aW gB;clear gB;go_wp2_with fail;have dU:ah w wf:=(qI.out).trans' hf (fun k hk e=>by have:=bY.out;omega);refine bodyPost_ret (by simp [results,Tryd.results16,go_sem,x0,x1,x2,x3,x4,x5,x6,x7,x8];rfl) rfl ?_;rw [rZ.out];exact ⟨rfl,dU⟩
 | inl y =>
  obtain ⟨⟨h,ps⟩,x,j⟩:=y;rw [hr] at HC uN;have hj2:0 < j/\j < ts.length:=uN;obtain ⟨t9,PV⟩:∃ t9,ts[j]?=some t9:=⟨_,List.getElem?_eq_getElem hj2.2⟩;have xE:Hid (TR ts j=(t9.kind == 0)):=by show _=_;unfold TR;rw [PV]
  have hjl:(j:Int) < ts.length:=by omega
  have adS:¬ (j:Int)≥ts.length:=by omega
  have adT:¬ (ts.length:Int)<=j:=by omega
  have hj0:(0:Int)<=j:=by omega
  have hkn:=kind_eq t9.kind 0;refine HC.out.mono ?_;rintro e w2 ⟨o1,l1,c1,o2,l2,c2,rfl,hs1,hs2,hq2⟩;obtain ⟨W3,hW3⟩:∃ W3,W3=w2.alloc (.cells (c13 h o1 l1 c1 o2 l2 c2 x (j:Nat) 0) 72):=⟨_,rfl⟩;have hqa:ah w2 W3:=by rw [hW3];exact ah.alloc _ _
  have hr3:W3.heap[w2.heap.size]?=some (.cells (c13 h o1 l1 c1 o2 l2 c2 x (j:Nat) 0) 72 (0,0)):=by rw [hW3];exact heap_alloc_new w2 _
  have hb3:=aC (hq2.trans hqa) (fun h=>h) HB0.out;have HB3:=hid hb3;have qI:=hid (bD.out.trans (hq2.trans hqa));have hw2:B < w2.heap.size:=Nat.lt_of_lt_of_le (lt_of_block HB0.out) hq2.size;have nH:=hid (hs1.stay hqa);have HS2:=hid (hs2.stay hqa);have hw0:=lt_of_block HB0.out;have k0:=WG.out j t9 PV W3 qI.out;go_upto_region 2 with fail
  change Code.wp _ _ _ _ (w2.alloc (.cells (c13 h o1 l1 c1 o2 l2 c2 x (j:Nat) 0) 72));rw [<-hW3];clear hW3 hqa hq2 uN hs1 hs2 PV;generalize w2.heap.size=rb at *;have hn1:¬ B=rb:=by omega
  have hn2:¬ rb=B:=by omega
  have HR3:=hid hr3;obtain ⟨r0,r1,r2,r3,r4,r5,r6,r7,r8,r9,r10,r11,r12⟩:=aG hr3;have v0:=ak hr3 0;have v1:=ak hr3 1;have v2:=ak hr3 2;have v3:=ak hr3 3;have v4:=ak hr3 4;have v5:=ak hr3 5;have v6:=ak hr3 6;have v7:=ak hr3 7;have v8:=ak hr3 8;have v9:=ak hr3 9;have v10:=ak hr3 10;have v11:=ak hr3 11;have v12:=ak hr3 12;obtain ⟨⟨t0,t1,t2,t3,t4,t5,t6,t7,t8⟩,u0,u1,u2,u3,u4,u5,u6,u7,u8⟩:=aW hb3;clear hr3 hb3;cases hke:(t9.kind == 0)
  case true =>
   have hk1:((t9.kind:Int) != 0)=false:=by rw [bne,show ((t9.kind:Int) == 0)=true from hkn.trans hke];rfl
   have rZ:Hid (res=.inl ((h,ps),x,j+1)):=by show _=_;rw [<-aQ.out];unfold nP;rw [hr];show (if TR ts j=true then _ else _)=_;rw [if_pos (by rw [xE.out,hke])]
   clear hkn hke;go_upto_region 6 with fail
   go_region;have hf:=(iM W3 B (.int .i64 h.k) (.string h.nm) (.int .i64 h.n) (.int .i64 h.tk) (.int .i64 h.tn) (.slice o1 l1 c1) (.slice o2 l2 c2) (.int .i64 h.fr) (.int .i64 h.en)).trans (Fr.drew (fun k=>k=B) _);have gB:=au (ah.drew _) (dO (a0:=.int .i64 h.k) (a1:=.string h.nm) (a2:=.int .i64 h.n) (a3:=.int .i64 h.tk) (a4:=.int .i64 h.tn) (a5:=.slice o1 l1 c1) (a6:=.slice o2 l2 c2) (a7:=.int .i64 h.fr) (a8:=.int .i64 h.en) HB3.out)
   first
    | with_reducible change Exit.then _ _ _ _ (fV W3 B (.int .i64 h.k) (.string h.nm) (.int .i64 h.n) (.int .i64 h.tk) (.int .i64 h.tn) (.slice o1 l1 c1) (.slice o2 l2 c2) (.int .i64 h.fr) (.int .i64 h.en)).drew
    | change Exit.then _ _ _ _ (fV W3 B (.int .i64 h.k) (.string h.nm) (.int .i64 h.n) (.int .i64 h.tk) (.int .i64 h.tn) (.slice o1 l1 c1) (.slice o2 l2 c2) (.int .i64 h.fr) (.int .i64 h.en)).drew
   generalize (fV W3 B (.int .i64 h.k) (.string h.nm) (.int .i64 h.n) (.int .i64 h.tk) (.int .i64 h.tn) (.slice o1 l1 c1) (.slice o2 l2 c2) (.int .i64 h.fr) (.int .i64 h.en)).drew=wf at *;obtain ⟨⟨x0,x1,x2,x3,x4,x5,x6,x7,x8⟩,_⟩:=aW gB;clear gB;go_wp2_with fail;have dU:ah w wf:=(qI.out).trans' hf (fun k hk e=>by have:=bY.out;omega);refine bodyPost_ret (by simp [results,Tryd.results16,go_sem,x0,x1,x2,x3,x4,x5,x6,x7,x8];rfl) rfl ?_;rw [rZ.out];exact ⟨o1,l1,c1,o2,l2,c2,rfl,nH.out.fr hf (fun b _ k=>by have k':W0.heap.size<=b:=k;exact ⟨by have:=bY.out;show w.heap.size<=b;omega,by omega⟩),HS2.out.fr hf (fun b _ k=>by have k':W0.heap.size<=b:=k;exact ⟨by have:=bY.out;show w.heap.size<=b;omega,by omega⟩),dU⟩
  case false =>
   have hk1:((t9.kind:Int) != 0)=true:=by rw [bne,show ((t9.kind:Int) == 0)=false from hkn.trans hke];rfl
   have rZ:Hid (res=.inr (j,3)):=by show _=_;rw [<-aQ.out];unfold nP;rw [hr];show (if TR ts j=true then _ else _)=_;rw [if_neg (by rw [xE.out,hke];simp)]
   have Lr:=hid (kN (j:Int) 3 W3);clear hkn hke;go_wp2_with fail;refine Lr.out.mono ?_;rintro e w4 ⟨rfl,hq4⟩;have hr4:=au hq4 HR3.out;have hb4:=au hq4 HB3.out;clear r0 v0 r1 v1 r2 v2 r3 v3 r4 v4 r5 v5 r6 v6 r7 v7 r8 v8 r9 v9 r10 v10 r11 v11 r12 v12 t0 u0 t1 u1 t2 u2 t3 u3 t4 u4 t5 u5 t6 u6 t7 u7 t8 u8;obtain ⟨r0,r1,r2,r3,r4,r5,r6,r7,r8,r9,r10,r11,r12⟩:=aG hr4;have v0:=ak hr4 0;have v1:=ak hr4 1;have v2:=ak hr4 2;have v3:=ak hr4 3;have v4:=ak hr4 4;have v5:=ak hr4 5;have v6:=ak hr4 6;have v7:=ak hr4 7;have v8:=ak hr4 8;have v9:=ak hr4 9;have v10:=ak hr4 10;have v11:=ak hr4 11;have v12:=ak hr4 12;go_upto_region 4 with fail
   change Code.wp _ _ _ _ (aN w4 rb (.int .i64 0) (.string ⟨#[]⟩) (.int .i64 0) (.int .i64 0) (.int .i64 0) (.slice none 0 0) (.slice none 0 0) (.int .i64 0) (.int .i64 0) (.int .i64 0) (.int .i64 0) (.int .i64 (j:Nat)) (.int .i64 3));have hf5:=bg w4 rb (.int .i64 0) (.string ⟨#[]⟩) (.int .i64 0) (.int .i64 0) (.int .i64 0) (.slice none 0 0) (.slice none 0 0) (.int .i64 0) (.int .i64 0) (.int .i64 0) (.int .i64 0) (.int .i64 (j:Nat)) (.int .i64 3);have ZB:=aK (a0:=.int .i64 0) (a1:=.string ⟨#[]⟩) (a2:=.int .i64 0) (a3:=.int .i64 0) (a4:=.int .i64 0) (a5:=.slice none 0 0) (a6:=.slice none 0 0) (a7:=.int .i64 0) (a8:=.int .i64 0) (a9:=.int .i64 0) (a10:=.int .i64 0) (a11:=.int .i64 (j:Nat)) (a12:=.int .i64 3) hr4;have hb5:=aC hf5 (by omega) hb4;have HB5:=hid hb5;have qU:=hid ((qI.out.trans hq4).trans' hf5 (fun b hb e=>by have:=bY.out;omega));clear hf5 hr4 hb4 hq4 r0 v0 r1 v1 r2 v2 r3 v3 r4 v4 r5 v5 r6 v6 r7 v7 r8 v8 r9 v9 r10 v10 r11 v11 r12 v12;generalize aN w4 rb (.int .i64 0) (.string ⟨#[]⟩) (.int .i64 0) (.int .i64 0) (.int .i64 0) (.slice none 0 0) (.slice none 0 0) (.int .i64 0) (.int .i64 0) (.int .i64 0) (.int .i64 0) (.int .i64 (j:Nat)) (.int .i64 3)=W5 at *;obtain ⟨r0,r1,r2,r3,r4,r5,r6,r7,r8,r9,r10,r11,r12⟩:=aG ZB;obtain ⟨⟨t0,t1,t2,t3,t4,t5,t6,t7,t8⟩,u0,u1,u2,u3,u4,u5,u6,u7,u8⟩:=aW hb5;clear ZB hb5;go_upto_region 5 with fail
   go_region;have hf:=(iM W5 B (.int .i64 0) (.string ⟨#[]⟩) (.int .i64 0) (.int .i64 0) (.int .i64 0) (.slice none 0 0) (.slice none 0 0) (.int .i64 0) (.int .i64 0)).trans (Fr.drew (fun k=>k=B) _);have gB:=au (ah.drew _) (dO (a0:=.int .i64 0) (a1:=.string ⟨#[]⟩) (a2:=.int .i64 0) (a3:=.int .i64 0) (a4:=.int .i64 0) (a5:=.slice none 0 0) (a6:=.slice none 0 0) (a7:=.int .i64 0) (a8:=.int .i64 0) HB5.out)
   first
    | with_reducible change Exit.then _ _ _ _ (fV W5 B (.int .i64 0) (.string ⟨#[]⟩) (.int .i64 0) (.int .i64 0) (.int .i64 0) (.slice none 0 0) (.slice none 0 0) (.int .i64 0) (.int .i64 0)).drew
    | change Exit.then _ _ _ _ (fV W5 B (.int .i64 0) (.string ⟨#[]⟩) (.int .i64 0) (.int .i64 0) (.int .i64 0) (.slice none 0 0) (.slice none 0 0) (.int .i64 0) (.int .i64 0)).drew
   generalize (fV W5 B (.int .i64 0) (.string ⟨#[]⟩) (.int .i64 0) (.int .i64 0) (.int .i64 0) (.slice none 0 0) (.slice none 0 0) (.int .i64 0) (.int .i64 0)).drew=wf at *;obtain ⟨⟨x0,x1,x2,x3,x4,x5,x6,x7,x8⟩,_⟩:=aW gB;clear gB;go_wp2_with fail;have dU:ah w wf:=(qU.out).trans' hf (fun k hk e=>by have:=bY.out;omega);refine bodyPost_ret (by simp [results,Tryd.results16,go_sem,x0,x1,x2,x3,x4,x5,x6,x7,x8];rfl) rfl ?_;rw [rZ.out];exact ⟨rfl,dU⟩
theorem EP:∀ (at':Nat) (l:List UInt8) (p:Nat × Nat),dK at' l=.inr p->p.1<=at'+l.length:=by
 suffices h:∀ (n:Nat) (at':Nat) (l:List UInt8) (p:Nat × Nat),l.length<=n->dK at' l=.inr p->p.1<=at'+l.length from fun a l ts hw=>h l.length a l ts (Nat.le_refl _) hw
 intro n
 induction n with
 | zero =>
  intro a l p hl hw;have:l=[]:=List.eq_nil_of_length_eq_zero (by omega);subst this;rw [ku rfl] at hw;cases hw
 | succ n ih =>
  intro a l p hl hw;have hle:=ng false l
  by_cases hk:aO false l=l.length
  ·rw [ku hk] at hw;cases hw
  ·by_cases he:(nextL (l.drop (aO false l))).2.2=0
   ·have hlen:=qH he;rw [oL (by omega) he] at hw
    revert hw
    cases hr:dK (a+aO false l+(nextL (l.drop (aO false l))).2.1) ((l.drop (aO false l)).drop (nextL (l.drop (aO false l))).2.1) with
    | inr e =>
     intro hw;have:=ih _ _ e (by simp only [List.length_drop] at *;omega) hr;cases hw;simp only [List.length_drop] at *;omega
    | inl us=>intro hw;cases hw
   ·rw [oK (by omega) he] at hw;cases hw;simp;omega
def ZJ (w:World) (r:Sum (Nd × To) (Pt × Nat)) (e:Ending) (w':World):Prop:=match r with
 | .inl (h,ps)=>∃ o1 l1 c1 o2 l2 c2,e=.returned (.tuple #[bP h o1 l1 c1 o2 l2 c2,.agg #[.int .i64 0,.int .i64 0],.int .i64 0])/\aB (fun b=>w.heap.size<=b) w' o1 l1 h.tp/\bC (fun b=>w.heap.size<=b) w' o2 l2 ps/\ah w w'
 | .inr (p,er)=>e=.returned (.tuple #[.agg zero9,.agg #[.int .i64 p.1,.int .i64 p.2],.int .i64 (er:Nat)])/\ah w w'
theorem P7 {w:World} {B:Nat} {a b:Value} {t:TypeId} (h:w.heap[B]?=some (.cells #[a,b] t (0,0))):w.cell? ⟨B,0,none⟩=some a/\w.cell? ⟨B,1,none⟩=some b/\w.frozen? ⟨B,0,none⟩=false/\w.frozen? ⟨B,1,none⟩=false:=by
 refine ⟨?_,?_,?_,?_⟩
 ·rw [cell_of_row _ _ _ _ _ (0,0) h];rfl
 ·rw [cell_of_row _ _ _ _ _ (0,0) h];rfl
 ·simp [World.frozen?,h]
 ·simp [World.frozen?,h]
def xW (w:World) (B C:Nat) (a0 a1 a2 a3 a4 a5 a6 a7 a8 b0 b1:Value):World:=((fV w B a0 a1 a2 a3 a4 a5 a6 a7 a8).setCell ⟨C,0,none⟩ b0).setCell ⟨C,1,none⟩ b1
theorem zn {w : World} {B C : Nat} {z0 z1 z2 z3 z4 z5 z6 z7 z8 y0 y1 : Value} {t t' : TypeId} (h : w.heap[B]? = some (.cells #[z0, z1, z2, z3, z4, z5, z6, z7, z8] t (0, 0))) (h' : w.heap[C]? = some (.cells #[y0, y1] t' (0, 0))) (hn : B ≠ C) (a0 a1 a2 a3 a4 a5 a6 a7 a8 b0 b1 : Value) :
    Fr (fun k=>k=B∨k=C) w (xW w B C a0 a1 a2 a3 a4 a5 a6 a7 a8 b0 b1)/\(xW w B C a0 a1 a2 a3 a4 a5 a6 a7 a8 b0 b1).heap[B]?=some (.cells #[a0,a1,a2,a3,a4,a5,a6,a7,a8] t (0,0))/\(xW w B C a0 a1 a2 a3 a4 a5 a6 a7 a8 b0 b1).heap[C]?=some (.cells #[b0,b1] t' (0,0)):=by
 have h1:=iM w B a0 a1 a2 a3 a4 a5 a6 a7 a8;have h2:=Fr.setCell (fun k=>k=C) (fV w B a0 a1 a2 a3 a4 a5 a6 a7 a8) ⟨C,0,none⟩ b0 rfl;have h3:=Fr.setCell (fun k=>k=C) ((fV w B a0 a1 a2 a3 a4 a5 a6 a7 a8).setCell ⟨C,0,none⟩ b0) ⟨C,1,none⟩ b1 rfl;refine ⟨((h1.mono (fun _ _ k=>.inl k)).trans (h2.mono (fun _ _ k=>.inr k))).trans (h3.mono (fun _ _ k=>.inr k)),aC h3 hn (aC h2 hn (dO h)),aF (i:=1) (u:=b1) (aF (i:=0) (u:=b0) (aC h1 (fun e=>hn e.symm) h'))⟩
theorem Fv {s:List UInt8} {ts:List Tok} (h:jZ s=.inl ts):∀ t∈ts,t.text.length<=s.length:=by
 intro t ht
 by_cases hk:t.kind=0
 ·obtain ⟨us,n,rfl,hu⟩:=tX _ _ _ _ h;rcases List.mem_append.1 ht with h1 | h1
  ·exact absurd hk (hu t h1)
  ·simp at h1;subst h1;exact Nat.zero_le _
 ·have h1:=(wF h t ht).2 hk;rw [h1.2.2,List.length_take,List.length_drop];omega
theorem Jm (s : ByteArray) (hs : s.size <= 100000) (f : Nat) (mo : Int) (hf : f = mo.toNat) (hm1 : -1000000 <= mo) (hm2 : mo <= 800000) (w : World) :
    Calls Tryd.prog 5 #[.string s,.int .i64 mo] w (ZJ w (vT s.data.toList f)):=by
 obtain ⟨W0,hW0⟩:∃ W0,W0=(w.alloc (.cells zero9 30)).alloc (.cells #[.int .i64 0,.int .i64 0] 28):=⟨_,rfl⟩;have bD:Hid (ah w W0):=by rw [hW0];exact (ah.alloc _ _).trans (ah.alloc _ _)
 have HB0:Hid (W0.heap[w.heap.size]?=some (.cells zero9 30 (0,0))):=by show _=_;rw [hW0,Below.heap_alloc _ _ _ (by simp)];exact heap_alloc_new w _
 have HS0:Hid (W0.heap[w.heap.size+1]?=some (.cells #[.int .i64 0,.int .i64 0] 28 (0,0))):=by
  show _=_;rw [hW0]
  have:=heap_alloc_new (w.alloc (.cells zero9 30)) (.cells #[.int .i64 0,.int .i64 0] 28);simpa using this
 have HC:=hid (Hq s hs W0);have HWH:Hid (∀ (ts:List Tok) (g c:Nat) (W:World),jZ s.data.toList=.inl ts->nN W g ts->Calls Tryd.prog 16 #[tks g ts c,.int .i64 mo] W (TQ W (nP ts f))):=fun ts g c W hw ht=>P6 ts g c f mo W (mJ hw).1 (mJ hw).2 (fun t h=>by have:=Fv hw t h;rw [bH] at this;omega) ht hf hm1 hm2
 have HLE:Hid (∀ ts,jZ s.data.toList=.inl ts->ts.length<=1000000):=by
  intro ts h;have:=CG _ _ _ h;rw [bH] at this;omega
 obtain ⟨res,hres⟩:∃ res,vT s.data.toList f=res:=⟨_,rfl⟩;have aQ:=hid hres;rw [hres];clear hres hf;go_enter Tryd.func5,Tryd.ntmps5;go_wp2_with fail;change Calls _ _ _ ((w.alloc (.cells zero9 30)).alloc (.cells #[.int .i64 0,.int .i64 0] 28)) _;rw [<-hW0];clear hW0;generalize hB:w.heap.size=B at *;have bY:=hid hB;clear hB;cases hw:jZ s.data.toList with
 | inr y =>
  obtain ⟨a,er⟩:=y;have hne:er≠0:=wG _ _ _ _ hw;have hne2:((er:Int) != 0)=true:=by simp [hne]
  have rZ:Hid (res=.inr (((a:Int),(a:Int)+1),er)):=by show _=_;rw [<-aQ.out];unfold vT;rw [hw]
  refine HC.out.mono ?_;intro e w2 hp;obtain ⟨hq2,rfl⟩:=hp.bad hw;have ha:a<=100000:=by have h1:a<=0+s.data.toList.length:=EP 0 _ _ hw;rw [bH] at h1;omega
  have HB2:=hid (au hq2 HB0.out);have HS2:=hid (au hq2 HS0.out);have fC:=hid (bD.out.trans hq2);have hb2:=HB2.out;obtain ⟨s0,s1,s2,s3⟩:=P7 HS2.out;obtain ⟨⟨t0,t1,t2,t3,t4,t5,t6,t7,t8⟩,u0,u1,u2,u3,u4,u5,u6,u7,u8⟩:=aW hb2;clear hb2 hq2 hp hw;go_wp2_with fail;obtain ⟨hf,gB,hs9⟩:=zn HB2.out HS2.out (by omega) (.int .i64 0) (.string ⟨#[]⟩) (.int .i64 0) (.int .i64 0) (.int .i64 0) (.slice none 0 0) (.slice none 0 0) (.int .i64 0) (.int .i64 0) (.int .i64 (a:Nat)) (.int .i64 ((a:Int)+1));change bodyPost _ _ _ _ _ (xW w2 B (B+1) (.int .i64 0) (.string ⟨#[]⟩) (.int .i64 0) (.int .i64 0) (.int .i64 0) (.slice none 0 0) (.slice none 0 0) (.int .i64 0) (.int .i64 0) (.int .i64 (a:Nat)) (.int .i64 ((a:Int)+1)));generalize (xW w2 B (B+1) (.int .i64 0) (.string ⟨#[]⟩) (.int .i64 0) (.int .i64 0) (.int .i64 0) (.slice none 0 0) (.slice none 0 0) (.int .i64 0) (.int .i64 0) (.int .i64 (a:Nat)) (.int .i64 ((a:Int)+1)))=wf at *;obtain ⟨⟨x0,x1,x2,x3,x4,x5,x6,x7,x8⟩,_⟩:=aW gB;obtain ⟨y0,y1,_,_⟩:=P7 hs9;have dU:ah w wf:=(fC.out).trans' hf (fun k hk e=>by have:=bY.out;omega);refine bodyPost_ret (by simp [results,Tryd.results5,go_sem,x0,x1,x2,x3,x4,x5,x6,x7,x8,y0,y1];rfl) rfl ?_;rw [rZ.out];exact ⟨rfl,dU⟩
 | inl ts =>
  refine HC.out.mono ?_;intro e w2 hp;obtain ⟨hq2,g,c,rfl,hrow⟩:=hp.ok hw;have htk:nN w2 g ts:=⟨hrow.at,hrow.lt.2,HLE.out ts hw⟩;have hlen:=HLE.out ts hw;have hgl:W0.heap.size<=g:=hrow.lt.1;have hz0:B+1 < W0.heap.size:=lt_of_block HS0.out;have HWC:=hid (HWH.out ts g c w2 hw htk);have Es:=hid (mJ hw);have HTR:Hid (res=match nP ts f with
   | .inl (t,_,_)=>.inl t
   | .inr (i,e)=>.inr (at' ts i,e)):=by show _=_;rw [<-aQ.out];unfold vT;rw [hw];rfl
  have fC:=hid hq2;have P8:=hid htk;clear hp hrow hw htk hq2;go_wp2_with fail;cases hr:nP ts f with
  | inr y =>
   obtain ⟨j,er⟩:=y;obtain ⟨hj,hne⟩:=Fz Es.out.1 Es.out.2 f j er hr;have hne2:((er:Int) != 0)=true:=by simp [hne]
   rw [hr] at HWC HTR;refine HWC.out.mono ?_;rintro e w3 ⟨rfl,hq3⟩;obtain ⟨W4,yP⟩:∃ W4,W4=w3.alloc (.cells zero9 30):=⟨_,rfl⟩;have hq4:ah w2 W4:=by rw [yP];exact hq3.trans (ah.alloc _ _)
   obtain ⟨t9,PV⟩:∃ t9,ts[j]?=some t9:=⟨_,List.getElem?_eq_getElem hj⟩;have HAT:Hid (at' ts j=(((t9.fr:Nat):Int),((t9.to:Nat):Int))):=LV PV;obtain ⟨k0,k1,k2,k3⟩:=(P8.out.stay hq4).cells j t9 PV;have hjl:(j:Int) < ts.length:=by omega
   have hj0:(0:Int)<=j:=by omega
   have HB4:=hid (au (fC.out.trans hq4) HB0.out);have GV:=hid (au (fC.out.trans hq4) HS0.out);have uI:=hid (bD.out.trans (fC.out.trans hq4));have hg2:=P8.out.lt;have hn1:¬ B=g:=by omega
   have hn2:¬ g=B:=by omega
   have hn3:¬ B+1=g:=by omega
   have hn4:¬ g=B+1:=by omega
   go_upto_region 6 with fail
   change Code.wp _ _ _ _ (w3.alloc (.cells zero9 30));rw [<-yP];clear yP hq4 hq3 PV hr;have hb4:=HB4.out;obtain ⟨s0,s1,s2,s3⟩:=P7 GV.out;obtain ⟨⟨t0,t1,t2,t3,t4,t5,t6,t7,t8⟩,u0,u1,u2,u3,u4,u5,u6,u7,u8⟩:=aW hb4;clear hb4;go_region;obtain ⟨hf,gB,hs9⟩:=zn HB4.out GV.out (by omega) (.int .i64 0) (.string ⟨#[]⟩) (.int .i64 0) (.int .i64 0) (.int .i64 0) (.slice none 0 0) (.slice none 0 0) (.int .i64 0) (.int .i64 0) (.int .i64 (t9.fr:Nat)) (.int .i64 (t9.to:Nat));change Exit.then _ _ _ _ (xW W4 B (B+1) (.int .i64 0) (.string ⟨#[]⟩) (.int .i64 0) (.int .i64 0) (.int .i64 0) (.slice none 0 0) (.slice none 0 0) (.int .i64 0) (.int .i64 0) (.int .i64 (t9.fr:Nat)) (.int .i64 (t9.to:Nat))).drew
   replace hf:=hf.trans (Fr.drew _ _);replace gB:=au (ah.drew _) gB;replace hs9:=au (ah.drew _) hs9;generalize (xW W4 B (B+1) (.int .i64 0) (.string ⟨#[]⟩) (.int .i64 0) (.int .i64 0) (.int .i64 0) (.slice none 0 0) (.slice none 0 0) (.int .i64 0) (.int .i64 0) (.int .i64 (t9.fr:Nat)) (.int .i64 (t9.to:Nat))).drew=wf at *;obtain ⟨⟨x0,x1,x2,x3,x4,x5,x6,x7,x8⟩,_⟩:=aW gB;obtain ⟨y0,y1,_,_⟩:=P7 hs9;go_wp2_with fail;have dU:ah w wf:=(uI.out).trans' hf (fun k hk e=>by have:=bY.out;omega);refine bodyPost_ret (by simp [results,Tryd.results5,go_sem,x0,x1,x2,x3,x4,x5,x6,x7,x8,y0,y1];rfl) rfl ?_;rw [HTR.out,HAT.out];exact ⟨rfl,dU⟩
  | inl y =>
   obtain ⟨⟨h,ps⟩,x,j⟩:=y;rw [hr] at HWC HTR;refine HWC.out.mono ?_;rintro e w3 ⟨o1,l1,c1,o2,l2,c2,rfl,hs1,hs2,hq3⟩;obtain ⟨W4,yP⟩:∃ W4,W4=w3.alloc (.cells (cells9 h o1 l1 c1 o2 l2 c2) 30):=⟨_,rfl⟩;have hqa:ah w3 W4:=by rw [yP];exact ah.alloc _ _
   have hq4:ah w2 W4:=hq3.trans hqa;have hx4:W4.heap[w3.heap.size]?=some (.cells (cells9 h o1 l1 c1 o2 l2 c2) 30 (0,0)):=by rw [yP];exact heap_alloc_new w3 _
   have HB4:=hid (au (fC.out.trans hq4) HB0.out);have GV:=hid (au (fC.out.trans hq4) HS0.out);have uI:=hid (bD.out.trans (fC.out.trans hq4));have nH:=hid (hs1.stay hqa);have HS2:=hid (hs2.stay hqa);have hw2:B+1 < w2.heap.size:=Nat.lt_of_lt_of_le (lt_of_block HS0.out) fC.out.size;unfold bP;go_upto_region 5 with fail
   change Code.wp _ _ _ _ (w3.alloc (.cells (cells9 h o1 l1 c1 o2 l2 c2) 30));rw [<-yP];clear yP hq4 hq3 hqa hs1 hs2 hr;generalize w3.heap.size=yb at *;have hb4:=HB4.out;obtain ⟨s0,s1,s2,s3⟩:=P7 GV.out;obtain ⟨⟨t0,t1,t2,t3,t4,t5,t6,t7,t8⟩,u0,u1,u2,u3,u4,u5,u6,u7,u8⟩:=aW hb4;obtain ⟨⟨r0,r1,r2,r3,r4,r5,r6,r7,r8⟩,v0,v1,v2,v3,v4,v5,v6,v7,v8⟩:=aW hx4;clear hb4 hx4;go_wp2_with fail;obtain ⟨hf,gB,hs9⟩:=zn HB4.out GV.out (by omega) (.int .i64 h.k) (.string h.nm) (.int .i64 h.n) (.int .i64 h.tk) (.int .i64 h.tn) (.slice o1 l1 c1) (.slice o2 l2 c2) (.int .i64 h.fr) (.int .i64 h.en) (.int .i64 0) (.int .i64 0);change bodyPost _ _ _ _ _ (xW W4 B (B+1) (.int .i64 h.k) (.string h.nm) (.int .i64 h.n) (.int .i64 h.tk) (.int .i64 h.tn) (.slice o1 l1 c1) (.slice o2 l2 c2) (.int .i64 h.fr) (.int .i64 h.en) (.int .i64 0) (.int .i64 0));generalize (xW W4 B (B+1) (.int .i64 h.k) (.string h.nm) (.int .i64 h.n) (.int .i64 h.tk) (.int .i64 h.tn) (.slice o1 l1 c1) (.slice o2 l2 c2) (.int .i64 h.fr) (.int .i64 h.en) (.int .i64 0) (.int .i64 0))=wf at *;obtain ⟨⟨x0,x1,x2,x3,x4,x5,x6,x7,x8⟩,_⟩:=aW gB;obtain ⟨y0,y1,_,_⟩:=P7 hs9;have dU:ah w wf:=(uI.out).trans' hf (fun k hk e=>by have:=bY.out;omega);refine bodyPost_ret (by simp [results,Tryd.results5,go_sem,x0,x1,x2,x3,x4,x5,x6,x7,x8,y0,y1];rfl) rfl ?_;rw [HTR.out];exact ⟨o1,l1,c1,o2,l2,c2,rfl,nH.out.fr hf (fun b _ k=>by have k':w2.heap.size<=b:=k;exact ⟨by have:=bY.out;show w.heap.size<=b;omega,by omega⟩),HS2.out.fr hf (fun b _ k=>by have k':w2.heap.size<=b:=k;exact ⟨by have:=bY.out;show w.heap.size<=b;omega,by omega⟩),dU⟩
end Pa
end
section
namespace Pa
open Lx
def sH:Fo->Bool
 | .nil=>true
 | .cons k _ ps r=>!(k == 1) && sH ps && sH r
theorem zo:∀ (f:Fo) (l:List Int),sH f=true->Fo.vars l f=l
 | .nil,l,_=>rfl
 | .cons k n ps r,l,h=>by
  simp only [sH,Bool.and_eq_true] at h;have hk:(k == 1)=false:=by simpa using h.1.1
  simp only [Fo.vars,hk,Bool.false_and,Bool.false_eq_true,if_false];rw [zo ps l h.1.2,zo r l h.2]
def xX (k m:Int) (qs:Fo):Prop:=lI k m qs=true/\sH (.cons k m qs .nil)=true
def ER (f:Fo):Prop:=f.right=true/\sH f=true
def P9:l7->Prop
 | .inl ((k,m,qs),_)=>xX k m qs
 | .inr _=>True
theorem FB:∀ f g:Fo,sH (f.app g)=(sH f && sH g)
 | .nil,g=>by simp [Fo.app,sH]
 | .cons k n ps r,g=>by simp [Fo.app,sH,FB r g,Bool.and_assoc]
theorem CJ:∀ f g:Fo,(f.app g).right=(f.right && g.right)
 | .nil,g=>by simp [Fo.app,Fo.right]
 | .cons k n ps r,g=>by simp [Fo.app,Fo.right,CJ r g,Bool.and_assoc]
theorem xX.one {k m:Int} {qs:Fo} (h:xX k m qs):ER (.cons k m qs .nil):=⟨by rw [wH,h.1];rfl,h.2⟩
theorem ER.app {f g:Fo} (h:ER f) (h':ER g):ER (f.app g):=⟨by rw [CJ,h.1,h'.1];rfl,by rw [FB,h.2,h'.2];rfl⟩
theorem xX.node {k:Int} {ps:Fo} (hk:k=4/\ps.length=2∨k=5/\2<=ps.length/\ps.length<=8) (h:ER ps):xX k 0 ps:=by
 refine ⟨?_,?_⟩
 ·unfold lI;rw [h.1];rcases hk with ⟨rfl,h2⟩ | ⟨rfl,h2,h3⟩
  ·simp [Fo.plain,h2]
  ·simp [Fo.plain,h2,h3]
 ·simp only [sH,h.2];rcases hk with ⟨rfl,_⟩ | ⟨rfl,_⟩<;>rfl
theorem Ae {T:Nat->l7} {l:List Tok} (hT:∀ i,P9 (T i)):∀ (n:Nat) (ps:Fo) (i:Nat) (qs:Fo) (j:Nat),ER ps->1<=ps.length->ps.length<=8->gV T l n ps i=.inl (qs,j)->ER qs/\1<=qs.length/\qs.length<=8
 | 0,ps,i,qs,j,hp,h1,h8,h=>by
  unfold gV at h;cases h;exact ⟨hp,h1,h8⟩
 | n+1,ps,i,qs,j,hp,h1,h8,h=>by
  unfold gV at h
  split at h
  ·split at h
   ·cases h
   ·next h7 =>
    have ht:=hT (i+1)
    split at h
    ·cases h
    ·next k m us j' he =>
     rw [he] at ht;exact Ae hT n _ _ qs j (hp.app (xX.one ht)) (by rw [Fo.bJ];omega) (by rw [Fo.bJ];simp [Fo.length];omega) h
  ·cases h;exact ⟨hp,h1,h8⟩
theorem Jo {l:List Tok}:∀ (x:Sum (Fo × Nat) (Nat × Nat)),(∀ qs j,x=.inl (qs,j)->ER qs/\1<=qs.length/\qs.length<=8)->P9 (oP l x)
 | .inr e,_=>trivial
 | .inl (ps,j),h=>by
  obtain ⟨h1,h2,h3⟩:=h ps j rfl;unfold oP
  by_cases hc:bZ l j 4 iw=true
  ·simp only [hc,if_true]
   split
   ·next k m qs =>
    refine ⟨?_,h1.2⟩;have:=h1.1;rw [wH] at this;simpa [Fo.right] using this
   ·next hne =>
    refine xX.node (.inr ⟨rfl,?_,h3⟩) h1
    match ps,hne,h2 with
    | .cons k m qs .nil,hne,_=>exact absurd rfl (hne k m qs)
    | .cons _ _ _ (.cons _ _ _ _),_,_=>simp [Fo.length]
  ·simp only [hc,if_false,Bool.false_eq_true];trivial
theorem Jp (l:List Tok):∀ (f i:Nat),P9 (qh l f i)
 | 0,i=>trivial
 | f+1,i=>by
  have ih:=fun i=>Jp l f i
  have hh:P9 (jv (qh l f) l i):=by
   unfold jv
   split
   ·exact ⟨by decide,by decide⟩
   split
   ·exact ⟨by decide,by decide⟩
   split
   ·have h2:=ih (i+1);unfold SG
    split
    ·trivial
    ·next k m qs j he =>
     rw [he] at h2;exact Jo _ (fun us j' h=>Ae ih 8 _ _ us j' (xX.one h2) (by simp [Fo.length]) (by simp [Fo.length]) h)
   ·trivial
  unfold qh;unfold Fp
  split
  ·trivial
  ·next k m qs j he =>
   rw [he] at hh
   split
   ·have h2:=ih (j+1);unfold BQ
    split
    ·trivial
    ·next k2 m2 qY j2 he2 =>
     rw [he2] at h2;exact xX.node (.inl ⟨rfl,by simp [Fo.length]⟩) (ER.app (f:=.cons k m qs .nil) (xX.one hh) (xX.one h2))
   ·exact hh
theorem xX.closed {k m:Int} {qs:Fo} (h:xX k m qs):xQ k m qs=true:=by
 unfold xQ;rw [h.1,zo _ _ h.2];rfl
def vk (G:Nd->To->Prop):To->Prop
 | .nil=>True
 | .cons h ps r=>G h ps/\vk G ps/\vk G r
theorem CO {G:Nd->To->Prop}:∀ f g:To,vk G f->vk G g->vk G (f.app g)
 | .nil,_,_,h=>h
 | .cons _ _ r,g,h1,h2=>⟨h1.1,h1.2.1,CO r g h1.2.2 h2⟩
theorem mX:∀ f g:To,(f.app g).length=f.length+g.length
 | .nil,g=>by simp [To.app,To.length]
 | .cons h ps r,g=>by simp [To.app,To.length,mX r g];omega
def sJ (l:List Tok) (h:Nd) (ps:To):Prop:=fK h ps.length=true/\(h.k=1->∃ t∈l,t.kind=1/\h.nm=⟨t.text.toArray⟩/\h.fr=t.fr/\h.en=t.to)
def Jq (l:List Tok):iU->Prop
 | .inl ((h,ps),_)=>sJ l h ps/\vk (sJ l) ps
 | .inr _=>True
theorem oz {l:List Tok} {k:Int} {nm:List UInt8} {n:Int} {p:Pt} {ps:To} (hk:k≠1) (h1:1<=k) (h10:k<=9) (hn:nO (nd k nm n p)=true) (h0:0<=n) (ht:n<=G9 k) (hl:rC k<=ps.length) (hm:(ps.length:Int)<=xP k):sJ l (nd k nm n p) ps:=by
 refine ⟨?_,fun e=>absurd e hk⟩;have ht':rD (nd k nm n p)=true:=by
  unfold rD nd;have:(k == 10)=false:=by simp;omega
  simp only [this,Bool.false_eq_true,if_false];rfl
 unfold fK;rw [hn,ht'];have a1:decide (1<=(nd k nm n p).k)=true:=decide_eq_true h1;have a2:decide ((nd k nm n p).k<=10)=true:=decide_eq_true (show k<=10 by omega);have a3:decide (0<=(nd k nm n p).n)=true:=decide_eq_true h0;have a4:decide ((nd k nm n p).n<=G9 (nd k nm n p).k)=true:=decide_eq_true ht;have a5:decide (rC (nd k nm n p).k<=ps.length)=true:=decide_eq_true hl;have a6:decide ((ps.length:Int)<=xP (nd k nm n p).k)=true:=decide_eq_true hm;rw [a1,a2,a3,a4,a5,a6];rfl
theorem qJ {k:Int} {n:Int} {p:Pt} (h:Aa k=false):nO (nd k [] n p)=true:=by
 unfold nO nd;simp only [h,Bool.false_eq_true,if_false];exact (wI _).trans rfl
theorem uO {k:Int} {nm:List UInt8} {n:Int} {p:Pt} (h:Aa k=true) (hn:nameB nm=true):nO (nd k nm n p)=true:=by
 unfold nO nd;simp only [h,if_true];exact hn
theorem FC {E:Nat->iU} {l:List Tok} (hE:∀ i,Jq l (E i)):∀ (n:Nat) (ps:To) (i:Nat) (qs:To) (j:Nat),vk (sJ l) ps->1<=ps.length->ps.length<=8->pW E l n ps i=.inl (qs,j)->vk (sJ l) qs/\1<=qs.length/\qs.length<=8
 | 0,ps,i,qs,j,hp,h1,h8,h=>by
  unfold pW at h;cases h;exact ⟨hp,h1,h8⟩
 | n+1,ps,i,qs,j,hp,h1,h8,h=>by
  unfold pW at h
  split at h
  ·split at h
   ·cases h
   ·next h7 =>
    have ht:=hE (i+1)
    split at h
    ·cases h
    ·next hd us x j' he =>
     rw [he] at ht;exact FC hE n (ps.app (.cons hd us .nil)) _ qs j (CO ps (.cons hd us .nil) hp ⟨ht.1,ht.2,trivial⟩) (by rw [mX];omega) (by rw [mX];simp [To.length];omega) h
  ·cases h;exact ⟨hp,h1,h8⟩
theorem L6 {l:List Tok} {i0:Nat}:∀ (x:Sum (To × Nat) (Nat × Nat)),(∀ qs j,x=.inl (qs,j)->vk (sJ l) qs/\1<=qs.length/\qs.length<=8)->Jq l (qj l i0 x)
 | .inr e,_=>trivial
 | .inl (ps,j),h=>by
  obtain ⟨h1,h2,h3⟩:=h ps j rfl;unfold qj
  by_cases hc:bZ l j 4 iw=true
  ·simp only [hc,if_true]
   split
   ·next hd qs=>exact ⟨h1.1,h1.2.1⟩
   ·next hne =>
    refine ⟨oz (by decide) (by decide) (by decide) (qJ (by decide)) (by decide) (by decide) ?_ (by show (ps.length:Int)<=8;omega),h1⟩
    show (2:Int)<=ps.length
    match ps,hne,h2 with
    | .cons hd qs .nil,hne,_=>exact absurd rfl (hne hd qs)
    | .cons _ _ (.cons _ _ _),_,_=>simp [To.length];omega
  ·simp only [hc,if_false,Bool.false_eq_true];trivial
theorem CP {E:Nat->iU} {T:Nat->l7} {l:List Tok} (hl:∀ t∈l,Jr t) (hE:∀ i,Jq l (E i)) (hT:∀ i,P9 (T i)) (i:Nat):Jq l (gy E T l i):=by
 unfold gy
 split
 ·split
  ·trivial
  ·next t ht =>
   have hm:=List.mem_of_getElem? ht;have hg:=hl t hm
   split
   ·next h1 =>
    have h1':t.kind=1:=by simpa using h1
    refine ⟨⟨?_,fun _=>⟨t,hm,h1',rfl,rfl,rfl⟩⟩,trivial⟩;have hn:nO (nd 1 t.text 0 ((t.fr:Int),(t.to:Int)))=true:=uO (by decide) (hg.1 h1');unfold fK;rw [hn];rfl
   split
   ·next h2 =>
    have h2':=hg.2 (by simpa using h2);have hb:=Xx h2'.2 h2'.1;exact ⟨oz (by decide) (by decide) (by decide) (qJ (by decide)) hb.1 hb.2 (by decide) (by decide),trivial⟩
   split
   ·exact ⟨oz (by decide) (by decide) (by decide) (qJ (by decide)) (by decide) (by decide) (by decide) (by decide),trivial⟩
   split
   ·have h2:=hE (i+1);unfold SK
    split
    ·trivial
    ·next hd qs x j he =>
     rw [he] at h2
     split
     ·have h3:=hT (j+1);unfold EK
      split
      ·trivial
      ·next k m us j2 he2 =>
       rw [he2] at h3
       by_cases hc:bZ l j2 4 iw=true
       ·simp only [hc,if_true];refine ⟨⟨?_,fun e=>absurd e (by show ¬ (10:Int)=1;decide)⟩,⟨h2.1,h2.2,trivial⟩⟩;have ht:rD ⟨10,ByteArray.empty,0,k,m,us,(aT (at' l i) (at' l j2)).1,(aT (at' l i) (at' l j2)).2⟩=true:=by
         unfold rD;exact xX.closed h3
        have hn:nO ⟨10,ByteArray.empty,0,k,m,us,(aT (at' l i) (at' l j2)).1,(aT (at' l i) (at' l j2)).2⟩=true:=by
         unfold nO;exact (wI _).trans rfl
        unfold fK;rw [ht,hn];rfl
       ·simp only [hc,if_false,Bool.false_eq_true];trivial
     ·exact L6 _ (fun us j' h=>FC hE 8 (.cons hd qs .nil) _ us j' ⟨h2.1,h2.2,trivial⟩ (by simp [To.length]) (by simp [To.length]) h)
   ·exact ⟨oz (by decide) (by decide) (by decide) (qJ (by decide)) (by decide) (by decide) (by decide) (by decide),trivial⟩
 ·trivial
theorem FD {E:Nat->iU} {T:Nat->l7} {l:List Tok} (hl:∀ t∈l,Jr t) (hE:∀ i,Jq l (E i)) (hT:∀ i,P9 (T i)):∀ (n:Nat) (t:Nd × To) (x:Pt) (i:Nat),(sJ l t.1 t.2/\vk (sJ l) t.2)->Jq l (sO E T l n t x i)
 | 0,t,x,i,h=>h
 | n+1,t,x,i,h=>by
  unfold sO
  split
  ·have h2:=CP hl hE hT i
   split
   ·trivial
   ·next t2 x2 j he =>
    rw [he] at h2;refine FD hl hE hT n _ _ j ⟨?_,h.1,h.2,h2.1,h2.2,trivial⟩;exact oz (by decide) (by decide) (by decide) (qJ (by decide)) (by decide) (by decide) (by show (2:Int)<=((2:Nat):Int);decide) (by show ((2:Nat):Int)<=2;decide)
  ·exact h
def nE:List Stp->Nat
 | []=>0
 | .e::r=>nE r+1
 | _::r=>nE r
def NW:List Stp->Bool
 | []=>false
 | .n::_=>true
 | _::r=>NW r
theorem qo {E:Nat->iU} {l:List Tok} (hl:∀ t∈l,Jr t) (hE:∀ i,Jq l (E i)):∀ (ss:List Stp) (m m':Fm),vk (sJ l) m.ps->gW E l ss m=.inl m'->vk (sJ l) m'.ps/\m'.ps.length=m.ps.length+nE ss/\(NW ss=true->nameB m'.nm=true)/\(NW ss=false->m'.nm=m.nm)/\(nameB m.nm=true->nameB m'.nm=true)
 | [],m,m',hp,h=>by
  unfold gW at h;cases h;exact ⟨hp,rfl,fun e=>absurd e (by decide),fun _=>rfl,fun e=>e⟩
 | .e::r,m,m',hp,h=>by
  unfold gW jS at h;simp only at h;have ht:=hE m.i;cases he:E m.i with
  | inr e=>rw [he] at h;cases h
  | inl x =>
   obtain ⟨⟨hd,qs⟩,p,j⟩:=x;rw [he] at h ht;simp only at h;have ih:=qo hl hE r ⟨m.nm,m.ps.app (.cons hd qs .nil),p,j⟩ m' (CO m.ps (.cons hd qs .nil) hp ⟨ht.1,ht.2,trivial⟩) h;refine ⟨ih.1,?_,ih.2.2.1,ih.2.2.2.1,ih.2.2.2.2⟩;rw [ih.2.1,mX];simp [To.length,nE];omega
 | .n::r,m,m',hp,h=>by
  unfold gW jS at h;simp only at h
  by_cases hn:oO l m.i=true
  ·rw [if_pos hn] at h;simp only at h;have ih:=qo hl hE r ⟨txt l m.i,m.ps,m.x,m.i+1⟩ m' hp h;have hx:nameB (txt l m.i)=true:=by
    unfold oO at hn;unfold txt
    split at hn
    ·next t ht=>exact (hl t (List.mem_of_getElem? ht)).1 (by simpa using hn)
    ·cases hn
   exact ⟨ih.1,ih.2.1,fun _=>ih.2.2.2.2 hx,fun e=>absurd e (by simp [NW]),fun _=>ih.2.2.2.2 hx⟩
  ·rw [if_neg hn] at h;cases h
 | .s t::r,m,m',hp,h=>by
  unfold gW jS at h;simp only at h
  by_cases hn:(bZ l m.i 3 t || bZ l m.i 4 t)=true
  ·rw [if_pos hn] at h;simp only at h;have ih:=qo hl hE r ⟨m.nm,m.ps,m.x,m.i+1⟩ m' hp h;exact ⟨ih.1,ih.2.1,ih.2.2.1,ih.2.2.2.1,ih.2.2.2.2⟩
  ·rw [if_neg hn] at h;cases h
theorem Js {l:List Tok} (hl:∀ t∈l,Jr t):∀ (f i:Nat),Jq l (zZ l f i)
 | 0,i=>trivial
 | f+1,i=>by
  have ih:=fun i=>Js hl f i
  have iT:=fun i=>Jp l (f-1) i
  unfold zZ
  split
  ·unfold tK LY
   split
   ·trivial
   ·next m he =>
    have h:=qo hl ih _ _ m (show vk (sJ l) To.nil from trivial) he;obtain ⟨h1,h2,h3,h4,_⟩:=h;refine ⟨?_,h1⟩;unfold sG ny at *;cases hL:bZ l i 3 AL
    ·simp only [hL,Bool.false_eq_true,if_false] at *;cases hF:bZ l i 3 sN
     ·simp only [hF,Bool.false_eq_true,if_false] at *;have e:m.nm=[]:=h4 rfl;have e3:m.ps.length=3:=h2;rw [e];exact oz (by decide) (by decide) (by decide) (qJ (by decide)) (by decide) (by decide) (by rw [e3];decide) (by rw [e3];decide)
     ·simp only [hF,if_true] at *;have e1:m.ps.length=1:=h2;exact oz (by decide) (by decide) (by decide) (uO (by decide) (h3 rfl)) (by decide) (by decide) (by rw [e1];decide) (by rw [e1];decide)
    ·simp only [hL,if_true] at *;have e2:m.ps.length=2:=h2
     split
     ·exact oz (by decide) (by decide) (by decide) (uO (by decide) (h3 rfl)) (by decide) (by decide) (by rw [e2];decide) (by rw [e2];decide)
     ·exact oz (by decide) (by decide) (by decide) (uO (by decide) (h3 rfl)) (by decide) (by decide) (by rw [e2];decide) (by rw [e2];decide)
  ·have h2:=CP hl ih iT i;unfold YG
   split
   ·trivial
   ·next t x j he =>
    rw [he] at h2;exact FD hl ih iT _ _ _ j h2
end Pa
end
end Go.Proofs.YtcninopmelmajaaDoor
