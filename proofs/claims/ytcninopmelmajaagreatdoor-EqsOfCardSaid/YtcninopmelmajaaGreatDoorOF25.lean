/-
  Texts laid together (PaAny): laws and walks, with their conditions.
-/
import Derived.Test.YtcninopmelmajaaGreatDoorOF7
import Derived.Test.YtcninopmelmajaaGreatDoorOF23
import Derived.Test.YtcninopmelmajaaGreatDoorOF24
set_option maxHeartbeats 8000000
set_option maxRecDepth 1000000
namespace Go.Proofs.YtcninopmelmajaaGreatDoor
open Go.Lib (hid)
section
namespace Pa
open Go.RowKit Lx
theorem Tz {ts:List Tok} {f i:Nat} (h:sZ ts i=true):D6 ts (f+1) i=xO (D6 ts f) ts i:=by
 conv=>lhs;unfold D6
 unfold sZ at h;rw [if_pos h]
theorem PG {ts:List Tok} {f i:Nat} (h:sZ ts i=false):D6 ts (f+1) i=goQ (D6 ts f) (rZ ts (f-1)) ts (jg (D6 ts f) (rZ ts (f-1)) ts i):=by
 conv=>lhs;unfold D6
 unfold sZ at h;rw [if_neg (by rw [h];simp)]
theorem TA {ts:List Tok} {i:Nat} (hs:Shut ts) (h:sZ ts i=true):i+1 < ts.length:=by
 unfold sZ at h;rw [Bool.or_eq_true,Bool.or_eq_true] at h;rcases h with (h | h) | h
 ·exact dP hs h (by decide)
 ·exact dP hs h (by decide)
 ·exact dP hs h (by decide)
theorem PI (ts : List Tok) (g c : Nat) (E : Nat -> jU) (T : Nat -> ou) (i : Nat) (ai lv mo : Int) (w : World) (ea : ai = i) (ht : nU w g ts) (htl : ∀ t ∈ ts, t.text.length <= 1000000)
    (hbr:dH ts i 4 oh=true->∀ W,ah w W->Calls Tryz.prog 122 #[tks g ts c,.int .i64 i,.int .i64 lv,.int .i64 mo] W (iH W (WU E T ts i (E (i+1))))) :
    Calls Tryz.prog 103 #[tks g ts c,.int .i64 ai,.int .i64 lv,.int .i64 mo] w (iH w (jg E T ts i)):=by
 subst ea;cases hb:oG ts i
 ·exact OZ ts g c E T i lv mo w hb ht
 ·obtain ⟨t, hti⟩ : ∃ t, ts[i]? = some t := by
    unfold oG at hb
    split at hb
    ·next t ht=>exact ⟨t,ht⟩
    ·cases hb
  cases hk1:(t.kind == 1)
  ·cases hk2:(t.kind == 2)
   ·cases hx:(t.text == vS)
    ·cases hy:(t.text == oh)
     ·exact KR ts g c E T i lv mo w hb ht t hti hk1 hk2 hx hy
     ·refine O5 ts g c E T i lv mo w hb ht t hti hk1 hk2 hx hy (hbr ?_);have h1:=Si hti;rw [hb,hk1,hk2,sW hti,sW hti,sW hti,hx] at h1;rw [sW hti,hy,Bool.and_true];have h2:(t.text == Bz)=false:=by
       have:=eq_of_beq hy;rw [this];rfl
      rw [h2] at h1;simpa [hy] using h1.symm
    ·exact O4 ts g c E T i lv mo w hb ht t hti hk1 hk2 hx
   ·exact SA ts g c E T i lv mo w hb ht t hti hk1 hk2 (htl t (List.mem_of_getElem? hti))
  ·exact O1 ts g c E T i lv mo w hb ht t hti hk1
theorem Ja (ts:List Tok) (g c:Nat) (hsh:Shut ts) (htl:∀ t∈ts,t.text.length<=1000000):∀ f,ExT ts g c f
 | 0=>O7 ts g c
 | f+1=>by
  have ih:=Ja ts g c hsh htl f;intro i ai lv mo W ea hi ht hf h1 h2 h3 h4;subst ea;have hle:lv<=mo:=by omega
  have hf2:f=(mo+1-(lv+1)).toNat:=by omega
  have hf3:f-1=(mo+1-(lv+2)).toNat:=by omega
  have hE:∀ (j:Nat) (aj:Int) (W':World),aj=j->j < ts.length->ah W W'->Calls Tryz.prog 79 #[tks g ts c,.int .i64 aj,.int .i64 (lv+1),.int .i64 mo] W' (iH W' (D6 ts f j)):=fun j aj W' e hj hq=>ih j aj (lv+1) mo W' e hj (ht.stay hq) hf2 (by omega) (by omega) h3 h4
  have hT:∀ (j:Nat) (aj:Int) (W':World),aj=j->j < ts.length->ah W W'->Calls Tryz.prog 129 #[tks g ts c,.int .i64 aj,.int .i64 (lv+2),.int .i64 mo] W' (Gn W' (rZ ts (f-1) j)):=fun j aj W' e hj hq=>II ts g c hsh (f-1) j aj (lv+2) mo W' e hj (ht.stay hq) hf3 (by omega) (by omega) h3 (by omega)
  cases hw:sZ ts i
  ·rw [PG hw];refine KU ts g c (D6 ts f) (rZ ts (f-1)) i lv mo W hi (fun j hj=>BR hsh (zk hsh f) (BF hsh (f-1)) j hj) hsh ht hle hw (fun j aj W' ea hq=>?_);refine PI ts g c (D6 ts f) (rZ ts (f-1)) j aj lv mo W' ea (ht.stay hq) htl (fun ho W'' hq'=>?_);exact GK ts g c (D6 ts f) (rZ ts (f-1)) j lv mo W'' hsh ho (zk hsh f) (BF hsh (f-1)) (ht.stay (hq.trans hq')) h1 (by omega) (fun j' aj' W3 e hj hq3=>hE j' aj' W3 e hj ((hq.trans hq').trans hq3)) (fun j' aj' W3 e hj hq3=>hT j' aj' W3 e hj ((hq.trans hq').trans hq3))
  ·rw [Tz hw];exact O8 ts g c f (D6 ts f) i lv mo W ht hle hw (fun W' hq=>Tq ts g c (D6 ts f) i lv mo W' hsh (TA hsh hw) (zk hsh f) (ht.stay hq) h1 (by omega) (fun j aj W2 e hj hq2=>hE j aj W2 e hj (hq.trans hq2)))
def TB (w:World) (r:jU) (e:Ending) (w':World):Prop:=match r with
 | .inl ((h,ps),_,j)=>∃ o1 l1 c1 o2 l2 c2,e=.returned (.tuple #[bI h o1 l1 c1 o2 l2 c2,.int .i64 (j:Nat),.int .i64 0])/\aB (fun b=>w.heap.size<=b) w' o1 l1 h.tp/\bD (fun b=>w.heap.size<=b) w' o2 l2 ps/\ah w w'
 | .inr (j,er)=>e=.returned (.tuple #[.agg zero9,.int .i64 (j:Nat),.int .i64 (er:Nat)])/\ah w w'
theorem PK (ts : List Tok) (g c : Nat) (f : Nat) (mo : Int) (w : World) (hsh : Shut ts) (h0 : 0 < ts.length) (htl : ∀ t ∈ ts, t.text.length <= 1000000) (ht : nU w g ts) (hf : f = mo.toNat) (hm1 : -1000000 <= mo) (hm2 : mo <= 800000) :
    Calls Tryz.prog 48 #[tks g ts c,.int .i64 mo] w (TB w (pI ts f)):=by
 have hfew:=ht.few;obtain ⟨W0,hW0⟩:∃ W0,W0=w.alloc (.cells zero9 29):=⟨_,rfl⟩;have aP:Hid (ah w W0):=by rw [hW0];exact ah.alloc _ _
 have HB0:Hid (W0.heap[w.heap.size]?=some (.cells zero9 29 (0,0))):=by show _=_;rw [hW0];exact heap_alloc_new w _
 have HC:Hid (Calls Tryz.prog 79 #[tks g ts c,.int .i64 0,.int .i64 1,.int .i64 mo] W0 (iH W0 (D6 ts f 0))):=Ja ts g c hsh htl f 0 0 1 mo W0 rfl h0 (ht.stay aP.out) (by omega) (by omega) (by omega) hm1 hm2;have oN:=zk hsh f 0 h0;have V8:Hid (∀ (j:Nat) (t:Tok),ts[j]?=some t->∀ W,ah w W->W.cell? ⟨g,j*4,none⟩=some (.int .i64 (t.kind:Nat))):=fun j t h W hq=>((ht.stay hq).cells j t h).1
 obtain ⟨res,hres⟩:∃ res,pI ts f=res:=⟨_,rfl⟩;have aQ:=hid hres;rw [hres];clear ht hsh htl hres hf;go_enter Tryz.func48,Tryz.ntmps48;go_wp2_with fail;rw [<-hW0];clear hW0;generalize hB:w.heap.size=B at *;have cO:=hid hB;clear hB;cases hr:D6 ts f 0 with
 | inr y =>
  obtain ⟨j,er⟩:=y;rw [hr] at HC oN;have hne:er≠0:=oN.2;have hne2:((er:Int) == 0)=false:=by simp [hne]
  have Xc:((er:Int) != 0)=true:=by simp [hne]
  have rX:Hid (res=.inr (j,er)):=by show _=_;rw [<-aQ.out];unfold pI;rw [hr]
  refine HC.out.mono ?_;rintro e w2 ⟨rfl,hq2⟩;obtain ⟨W3,hW3⟩:∃ W3,W3=w2.alloc (.cells (z13 (j:Nat) (er:Nat)) 129):=⟨_,rfl⟩;have hqa:ah w2 W3:=by rw [hW3];exact ah.alloc _ _
  have hr3:W3.heap[w2.heap.size]?=some (.cells (z13 (j:Nat) (er:Nat)) 129 (0,0)):=by rw [hW3];exact heap_alloc_new w2 _
  have hb3:=aC (hq2.trans hqa) (fun h=>h) HB0.out;have HB3:=hid hb3;have dU:=hid (aP.out.trans (hq2.trans hqa));have hw2:B < w2.heap.size:=Nat.lt_of_lt_of_le (lt_of_block HB0.out) hq2.size;go_upto_region 2 with fail
  change Code.wp _ _ _ _ (w2.alloc (.cells (z13 (j:Nat) (er:Nat)) 129));rw [<-hW3];clear hW3 hqa hq2 oN;generalize w2.heap.size=rb at *;have hn1:¬ B=rb:=by omega
  have hn2:¬ rb=B:=by omega
  obtain ⟨r0,r1,r2,r3,r4,r5,r6,r7,r8,r9,r10,r11,r12⟩:=aG hr3;obtain ⟨⟨t0,t1,t2,t3,t4,t5,t6,t7,t8⟩,u0,u1,u2,u3,u4,u5,u6,u7,u8⟩:=aX hb3;clear hr3 hb3;go_upto_region 5 with fail
  go_region;have hf:=(iW W3 B (.int .i64 0) (.string ⟨#[]⟩) (.int .i64 0) (.int .i64 0) (.int .i64 0) (.slice none 0 0) (.slice none 0 0) (.int .i64 0) (.int .i64 0)).trans (Fr.drew (fun k=>k=B) _);have ig:=au (ah.drew _) (dQ (a0:=.int .i64 0) (a1:=.string ⟨#[]⟩) (a2:=.int .i64 0) (a3:=.int .i64 0) (a4:=.int .i64 0) (a5:=.slice none 0 0) (a6:=.slice none 0 0) (a7:=.int .i64 0) (a8:=.int .i64 0) HB3.out)
  first
   | with_reducible change Exit.then _ _ _ _ (gW W3 B (.int .i64 0) (.string ⟨#[]⟩) (.int .i64 0) (.int .i64 0) (.int .i64 0) (.slice none 0 0) (.slice none 0 0) (.int .i64 0) (.int .i64 0)).drew
   | change Exit.then _ _ _ _ (gW W3 B (.int .i64 0) (.string ⟨#[]⟩) (.int .i64 0) (.int .i64 0) (.int .i64 0) (.slice none 0 0) (.slice none 0 0) (.int .i64 0) (.int .i64 0)).drew
  generalize (gW W3 B (.int .i64 0) (.string ⟨#[]⟩) (.int .i64 0) (.int .i64 0) (.int .i64 0) (.slice none 0 0) (.slice none 0 0) (.int .i64 0) (.int .i64 0)).drew=wf at *;obtain ⟨⟨x0,x1,x2,x3,x4,x5,x6,x7,x8⟩,_⟩:=aX ig;clear ig;go_wp2_with fail;have dY:ah w wf:=(dU.out).trans' hf (fun k hk e=>by have:=cO.out;omega);refine bodyPost_ret (by simp [results,Tryz.results48,go_sem,x0,x1,x2,x3,x4,x5,x6,x7,x8];rfl) rfl ?_;rw [rX.out];exact ⟨rfl,dY⟩
 | inl y =>
  obtain ⟨⟨h,ps⟩,x,j⟩:=y;rw [hr] at HC oN;have hj2:0 < j/\j < ts.length:=oN;obtain ⟨t9,Py⟩:∃ t9,ts[j]?=some t9:=⟨_,List.getElem?_eq_getElem hj2.2⟩;have xG:Hid (TD ts j=(t9.kind == 0)):=by show _=_;unfold TD;rw [Py]
  have hjl:(j:Int) < ts.length:=by omega
  have adM:¬ (j:Int)≥ts.length:=by omega
  have adN:¬ (ts.length:Int)<=j:=by omega
  have hj0:(0:Int)<=j:=by omega
  have hkn:=kind_eq t9.kind 0;refine HC.out.mono ?_;rintro e w2 ⟨o1,l1,c1,o2,l2,c2,rfl,hs1,hs2,hq2⟩;obtain ⟨W3,hW3⟩:∃ W3,W3=w2.alloc (.cells (c13 h o1 l1 c1 o2 l2 c2 x (j:Nat) 0) 129):=⟨_,rfl⟩;have hqa:ah w2 W3:=by rw [hW3];exact ah.alloc _ _
  have hr3:W3.heap[w2.heap.size]?=some (.cells (c13 h o1 l1 c1 o2 l2 c2 x (j:Nat) 0) 129 (0,0)):=by rw [hW3];exact heap_alloc_new w2 _
  have hb3:=aC (hq2.trans hqa) (fun h=>h) HB0.out;have HB3:=hid hb3;have dU:=hid (aP.out.trans (hq2.trans hqa));have hw2:B < w2.heap.size:=Nat.lt_of_lt_of_le (lt_of_block HB0.out) hq2.size;have ny:=hid (hs1.stay hqa);have HS2:=hid (hs2.stay hqa);have hw0:=lt_of_block HB0.out;have k0:=V8.out j t9 Py W3 dU.out;go_upto_region 2 with fail
  change Code.wp _ _ _ _ (w2.alloc (.cells (c13 h o1 l1 c1 o2 l2 c2 x (j:Nat) 0) 129));rw [<-hW3];clear hW3 hqa hq2 oN hs1 hs2 Py;generalize w2.heap.size=rb at *;have hn1:¬ B=rb:=by omega
  have hn2:¬ rb=B:=by omega
  have HR3:=hid hr3;obtain ⟨r0,r1,r2,r3,r4,r5,r6,r7,r8,r9,r10,r11,r12⟩:=aG hr3;have v0:=ak hr3 0;have v1:=ak hr3 1;have v2:=ak hr3 2;have v3:=ak hr3 3;have v4:=ak hr3 4;have v5:=ak hr3 5;have v6:=ak hr3 6;have v7:=ak hr3 7;have v8:=ak hr3 8;have v9:=ak hr3 9;have v10:=ak hr3 10;have v11:=ak hr3 11;have v12:=ak hr3 12;obtain ⟨⟨t0,t1,t2,t3,t4,t5,t6,t7,t8⟩,u0,u1,u2,u3,u4,u5,u6,u7,u8⟩:=aX hb3;clear hr3 hb3;cases hke:(t9.kind == 0)
  case true =>
   have hk1:((t9.kind:Int) != 0)=false:=by rw [bne,show ((t9.kind:Int) == 0)=true from hkn.trans hke];rfl
   have rX:Hid (res=.inl ((h,ps),x,j+1)):=by show _=_;rw [<-aQ.out];unfold pI;rw [hr];show (if TD ts j=true then _ else _)=_;rw [if_pos (by rw [xG.out,hke])]
   clear hkn hke;go_upto_region 6 with fail
   go_region;have hf:=(iW W3 B (.int .i64 h.k) (.string h.nm) (.int .i64 h.n) (.int .i64 h.tk) (.int .i64 h.tn) (.slice o1 l1 c1) (.slice o2 l2 c2) (.int .i64 h.fr) (.int .i64 h.en)).trans (Fr.drew (fun k=>k=B) _);have ig:=au (ah.drew _) (dQ (a0:=.int .i64 h.k) (a1:=.string h.nm) (a2:=.int .i64 h.n) (a3:=.int .i64 h.tk) (a4:=.int .i64 h.tn) (a5:=.slice o1 l1 c1) (a6:=.slice o2 l2 c2) (a7:=.int .i64 h.fr) (a8:=.int .i64 h.en) HB3.out)
   first
    | with_reducible change Exit.then _ _ _ _ (gW W3 B (.int .i64 h.k) (.string h.nm) (.int .i64 h.n) (.int .i64 h.tk) (.int .i64 h.tn) (.slice o1 l1 c1) (.slice o2 l2 c2) (.int .i64 h.fr) (.int .i64 h.en)).drew
    | change Exit.then _ _ _ _ (gW W3 B (.int .i64 h.k) (.string h.nm) (.int .i64 h.n) (.int .i64 h.tk) (.int .i64 h.tn) (.slice o1 l1 c1) (.slice o2 l2 c2) (.int .i64 h.fr) (.int .i64 h.en)).drew
   generalize (gW W3 B (.int .i64 h.k) (.string h.nm) (.int .i64 h.n) (.int .i64 h.tk) (.int .i64 h.tn) (.slice o1 l1 c1) (.slice o2 l2 c2) (.int .i64 h.fr) (.int .i64 h.en)).drew=wf at *;obtain ⟨⟨x0,x1,x2,x3,x4,x5,x6,x7,x8⟩,_⟩:=aX ig;clear ig;go_wp2_with fail;have dY:ah w wf:=(dU.out).trans' hf (fun k hk e=>by have:=cO.out;omega);refine bodyPost_ret (by simp [results,Tryz.results48,go_sem,x0,x1,x2,x3,x4,x5,x6,x7,x8];rfl) rfl ?_;rw [rX.out];exact ⟨o1,l1,c1,o2,l2,c2,rfl,ny.out.fr hf (fun b _ k=>by have k':W0.heap.size<=b:=k;exact ⟨by have:=cO.out;show w.heap.size<=b;omega,by omega⟩),HS2.out.fr hf (fun b _ k=>by have k':W0.heap.size<=b:=k;exact ⟨by have:=cO.out;show w.heap.size<=b;omega,by omega⟩),dY⟩
  case false =>
   have hk1:((t9.kind:Int) != 0)=true:=by rw [bne,show ((t9.kind:Int) == 0)=false from hkn.trans hke];rfl
   have rX:Hid (res=.inr (j,3)):=by show _=_;rw [<-aQ.out];unfold pI;rw [hr];show (if TD ts j=true then _ else _)=_;rw [if_neg (by rw [xG.out,hke];simp)]
   have KQ:=hid (kV (j:Int) 3 W3);clear hkn hke;go_wp2_with fail;refine KQ.out.mono ?_;rintro e w4 ⟨rfl,hq4⟩;have hr4:=au hq4 HR3.out;have hb4:=au hq4 HB3.out;clear r0 v0 r1 v1 r2 v2 r3 v3 r4 v4 r5 v5 r6 v6 r7 v7 r8 v8 r9 v9 r10 v10 r11 v11 r12 v12 t0 u0 t1 u1 t2 u2 t3 u3 t4 u4 t5 u5 t6 u6 t7 u7 t8 u8;obtain ⟨r0,r1,r2,r3,r4,r5,r6,r7,r8,r9,r10,r11,r12⟩:=aG hr4;have v0:=ak hr4 0;have v1:=ak hr4 1;have v2:=ak hr4 2;have v3:=ak hr4 3;have v4:=ak hr4 4;have v5:=ak hr4 5;have v6:=ak hr4 6;have v7:=ak hr4 7;have v8:=ak hr4 8;have v9:=ak hr4 9;have v10:=ak hr4 10;have v11:=ak hr4 11;have v12:=ak hr4 12;go_upto_region 4 with fail
   change Code.wp _ _ _ _ (aO w4 rb (.int .i64 0) (.string ⟨#[]⟩) (.int .i64 0) (.int .i64 0) (.int .i64 0) (.slice none 0 0) (.slice none 0 0) (.int .i64 0) (.int .i64 0) (.int .i64 0) (.int .i64 0) (.int .i64 (j:Nat)) (.int .i64 3));have hf5:=bF w4 rb (.int .i64 0) (.string ⟨#[]⟩) (.int .i64 0) (.int .i64 0) (.int .i64 0) (.slice none 0 0) (.slice none 0 0) (.int .i64 0) (.int .i64 0) (.int .i64 0) (.int .i64 0) (.int .i64 (j:Nat)) (.int .i64 3);have Zi:=aN (a0:=.int .i64 0) (a1:=.string ⟨#[]⟩) (a2:=.int .i64 0) (a3:=.int .i64 0) (a4:=.int .i64 0) (a5:=.slice none 0 0) (a6:=.slice none 0 0) (a7:=.int .i64 0) (a8:=.int .i64 0) (a9:=.int .i64 0) (a10:=.int .i64 0) (a11:=.int .i64 (j:Nat)) (a12:=.int .i64 3) hr4;have hb5:=aC hf5 (by omega) hb4;have HB5:=hid hb5;have nD:=hid ((dU.out.trans hq4).trans' hf5 (fun b hb e=>by have:=cO.out;omega));clear hf5 hr4 hb4 hq4 r0 v0 r1 v1 r2 v2 r3 v3 r4 v4 r5 v5 r6 v6 r7 v7 r8 v8 r9 v9 r10 v10 r11 v11 r12 v12;generalize aO w4 rb (.int .i64 0) (.string ⟨#[]⟩) (.int .i64 0) (.int .i64 0) (.int .i64 0) (.slice none 0 0) (.slice none 0 0) (.int .i64 0) (.int .i64 0) (.int .i64 0) (.int .i64 0) (.int .i64 (j:Nat)) (.int .i64 3)=W5 at *;obtain ⟨r0,r1,r2,r3,r4,r5,r6,r7,r8,r9,r10,r11,r12⟩:=aG Zi;obtain ⟨⟨t0,t1,t2,t3,t4,t5,t6,t7,t8⟩,u0,u1,u2,u3,u4,u5,u6,u7,u8⟩:=aX hb5;clear Zi hb5;go_upto_region 5 with fail
   go_region;have hf:=(iW W5 B (.int .i64 0) (.string ⟨#[]⟩) (.int .i64 0) (.int .i64 0) (.int .i64 0) (.slice none 0 0) (.slice none 0 0) (.int .i64 0) (.int .i64 0)).trans (Fr.drew (fun k=>k=B) _);have ig:=au (ah.drew _) (dQ (a0:=.int .i64 0) (a1:=.string ⟨#[]⟩) (a2:=.int .i64 0) (a3:=.int .i64 0) (a4:=.int .i64 0) (a5:=.slice none 0 0) (a6:=.slice none 0 0) (a7:=.int .i64 0) (a8:=.int .i64 0) HB5.out)
   first
    | with_reducible change Exit.then _ _ _ _ (gW W5 B (.int .i64 0) (.string ⟨#[]⟩) (.int .i64 0) (.int .i64 0) (.int .i64 0) (.slice none 0 0) (.slice none 0 0) (.int .i64 0) (.int .i64 0)).drew
    | change Exit.then _ _ _ _ (gW W5 B (.int .i64 0) (.string ⟨#[]⟩) (.int .i64 0) (.int .i64 0) (.int .i64 0) (.slice none 0 0) (.slice none 0 0) (.int .i64 0) (.int .i64 0)).drew
   generalize (gW W5 B (.int .i64 0) (.string ⟨#[]⟩) (.int .i64 0) (.int .i64 0) (.int .i64 0) (.slice none 0 0) (.slice none 0 0) (.int .i64 0) (.int .i64 0)).drew=wf at *;obtain ⟨⟨x0,x1,x2,x3,x4,x5,x6,x7,x8⟩,_⟩:=aX ig;clear ig;go_wp2_with fail;have dY:ah w wf:=(nD.out).trans' hf (fun k hk e=>by have:=cO.out;omega);refine bodyPost_ret (by simp [results,Tryz.results48,go_sem,x0,x1,x2,x3,x4,x5,x6,x7,x8];rfl) rfl ?_;rw [rX.out];exact ⟨rfl,dY⟩
theorem Ez:∀ (at':Nat) (l:List UInt8) (p:Nat × Nat),dN at' l=.inr p->p.1<=at'+l.length:=by
 suffices h:∀ (n:Nat) (at':Nat) (l:List UInt8) (p:Nat × Nat),l.length<=n->dN at' l=.inr p->p.1<=at'+l.length from fun a l ts hw=>h l.length a l ts (Nat.le_refl _) hw
 intro n
 induction n with
 | zero =>
  intro a l p hl hw;have:l=[]:=List.eq_nil_of_length_eq_zero (by omega);subst this;rw [kJ rfl] at hw;cases hw
 | succ n ih =>
  intro a l p hl hw;have hle:=nI false l
  by_cases hk:aS false l=l.length
  ·rw [kJ hk] at hw;cases hw
  ·by_cases he:(nextL (l.drop (aS false l))).2.2=0
   ·have hlen:=qM he;rw [oV (by omega) he] at hw
    revert hw
    cases hr:dN (a+aS false l+(nextL (l.drop (aS false l))).2.1) ((l.drop (aS false l)).drop (nextL (l.drop (aS false l))).2.1) with
    | inr e =>
     intro hw;have:=ih _ _ e (by simp only [List.length_drop] at *;omega) hr;cases hw;simp only [List.length_drop] at *;omega
    | inl us=>intro hw;cases hw
   ·rw [oU (by omega) he] at hw;cases hw;simp;omega
def Zp (w:World) (r:Sum (Nd × To) (Pt × Nat)) (e:Ending) (w':World):Prop:=match r with
 | .inl (h,ps)=>∃ o1 l1 c1 o2 l2 c2,e=.returned (.tuple #[bI h o1 l1 c1 o2 l2 c2,.agg #[.int .i64 0,.int .i64 0],.int .i64 0])/\aB (fun b=>w.heap.size<=b) w' o1 l1 h.tp/\bD (fun b=>w.heap.size<=b) w' o2 l2 ps/\ah w w'
 | .inr (p,er)=>e=.returned (.tuple #[.agg zero9,.agg #[.int .i64 p.1,.int .i64 p.2],.int .i64 (er:Nat)])/\ah w w'
theorem PL {w:World} {B:Nat} {a b:Value} {t:TypeId} (h:w.heap[B]?=some (.cells #[a,b] t (0,0))):w.cell? ⟨B,0,none⟩=some a/\w.cell? ⟨B,1,none⟩=some b/\w.frozen? ⟨B,0,none⟩=false/\w.frozen? ⟨B,1,none⟩=false:=by
 refine ⟨?_,?_,?_,?_⟩
 ·rw [cell_of_row _ _ _ _ _ (0,0) h];rfl
 ·rw [cell_of_row _ _ _ _ _ (0,0) h];rfl
 ·simp [World.frozen?,h]
 ·simp [World.frozen?,h]
def xY (w:World) (B C:Nat) (a0 a1 a2 a3 a4 a5 a6 a7 a8 b0 b1:Value):World:=((gW w B a0 a1 a2 a3 a4 a5 a6 a7 a8).setCell ⟨C,0,none⟩ b0).setCell ⟨C,1,none⟩ b1
theorem zl {w : World} {B C : Nat} {z0 z1 z2 z3 z4 z5 z6 z7 z8 y0 y1 : Value} {t t' : TypeId} (h : w.heap[B]? = some (.cells #[z0, z1, z2, z3, z4, z5, z6, z7, z8] t (0, 0))) (h' : w.heap[C]? = some (.cells #[y0, y1] t' (0, 0))) (hn : B ≠ C) (a0 a1 a2 a3 a4 a5 a6 a7 a8 b0 b1 : Value) :
    Fr (fun k=>k=B∨k=C) w (xY w B C a0 a1 a2 a3 a4 a5 a6 a7 a8 b0 b1)/\(xY w B C a0 a1 a2 a3 a4 a5 a6 a7 a8 b0 b1).heap[B]?=some (.cells #[a0,a1,a2,a3,a4,a5,a6,a7,a8] t (0,0))/\(xY w B C a0 a1 a2 a3 a4 a5 a6 a7 a8 b0 b1).heap[C]?=some (.cells #[b0,b1] t' (0,0)):=by
 have h1:=iW w B a0 a1 a2 a3 a4 a5 a6 a7 a8;have h2:=Fr.setCell (fun k=>k=C) (gW w B a0 a1 a2 a3 a4 a5 a6 a7 a8) ⟨C,0,none⟩ b0 rfl;have h3:=Fr.setCell (fun k=>k=C) ((gW w B a0 a1 a2 a3 a4 a5 a6 a7 a8).setCell ⟨C,0,none⟩ b0) ⟨C,1,none⟩ b1 rfl;refine ⟨((h1.mono (fun _ _ k=>.inl k)).trans (h2.mono (fun _ _ k=>.inr k))).trans (h3.mono (fun _ _ k=>.inr k)),aC h3 hn (aC h2 hn (dQ h)),aF (i:=1) (u:=b1) (aF (i:=0) (u:=b0) (aC h1 (fun e=>hn e.symm) h'))⟩
theorem PN {s:List UInt8} {ts:List Tok} (h:kH s=.inl ts):∀ t∈ts,t.text.length<=s.length:=by
 intro t ht
 by_cases hk:t.kind=0
 ·obtain ⟨us,n,rfl,hu⟩:=tX _ _ _ _ h;rcases List.mem_append.1 ht with h1 | h1
  ·exact absurd hk (hu t h1)
  ·simp at h1;subst h1;exact Nat.zero_le _
 ·have h1:=(LP h t ht).2 hk;rw [h1.2.2,List.length_take,List.length_drop];omega
theorem TG (s : ByteArray) (hs : s.size <= 100000) (f : Nat) (mo : Int) (hf : f = mo.toNat) (hm1 : -1000000 <= mo) (hm2 : mo <= 800000) (w : World) :
    Calls Tryz.prog 26 #[.string s,.int .i64 mo] w (Zp w (Jb s.data.toList f)):=by
 obtain ⟨W0,hW0⟩:∃ W0,W0=(w.alloc (.cells zero9 29)).alloc (.cells #[.int .i64 0,.int .i64 0] 27):=⟨_,rfl⟩;have aP:Hid (ah w W0):=by rw [hW0];exact (ah.alloc _ _).trans (ah.alloc _ _)
 have HB0:Hid (W0.heap[w.heap.size]?=some (.cells zero9 29 (0,0))):=by show _=_;rw [hW0,Below.heap_alloc _ _ _ (by simp)];exact heap_alloc_new w _
 have HS0:Hid (W0.heap[w.heap.size+1]?=some (.cells #[.int .i64 0,.int .i64 0] 27 (0,0))):=by
  show _=_;rw [hW0]
  have:=heap_alloc_new (w.alloc (.cells zero9 29)) (.cells #[.int .i64 0,.int .i64 0] 27);simpa using this
 have HC:=hid (GN s hs W0);have HWH:Hid (∀ (ts:List Tok) (g c:Nat) (W:World),kH s.data.toList=.inl ts->nU W g ts->Calls Tryz.prog 48 #[tks g ts c,.int .i64 mo] W (TB W (pI ts f))):=fun ts g c W hw ht=>PK ts g c f mo W (wH hw).1 (wH hw).2 (fun t h=>by have:=PN hw t h;rw [bM] at this;omega) ht hf hm1 hm2
 have HLE:Hid (∀ ts,kH s.data.toList=.inl ts->ts.length<=1000000):=by
  intro ts h;have:=LQ _ _ _ h;rw [bM] at this;omega
 obtain ⟨res,hres⟩:∃ res,Jb s.data.toList f=res:=⟨_,rfl⟩;have aQ:=hid hres;rw [hres];clear hres hf;go_enter Tryz.func26,Tryz.ntmps26;go_wp2_with fail;change Calls _ _ _ ((w.alloc (.cells zero9 29)).alloc (.cells #[.int .i64 0,.int .i64 0] 27)) _;rw [<-hW0];clear hW0;generalize hB:w.heap.size=B at *;have cO:=hid hB;clear hB;cases hw:kH s.data.toList with
 | inr y =>
  obtain ⟨a,er⟩:=y;have hne:er≠0:=BU _ _ _ _ hw;have hne2:((er:Int) != 0)=true:=by simp [hne]
  have rX:Hid (res=.inr (((a:Int),(a:Int)+1),er)):=by show _=_;rw [<-aQ.out];unfold Jb;rw [hw]
  refine HC.out.mono ?_;intro e w2 hp;obtain ⟨hq2,rfl⟩:=hp.bad hw;have ha:a<=100000:=by have h1:a<=0+s.data.toList.length:=Ez 0 _ _ hw;rw [bM] at h1;omega
  have HB2:=hid (au hq2 HB0.out);have HS2:=hid (au hq2 HS0.out);have eF:=hid (aP.out.trans hq2);have hb2:=HB2.out;obtain ⟨s0,s1,s2,s3⟩:=PL HS2.out;obtain ⟨⟨t0,t1,t2,t3,t4,t5,t6,t7,t8⟩,u0,u1,u2,u3,u4,u5,u6,u7,u8⟩:=aX hb2;clear hb2 hq2 hp hw;go_wp2_with fail;obtain ⟨hf,ig,hs9⟩:=zl HB2.out HS2.out (by omega) (.int .i64 0) (.string ⟨#[]⟩) (.int .i64 0) (.int .i64 0) (.int .i64 0) (.slice none 0 0) (.slice none 0 0) (.int .i64 0) (.int .i64 0) (.int .i64 (a:Nat)) (.int .i64 ((a:Int)+1));change bodyPost _ _ _ _ _ (xY w2 B (B+1) (.int .i64 0) (.string ⟨#[]⟩) (.int .i64 0) (.int .i64 0) (.int .i64 0) (.slice none 0 0) (.slice none 0 0) (.int .i64 0) (.int .i64 0) (.int .i64 (a:Nat)) (.int .i64 ((a:Int)+1)));generalize (xY w2 B (B+1) (.int .i64 0) (.string ⟨#[]⟩) (.int .i64 0) (.int .i64 0) (.int .i64 0) (.slice none 0 0) (.slice none 0 0) (.int .i64 0) (.int .i64 0) (.int .i64 (a:Nat)) (.int .i64 ((a:Int)+1)))=wf at *;obtain ⟨⟨x0,x1,x2,x3,x4,x5,x6,x7,x8⟩,_⟩:=aX ig;obtain ⟨y0,y1,_,_⟩:=PL hs9;have dY:ah w wf:=(eF.out).trans' hf (fun k hk e=>by have:=cO.out;omega);refine bodyPost_ret (by simp [results,Tryz.results26,go_sem,x0,x1,x2,x3,x4,x5,x6,x7,x8,y0,y1];rfl) rfl ?_;rw [rX.out];exact ⟨rfl,dY⟩
 | inl ts =>
  refine HC.out.mono ?_;intro e w2 hp;obtain ⟨hq2,g,c,rfl,hrow⟩:=hp.ok hw;have htk:nU w2 g ts:=⟨hrow.at,hrow.lt.2,HLE.out ts hw⟩;have hlen:=HLE.out ts hw;have hgl:W0.heap.size<=g:=hrow.lt.1;have hz0:B+1 < W0.heap.size:=lt_of_block HS0.out;have HWC:=hid (HWH.out ts g c w2 hw htk);have DZ:=hid (wH hw);have HTR:Hid (res=match pI ts f with
   | .inl (t,_,_)=>.inl t
   | .inr (i,e)=>.inr (at' ts i,e)):=by show _=_;rw [<-aQ.out];unfold Jb;rw [hw];rfl
  have eF:=hid hq2;have PO:=hid htk;clear hp hrow hw htk hq2;go_wp2_with fail;cases hr:pI ts f with
  | inr y =>
   obtain ⟨j,er⟩:=y;obtain ⟨hj,hne⟩:=PS DZ.out.1 DZ.out.2 f j er hr;have hne2:((er:Int) != 0)=true:=by simp [hne]
   rw [hr] at HWC HTR;refine HWC.out.mono ?_;rintro e w3 ⟨rfl,hq3⟩;obtain ⟨W4,yN⟩:∃ W4,W4=w3.alloc (.cells zero9 29):=⟨_,rfl⟩;have hq4:ah w2 W4:=by rw [yN];exact hq3.trans (ah.alloc _ _)
   obtain ⟨t9,Py⟩:∃ t9,ts[j]?=some t9:=⟨_,List.getElem?_eq_getElem hj⟩;have HAT:Hid (at' ts j=(((t9.fr:Nat):Int),((t9.to:Nat):Int))):=LH Py;obtain ⟨k0,k1,k2,k3⟩:=(PO.out.stay hq4).cells j t9 Py;have hjl:(j:Int) < ts.length:=by omega
   have hj0:(0:Int)<=j:=by omega
   have HB4:=hid (au (eF.out.trans hq4) HB0.out);have Gm:=hid (au (eF.out.trans hq4) HS0.out);have fV:=hid (aP.out.trans (eF.out.trans hq4));have hg2:=PO.out.lt;have hn1:¬ B=g:=by omega
   have hn2:¬ g=B:=by omega
   have hn3:¬ B+1=g:=by omega
   have hn4:¬ g=B+1:=by omega
   go_upto_region 6 with fail
   change Code.wp _ _ _ _ (w3.alloc (.cells zero9 29));rw [<-yN];clear yN hq4 hq3 Py hr;have hb4:=HB4.out;obtain ⟨s0,s1,s2,s3⟩:=PL Gm.out;obtain ⟨⟨t0,t1,t2,t3,t4,t5,t6,t7,t8⟩,u0,u1,u2,u3,u4,u5,u6,u7,u8⟩:=aX hb4;clear hb4;go_region;obtain ⟨hf,ig,hs9⟩:=zl HB4.out Gm.out (by omega) (.int .i64 0) (.string ⟨#[]⟩) (.int .i64 0) (.int .i64 0) (.int .i64 0) (.slice none 0 0) (.slice none 0 0) (.int .i64 0) (.int .i64 0) (.int .i64 (t9.fr:Nat)) (.int .i64 (t9.to:Nat));change Exit.then _ _ _ _ (xY W4 B (B+1) (.int .i64 0) (.string ⟨#[]⟩) (.int .i64 0) (.int .i64 0) (.int .i64 0) (.slice none 0 0) (.slice none 0 0) (.int .i64 0) (.int .i64 0) (.int .i64 (t9.fr:Nat)) (.int .i64 (t9.to:Nat))).drew
   replace hf:=hf.trans (Fr.drew _ _);replace ig:=au (ah.drew _) ig;replace hs9:=au (ah.drew _) hs9;generalize (xY W4 B (B+1) (.int .i64 0) (.string ⟨#[]⟩) (.int .i64 0) (.int .i64 0) (.int .i64 0) (.slice none 0 0) (.slice none 0 0) (.int .i64 0) (.int .i64 0) (.int .i64 (t9.fr:Nat)) (.int .i64 (t9.to:Nat))).drew=wf at *;obtain ⟨⟨x0,x1,x2,x3,x4,x5,x6,x7,x8⟩,_⟩:=aX ig;obtain ⟨y0,y1,_,_⟩:=PL hs9;go_wp2_with fail;have dY:ah w wf:=(fV.out).trans' hf (fun k hk e=>by have:=cO.out;omega);refine bodyPost_ret (by simp [results,Tryz.results26,go_sem,x0,x1,x2,x3,x4,x5,x6,x7,x8,y0,y1];rfl) rfl ?_;rw [HTR.out,HAT.out];exact ⟨rfl,dY⟩
  | inl y =>
   obtain ⟨⟨h,ps⟩,x,j⟩:=y;rw [hr] at HWC HTR;refine HWC.out.mono ?_;rintro e w3 ⟨o1,l1,c1,o2,l2,c2,rfl,hs1,hs2,hq3⟩;obtain ⟨W4,yN⟩:∃ W4,W4=w3.alloc (.cells (cells9 h o1 l1 c1 o2 l2 c2) 29):=⟨_,rfl⟩;have hqa:ah w3 W4:=by rw [yN];exact ah.alloc _ _
   have hq4:ah w2 W4:=hq3.trans hqa;have hx4:W4.heap[w3.heap.size]?=some (.cells (cells9 h o1 l1 c1 o2 l2 c2) 29 (0,0)):=by rw [yN];exact heap_alloc_new w3 _
   have HB4:=hid (au (eF.out.trans hq4) HB0.out);have Gm:=hid (au (eF.out.trans hq4) HS0.out);have fV:=hid (aP.out.trans (eF.out.trans hq4));have ny:=hid (hs1.stay hqa);have HS2:=hid (hs2.stay hqa);have hw2:B+1 < w2.heap.size:=Nat.lt_of_lt_of_le (lt_of_block HS0.out) eF.out.size;unfold bI;go_upto_region 5 with fail
   change Code.wp _ _ _ _ (w3.alloc (.cells (cells9 h o1 l1 c1 o2 l2 c2) 29));rw [<-yN];clear yN hq4 hq3 hqa hs1 hs2 hr;generalize w3.heap.size=yb at *;have hb4:=HB4.out;obtain ⟨s0,s1,s2,s3⟩:=PL Gm.out;obtain ⟨⟨t0,t1,t2,t3,t4,t5,t6,t7,t8⟩,u0,u1,u2,u3,u4,u5,u6,u7,u8⟩:=aX hb4;obtain ⟨⟨r0,r1,r2,r3,r4,r5,r6,r7,r8⟩,v0,v1,v2,v3,v4,v5,v6,v7,v8⟩:=aX hx4;clear hb4 hx4;go_wp2_with fail;obtain ⟨hf,ig,hs9⟩:=zl HB4.out Gm.out (by omega) (.int .i64 h.k) (.string h.nm) (.int .i64 h.n) (.int .i64 h.tk) (.int .i64 h.tn) (.slice o1 l1 c1) (.slice o2 l2 c2) (.int .i64 h.fr) (.int .i64 h.en) (.int .i64 0) (.int .i64 0);change bodyPost _ _ _ _ _ (xY W4 B (B+1) (.int .i64 h.k) (.string h.nm) (.int .i64 h.n) (.int .i64 h.tk) (.int .i64 h.tn) (.slice o1 l1 c1) (.slice o2 l2 c2) (.int .i64 h.fr) (.int .i64 h.en) (.int .i64 0) (.int .i64 0));generalize (xY W4 B (B+1) (.int .i64 h.k) (.string h.nm) (.int .i64 h.n) (.int .i64 h.tk) (.int .i64 h.tn) (.slice o1 l1 c1) (.slice o2 l2 c2) (.int .i64 h.fr) (.int .i64 h.en) (.int .i64 0) (.int .i64 0))=wf at *;obtain ⟨⟨x0,x1,x2,x3,x4,x5,x6,x7,x8⟩,_⟩:=aX ig;obtain ⟨y0,y1,_,_⟩:=PL hs9;have dY:ah w wf:=(fV.out).trans' hf (fun k hk e=>by have:=cO.out;omega);refine bodyPost_ret (by simp [results,Tryz.results26,go_sem,x0,x1,x2,x3,x4,x5,x6,x7,x8,y0,y1];rfl) rfl ?_;rw [HTR.out];exact ⟨o1,l1,c1,o2,l2,c2,rfl,ny.out.fr hf (fun b _ k=>by have k':w2.heap.size<=b:=k;exact ⟨by have:=cO.out;show w.heap.size<=b;omega,by omega⟩),HS2.out.fr hf (fun b _ k=>by have k':w2.heap.size<=b:=k;exact ⟨by have:=cO.out;show w.heap.size<=b;omega,by omega⟩),dY⟩
end Pa
end
end Go.Proofs.YtcninopmelmajaaGreatDoor
