/-
  Texts laid together (PaAtom, PaNum): laws and walks, with their conditions.
-/
import Derived.Test.YtcninopmelmajaaGreatDoorCC14
set_option maxHeartbeats 8000000
set_option maxRecDepth 1000000
namespace Go.Proofs.YtcninopmelmajaaGreatDoor
open Go.Lib (hid)
section
namespace Pa
open Go.RowKit Lx
theorem V8 {E:Nat->jL} {T:Nat->nI} {ts:List Tok} {i:Nat} (h:nR ts i=false):jf E T ts i=.inr (i,3):=by unfold jf;rw [if_neg (by rw [h];simp)]
theorem wY {E : Nat -> jL} {T : Nat -> nI} {ts : List Tok} {i : Nat} {t : Tok} (h : nR ts i = true) (ht : ts[i]? = some t) : jf E T ts i =
      if t.kind == 1 then .inl ((nd 1 t.text 0 (t.fr,t.to),.nil),(t.fr,t.to),i+1)
      else if t.kind == 2 then .inl ((nd 2 [] (Yy t.text) (t.fr,t.to),.nil),(t.fr,t.to),i+1)
      else if t.text == vw then .inl ((nd 3 [] 1 (t.fr,t.to),.nil),(t.fr,t.to),i+1)
      else if t.text == nJ then VQ E T ts i (E (i+1))
      else .inl ((nd 3 [] 0 (t.fr,t.to),.nil),(t.fr,t.to),i+1):=by
 unfold jf;rw [if_pos h,ht]
abbrev zX:Obj:=.cells (z13 0 0) 129
theorem OW (ts : List Tok) (g c : Nat) (E : Nat -> jL) (T : Nat -> nI) (i : Nat) (lv mo : Int) (w : World) (hb : nR ts i = false) (ht : ny w g ts) :
    Calls Tryz.prog 103 #[tks g ts c,.int .i64 i,.int .i64 lv,.int .i64 mo] w (iJ w (jf E T ts i)):=by
 rw [V8 hb]
 obtain ⟨W0,hW0⟩:∃ W0,W0=w.alloc zX:=⟨_,rfl⟩
 have aK:Hid (ah w W0):=by rw [hW0];exact ah.alloc _ _
 have HB0:Hid (W0.heap[w.heap.size]?=some (.cells (z13 0 0) 129 (0,0))):=by show _=_;rw [hW0];exact heap_alloc_new w _
 have F9:=hid (kD ts g c i W0 (ht.stay aK.out))
 rw [hb] at F9
 have KA:=hid (kM (i:Int) 3 W0)
 clear ht hb
 go_enter Tryz.func103,Tryz.ntmps103
 go_wp2_with fail
 rw [<-hW0]
 clear hW0
 generalize hB:w.heap.size=B at *
 have bM:=hid hB
 clear hB
 refine F9.out.mono ?_;rintro e w1 ⟨rfl,rfl⟩
 go_wp2_with fail
 refine KA.out.mono ?_;rintro e w1 ⟨rfl,hq1⟩
 have hb1:=ay hq1 (fun h=>h) HB0.out
 have HB1:=hid hb1
 have bI:=hid (aK.out.trans hq1)
 obtain ⟨x0,x1,x2,x3,x4,x5,x6,x7,x8,x9,x10,x11,x12⟩:=aG hb1
 have y0:=au hb1 0
 have y1:=au hb1 1
 have y2:=au hb1 2
 have y3:=au hb1 3
 have y4:=au hb1 4
 have y5:=au hb1 5
 have y6:=au hb1 6
 have y7:=au hb1 7
 have y8:=au hb1 8
 have y9:=au hb1 9
 have yI:=au hb1 10
 have yJ:=au hb1 11
 have yK:=au hb1 12
 clear hb1 hq1
 go_wp2_with fail
 have hf:=bf w1 B (.int .i64 0) (.string ⟨#[]⟩) (.int .i64 0) (.int .i64 0) (.int .i64 0) (.slice none 0 0) (.slice none 0 0) (.int .i64 0) (.int .i64 0) (.int .i64 0) (.int .i64 0) (.int .i64 (i:Int)) (.int .i64 3)
 have dN:ah w (aO w1 B (.int .i64 0) (.string ⟨#[]⟩) (.int .i64 0) (.int .i64 0) (.int .i64 0) (.slice none 0 0) (.slice none 0 0) (.int .i64 0) (.int .i64 0) (.int .i64 0) (.int .i64 0) (.int .i64 (i:Int)) (.int .i64 3)):=(bI.out).trans' hf (fun k hk e=>by have:=bM.out;omega)
 obtain ⟨f0,f1,f2,f3,f4,f5,f6,f7,f8,f9,f10,f11,f12⟩:=aG (aN (a0:=.int .i64 0) (a1:=.string ⟨#[]⟩) (a2:=.int .i64 0) (a3:=.int .i64 0) (a4:=.int .i64 0) (a5:=.slice none 0 0) (a6:=.slice none 0 0) (a7:=.int .i64 0) (a8:=.int .i64 0) (a9:=.int .i64 0) (a10:=.int .i64 0) (a11:=.int .i64 (i:Int)) (a12:=.int .i64 3) HB1.out)
 change bodyPost _ _ _ _ _ (aO w1 B (.int .i64 0) (.string ⟨#[]⟩) (.int .i64 0) (.int .i64 0) (.int .i64 0) (.slice none 0 0) (.slice none 0 0) (.int .i64 0) (.int .i64 0) (.int .i64 0) (.int .i64 0) (.int .i64 (i:Int)) (.int .i64 3))
 generalize aO w1 B (.int .i64 0) (.string ⟨#[]⟩) (.int .i64 0) (.int .i64 0) (.int .i64 0) (.slice none 0 0) (.slice none 0 0) (.int .i64 0) (.int .i64 0) (.int .i64 0) (.int .i64 0) (.int .i64 (i:Int)) (.int .i64 3)=wf at *
 refine bodyPost_ret (by simp [results,Tryz.results103,go_sem,f0,f1,f2,f3,f4,f5,f6,f7,f8,f9,f10,f11,f12];rfl) rfl ?_
 exact ⟨rfl,dN⟩
theorem oK (_ : List Tok) (w W1 : World) (B : Nat) (t : Tok) (hB : w.heap.size = B) (h : W1 = ((w.alloc zX).alloc (.cells #[.int .i64 (t.kind : Nat), .string (bW t.text), .int .i64 (t.fr : Nat), .int .i64 (t.to : Nat)] 94)).alloc (.cells #[.int .i64 3, .string ⟨#[]⟩, .int .i64 0, .int .i64 0, .int .i64 0, .slice none 0 0, .slice none 0 0, .int .i64 (t.fr : Nat), .int .i64 (t.to : Nat)] 29)) :
    W1.heap[B]?=some (.cells (z13 0 0) 129 (0,0))/\W1.heap[B+1]?=some (.cells #[.int .i64 (t.kind:Nat),.string (bW t.text),.int .i64 (t.fr:Nat),.int .i64 (t.to:Nat)] 94 (0,0)) /\
    W1.heap[B+1+1]?=some (.cells #[.int .i64 3,.string ⟨#[]⟩,.int .i64 0,.int .i64 0,.int .i64 0,.slice none 0 0,.slice none 0 0,.int .i64 (t.fr:Nat),.int .i64 (t.to:Nat)] 29 (0,0))/\ah w W1:=by
 subst hB
 refine ⟨?_,?_,?_,?_⟩
 ·rw [h,Below.heap_alloc _ _ _ (by simp;omega),Below.heap_alloc _ _ _ (by simp)];exact heap_alloc_new w _
 ·rw [h,Below.heap_alloc _ _ _ (by simp)]
  have:=heap_alloc_new (w.alloc zX) (.cells #[.int .i64 (t.kind:Nat),.string (bW t.text),.int .i64 (t.fr:Nat),.int .i64 (t.to:Nat)] 94)
  simpa using this
 ·rw [h]
  have:=heap_alloc_new ((w.alloc zX).alloc (.cells #[.int .i64 (t.kind:Nat),.string (bW t.text),.int .i64 (t.fr:Nat),.int .i64 (t.to:Nat)] 94)) (.cells #[.int .i64 3,.string ⟨#[]⟩,.int .i64 0,.int .i64 0,.int .i64 0,.slice none 0 0,.slice none 0 0,.int .i64 (t.fr:Nat),.int .i64 (t.to:Nat)] 29)
  simpa using this
 ·rw [h];exact ((ah.alloc _ _).trans (ah.alloc _ _)).trans (ah.alloc _ _)
theorem OX (ts : List Tok) (g c : Nat) (E : Nat -> jL) (T : Nat -> nI) (i : Nat) (lv mo : Int) (w : World) (hb : nR ts i = true) (ht : ny w g ts) (t : Tok) (hti : ts[i]? = some t) (hk : (t.kind == 1) = true) :
    Calls Tryz.prog 103 #[tks g ts c,.int .i64 i,.int .i64 lv,.int .i64 mo] w (iJ w (jf E T ts i)):=by
 rw [wY hb hti,if_pos hk]
 obtain ⟨W0,hW0⟩:∃ W0,W0=w.alloc zX:=⟨_,rfl⟩
 have aK:Hid (ah w W0):=by rw [hW0];exact ah.alloc _ _
 have F9:=hid (kD ts g c i W0 (ht.stay aK.out))
 rw [hb] at F9
 obtain ⟨k0,k1,k2,k3⟩:=(ht.stay aK.out).cells i t hti
 have hil:=(List.getElem?_eq_some_iff.1 hti).1
 have hfew:=ht.few
 have hi':(i:Int) < ts.length:=by omega
 have h0:(0:Int)<=i:=by omega
 have e1:=kind_eq t.kind 1
 rw [hk] at e1
 have e1':((t.kind:Int) == 1)=true:=e1
 obtain ⟨W1,hW1⟩:∃ W1,W1=((w.alloc zX).alloc (.cells #[.int .i64 (t.kind:Nat),.string (bW t.text),.int .i64 (t.fr:Nat),.int .i64 (t.to:Nat)] 94)).alloc (.cells #[.int .i64 3,.string ⟨#[]⟩,.int .i64 0,.int .i64 0,.int .i64 0,.slice none 0 0,.slice none 0 0,.int .i64 (t.fr:Nat),.int .i64 (t.to:Nat)] 29):=⟨_,rfl⟩
 obtain ⟨b0,b1,b2,hq1⟩:=oK ts w W1 w.heap.size t rfl hW1
 have bI:=hid hq1
 have hW1':W1=(W0.alloc (.cells #[.int .i64 (t.kind:Nat),.string (bW t.text),.int .i64 (t.fr:Nat),.int .i64 (t.to:Nat)] 94)).alloc (.cells #[.int .i64 3,.string ⟨#[]⟩,.int .i64 0,.int .i64 0,.int .i64 0,.slice none 0 0,.slice none 0 0,.int .i64 (t.fr:Nat),.int .i64 (t.to:Nat)] 29):=by rw [hW1,hW0]
 have hz0:W0.heap.size=w.heap.size+1:=by rw [hW0];simp
 clear ht hb hti hk e1 hq1
 go_enter Tryz.func103,Tryz.ntmps103
 go_wp2_with fail
 rw [<-hW0]
 clear hW0 hW1
 generalize hB:w.heap.size=B at *
 have bM:=hid hB
 clear hB
 refine F9.out.mono ?_;rintro e w1 ⟨rfl,rfl⟩
 go_upto_region 5 with fail
 change Code.wp _ _ _ _ ((W0.alloc (.cells #[.int .i64 (t.kind:Nat),.string (bW t.text),.int .i64 (t.fr:Nat),.int .i64 (t.to:Nat)] 94)).alloc (.cells #[.int .i64 3,.string ⟨#[]⟩,.int .i64 0,.int .i64 0,.int .i64 0,.slice none 0 0,.slice none 0 0,.int .i64 (t.fr:Nat),.int .i64 (t.to:Nat)] 29))
 rw [<-hW1']
 clear hW1' k0 k1 k2 k3
 have HB0:=hid b0
 have HB1:=hid b1
 have HB2:=hid b2
 have k0:W1.cell? ⟨B+1,0,none⟩=some (.int .i64 (t.kind:Nat)):=by rw [cell_of_row _ _ _ _ _ (0,0) b1];rfl
 have k1:W1.cell? ⟨B+1,1,none⟩=some (.string (bW t.text)):=by rw [cell_of_row _ _ _ _ _ (0,0) b1];rfl
 have k2:W1.cell? ⟨B+1,2,none⟩=some (.int .i64 (t.fr:Nat)):=by rw [cell_of_row _ _ _ _ _ (0,0) b1];rfl
 have k3:W1.cell? ⟨B+1,3,none⟩=some (.int .i64 (t.to:Nat)):=by rw [cell_of_row _ _ _ _ _ (0,0) b1];rfl
 have t0:W1.cell? ⟨B+1+1,0,none⟩=some (.int .i64 3):=by rw [cell_of_row _ _ _ _ _ (0,0) b2];rfl
 have t1:W1.cell? ⟨B+1+1,1,none⟩=some (.string ⟨#[]⟩):=by rw [cell_of_row _ _ _ _ _ (0,0) b2];rfl
 have v0:W1.frozen? ⟨B+1+1,0,none⟩=false:=by simp [World.frozen?,b2]
 have v1:W1.frozen? ⟨B+1+1,1,none⟩=false:=by simp [World.frozen?,b2]
 clear b0 b1 b2
 go_upto_region 6 with fail
 go_region
 obtain ⟨W2,hW2⟩:∃ W2,W2=((W1.setCell ⟨B+1+1,0,none⟩ (.int .i64 1)).setCell ⟨B+1+1,1,none⟩ (.string (bW t.text))).drew:=⟨_,rfl⟩
 rw [<-hW2]
 have hf2:Fr (fun k=>k=B+1+1) W1 W2:=by rw [hW2];exact ((Fr.setCell (fun k=>k=B+1+1) _ ⟨B+1+1,0,none⟩ _ rfl).trans (Fr.setCell (fun k=>k=B+1+1) _ ⟨B+1+1,1,none⟩ _ rfl)).trans (Fr.drew _ _)
 have qU:Hid (W2.heap[B+1+1]?=some (.cells #[.int .i64 1,.string (bW t.text),.int .i64 0,.int .i64 0,.int .i64 0,.slice none 0 0,.slice none 0 0,.int .i64 (t.fr:Nat),.int .i64 (t.to:Nat)] 29 (0,0))):=by
  have h1:(W1.setCell ⟨B+1+1,0,none⟩ (.int .i64 1)).heap[B+1+1]?=some (.cells #[.int .i64 1,.string ⟨#[]⟩,.int .i64 0,.int .i64 0,.int .i64 0,.slice none 0 0,.slice none 0 0,.int .i64 (t.fr:Nat),.int .i64 (t.to:Nat)] 29 (0,0)):=aB HB2.out
  have h2:((W1.setCell ⟨B+1+1,0,none⟩ (.int .i64 1)).setCell ⟨B+1+1,1,none⟩ (.string (bW t.text))).heap[B+1+1]?=some (.cells #[.int .i64 1,.string (bW t.text),.int .i64 0,.int .i64 0,.int .i64 0,.slice none 0 0,.slice none 0 0,.int .i64 (t.fr:Nat),.int .i64 (t.to:Nat)] 29 (0,0)):=aB h1
  show _=_;rw [hW2];exact h2
 have HX0:=hid (ay hf2 (by omega) HB0.out)
 have DU:=hid (ay hf2 (by omega) HB1.out)
 have BK:=hid (bI.out.trans' hf2 (fun k hk e=>by have:=bM.out;omega))
 clear hW2 hf2 k0 k1 k2 k3 t0 t1 v0 v1
 have t0:W2.cell? ⟨B+1+1,0,none⟩=some (.int .i64 1):=by rw [cell_of_row _ _ _ _ _ (0,0) qU.out];rfl
 have t1:W2.cell? ⟨B+1+1,1,none⟩=some (.string (bW t.text)):=by rw [cell_of_row _ _ _ _ _ (0,0) qU.out];rfl
 have t2:W2.cell? ⟨B+1+1,2,none⟩=some (.int .i64 0):=by rw [cell_of_row _ _ _ _ _ (0,0) qU.out];rfl
 have t3:W2.cell? ⟨B+1+1,3,none⟩=some (.int .i64 0):=by rw [cell_of_row _ _ _ _ _ (0,0) qU.out];rfl
 have t4:W2.cell? ⟨B+1+1,4,none⟩=some (.int .i64 0):=by rw [cell_of_row _ _ _ _ _ (0,0) qU.out];rfl
 have t5:W2.cell? ⟨B+1+1,5,none⟩=some (.slice none 0 0):=by rw [cell_of_row _ _ _ _ _ (0,0) qU.out];rfl
 have t6:W2.cell? ⟨B+1+1,6,none⟩=some (.slice none 0 0):=by rw [cell_of_row _ _ _ _ _ (0,0) qU.out];rfl
 have t7:W2.cell? ⟨B+1+1,7,none⟩=some (.int .i64 (t.fr:Nat)):=by rw [cell_of_row _ _ _ _ _ (0,0) qU.out];rfl
 have t8:W2.cell? ⟨B+1+1,8,none⟩=some (.int .i64 (t.to:Nat)):=by rw [cell_of_row _ _ _ _ _ (0,0) qU.out];rfl
 have k2:W2.cell? ⟨B+1,2,none⟩=some (.int .i64 (t.fr:Nat)):=by rw [cell_of_row _ _ _ _ _ (0,0) DU.out];rfl
 have k3:W2.cell? ⟨B+1,3,none⟩=some (.int .i64 (t.to:Nat)):=by rw [cell_of_row _ _ _ _ _ (0,0) DU.out];rfl
 obtain ⟨x0,x1,x2,x3,x4,x5,x6,x7,x8,x9,x10,x11,x12⟩:=aG HX0.out
 have y0:=au HX0.out 0
 have y1:=au HX0.out 1
 have y2:=au HX0.out 2
 have y3:=au HX0.out 3
 have y4:=au HX0.out 4
 have y5:=au HX0.out 5
 have y6:=au HX0.out 6
 have y7:=au HX0.out 7
 have y8:=au HX0.out 8
 have y9:=au HX0.out 9
 have yI:=au HX0.out 10
 have yJ:=au HX0.out 11
 have yK:=au HX0.out 12
 go_wp2_with fail
 have hf:=bf W2 B (.int .i64 1) (.string (bW t.text)) (.int .i64 0) (.int .i64 0) (.int .i64 0) (.slice none 0 0) (.slice none 0 0) (.int .i64 (t.fr:Nat)) (.int .i64 (t.to:Nat)) (.int .i64 (t.fr:Nat)) (.int .i64 (t.to:Nat)) (.int .i64 ((i:Int)+1)) (.int .i64 0)
 have dN:ah w (aO W2 B (.int .i64 1) (.string (bW t.text)) (.int .i64 0) (.int .i64 0) (.int .i64 0) (.slice none 0 0) (.slice none 0 0) (.int .i64 (t.fr:Nat)) (.int .i64 (t.to:Nat)) (.int .i64 (t.fr:Nat)) (.int .i64 (t.to:Nat)) (.int .i64 ((i:Int)+1)) (.int .i64 0)):=(BK.out).trans' hf (fun k hk e=>by have:=bM.out;omega)
 obtain ⟨f0,f1,f2,f3,f4,f5,f6,f7,f8,f9,f10,f11,f12⟩:=aG (aN (a0:=.int .i64 1) (a1:=.string (bW t.text)) (a2:=.int .i64 0) (a3:=.int .i64 0) (a4:=.int .i64 0) (a5:=.slice none 0 0) (a6:=.slice none 0 0) (a7:=.int .i64 (t.fr:Nat)) (a8:=.int .i64 (t.to:Nat)) (a9:=.int .i64 (t.fr:Nat)) (a10:=.int .i64 (t.to:Nat)) (a11:=.int .i64 ((i:Int)+1)) (a12:=.int .i64 0) HX0.out)
 change bodyPost _ _ _ _ _ (aO W2 B (.int .i64 1) (.string (bW t.text)) (.int .i64 0) (.int .i64 0) (.int .i64 0) (.slice none 0 0) (.slice none 0 0) (.int .i64 (t.fr:Nat)) (.int .i64 (t.to:Nat)) (.int .i64 (t.fr:Nat)) (.int .i64 (t.to:Nat)) (.int .i64 ((i:Int)+1)) (.int .i64 0))
 generalize aO W2 B (.int .i64 1) (.string (bW t.text)) (.int .i64 0) (.int .i64 0) (.int .i64 0) (.slice none 0 0) (.slice none 0 0) (.int .i64 (t.fr:Nat)) (.int .i64 (t.to:Nat)) (.int .i64 (t.fr:Nat)) (.int .i64 (t.to:Nat)) (.int .i64 ((i:Int)+1)) (.int .i64 0)=wf at *
 refine bodyPost_ret (by simp [results,Tryz.results103,go_sem,f0,f1,f2,f3,f4,f5,f6,f7,f8,f9,f10,f11,f12];rfl) rfl ?_
 exact ⟨none,0,0,none,0,0,rfl,aC.nil _ _ _,aY.nil _ _ _,dN⟩
theorem OY (ts : List Tok) (g c : Nat) (E : Nat -> jL) (T : Nat -> nI) (i : Nat) (lv mo : Int) (w : World) (hb : nR ts i = true) (ht : ny w g ts) (t : Tok) (hti : ts[i]? = some t) (hk1 : (t.kind == 1) = false) (hk2 : (t.kind == 2) = false) (hx : (t.text == vw) = true) :
    Calls Tryz.prog 103 #[tks g ts c,.int .i64 i,.int .i64 lv,.int .i64 mo] w (iJ w (jf E T ts i)):=by
 rw [wY hb hti,if_neg (by rw [hk1];simp),if_neg (by rw [hk2];simp),if_pos hx]
 obtain ⟨W0,hW0⟩:∃ W0,W0=w.alloc zX:=⟨_,rfl⟩
 have aK:Hid (ah w W0):=by rw [hW0];exact ah.alloc _ _
 have F9:=hid (kD ts g c i W0 (ht.stay aK.out))
 rw [hb] at F9
 obtain ⟨k0,k1,k2,k3⟩:=(ht.stay aK.out).cells i t hti
 have hil:=(List.getElem?_eq_some_iff.1 hti).1
 have hfew:=ht.few
 have hi':(i:Int) < ts.length:=by omega
 have h0:(0:Int)<=i:=by omega
 have e1:=kind_eq t.kind 1
 rw [hk1] at e1
 have e1':((t.kind:Int) == 1)=false:=e1
 have e2:=kind_eq t.kind 2
 rw [hk2] at e2
 have e2':((t.kind:Int) == 2)=false:=e2
 have e3:=ba_eq t.text ⟨#[116,114,117,101]⟩
 rw [show (t.text == (ByteArray.mk #[116,114,117,101]).data.toList)=true from hx] at e3
 have e3':((bW t.text).toList == [116,114,117,101])=true:=by rw [ByteArray.toList_eq];exact hx
 obtain ⟨W1,hW1⟩:∃ W1,W1=((w.alloc zX).alloc (.cells #[.int .i64 (t.kind:Nat),.string (bW t.text),.int .i64 (t.fr:Nat),.int .i64 (t.to:Nat)] 94)).alloc (.cells #[.int .i64 3,.string ⟨#[]⟩,.int .i64 0,.int .i64 0,.int .i64 0,.slice none 0 0,.slice none 0 0,.int .i64 (t.fr:Nat),.int .i64 (t.to:Nat)] 29):=⟨_,rfl⟩
 obtain ⟨b0,b1,b2,hq1⟩:=oK ts w W1 w.heap.size t rfl hW1
 have bI:=hid hq1
 have hW1':W1=(W0.alloc (.cells #[.int .i64 (t.kind:Nat),.string (bW t.text),.int .i64 (t.fr:Nat),.int .i64 (t.to:Nat)] 94)).alloc (.cells #[.int .i64 3,.string ⟨#[]⟩,.int .i64 0,.int .i64 0,.int .i64 0,.slice none 0 0,.slice none 0 0,.int .i64 (t.fr:Nat),.int .i64 (t.to:Nat)] 29):=by rw [hW1,hW0]
 have hz0:W0.heap.size=w.heap.size+1:=by rw [hW0];simp
 clear ht hb hti hk1 hk2 hx e1 e2 hq1
 go_enter Tryz.func103,Tryz.ntmps103
 go_wp2_with fail
 rw [<-hW0]
 clear hW0 hW1
 generalize hB:w.heap.size=B at *
 have bM:=hid hB
 clear hB
 refine F9.out.mono ?_;rintro e w1 ⟨rfl,rfl⟩
 go_upto_region 5 with fail
 change Code.wp _ _ _ _ ((W0.alloc (.cells #[.int .i64 (t.kind:Nat),.string (bW t.text),.int .i64 (t.fr:Nat),.int .i64 (t.to:Nat)] 94)).alloc (.cells #[.int .i64 3,.string ⟨#[]⟩,.int .i64 0,.int .i64 0,.int .i64 0,.slice none 0 0,.slice none 0 0,.int .i64 (t.fr:Nat),.int .i64 (t.to:Nat)] 29))
 rw [<-hW1']
 clear hW1' k0 k1 k2 k3
 have HB0:=hid b0
 have HB1:=hid b1
 have HB2:=hid b2
 have k0:W1.cell? ⟨B+1,0,none⟩=some (.int .i64 (t.kind:Nat)):=by rw [cell_of_row _ _ _ _ _ (0,0) b1];rfl
 have k1:W1.cell? ⟨B+1,1,none⟩=some (.string (bW t.text)):=by rw [cell_of_row _ _ _ _ _ (0,0) b1];rfl
 have t2:W1.cell? ⟨B+1+1,2,none⟩=some (.int .i64 0):=by rw [cell_of_row _ _ _ _ _ (0,0) b2];rfl
 have v2:W1.frozen? ⟨B+1+1,2,none⟩=false:=by simp [World.frozen?,b2]
 clear b0 b1 b2
 go_upto_region 17 with fail
 obtain ⟨W2,hW2⟩:∃ W2,W2=W1.setCell ⟨B+1+1,2,none⟩ (.int .i64 1):=⟨_,rfl⟩
 rw [<-hW2]
 have hf2:Fr (fun k=>k=B+1+1) W1 W2:=by rw [hW2];exact Fr.setCell (fun k=>k=B+1+1) _ ⟨B+1+1,2,none⟩ _ rfl
 have qU:Hid (W2.heap[B+1+1]?=some (.cells #[.int .i64 3,.string ⟨#[]⟩,.int .i64 1,.int .i64 0,.int .i64 0,.slice none 0 0,.slice none 0 0,.int .i64 (t.fr:Nat),.int .i64 (t.to:Nat)] 29 (0,0))):=by
  show _=_;rw [hW2];exact aB HB2.out
 have HX0:=hid (ay hf2 (by omega) HB0.out)
 have DU:=hid (ay hf2 (by omega) HB1.out)
 have BK:=hid (bI.out.trans' hf2 (fun k hk e=>by have:=bM.out;omega))
 clear hW2 hf2 k0 k1 t2 v2
 have t0:W2.cell? ⟨B+1+1,0,none⟩=some (.int .i64 3):=by rw [cell_of_row _ _ _ _ _ (0,0) qU.out];rfl
 have t1:W2.cell? ⟨B+1+1,1,none⟩=some (.string ⟨#[]⟩):=by rw [cell_of_row _ _ _ _ _ (0,0) qU.out];rfl
 have t2:W2.cell? ⟨B+1+1,2,none⟩=some (.int .i64 1):=by rw [cell_of_row _ _ _ _ _ (0,0) qU.out];rfl
 have t3:W2.cell? ⟨B+1+1,3,none⟩=some (.int .i64 0):=by rw [cell_of_row _ _ _ _ _ (0,0) qU.out];rfl
 have t4:W2.cell? ⟨B+1+1,4,none⟩=some (.int .i64 0):=by rw [cell_of_row _ _ _ _ _ (0,0) qU.out];rfl
 have t5:W2.cell? ⟨B+1+1,5,none⟩=some (.slice none 0 0):=by rw [cell_of_row _ _ _ _ _ (0,0) qU.out];rfl
 have t6:W2.cell? ⟨B+1+1,6,none⟩=some (.slice none 0 0):=by rw [cell_of_row _ _ _ _ _ (0,0) qU.out];rfl
 have t7:W2.cell? ⟨B+1+1,7,none⟩=some (.int .i64 (t.fr:Nat)):=by rw [cell_of_row _ _ _ _ _ (0,0) qU.out];rfl
 have t8:W2.cell? ⟨B+1+1,8,none⟩=some (.int .i64 (t.to:Nat)):=by rw [cell_of_row _ _ _ _ _ (0,0) qU.out];rfl
 have k2:W2.cell? ⟨B+1,2,none⟩=some (.int .i64 (t.fr:Nat)):=by rw [cell_of_row _ _ _ _ _ (0,0) DU.out];rfl
 have k3:W2.cell? ⟨B+1,3,none⟩=some (.int .i64 (t.to:Nat)):=by rw [cell_of_row _ _ _ _ _ (0,0) DU.out];rfl
 obtain ⟨x0,x1,x2,x3,x4,x5,x6,x7,x8,x9,x10,x11,x12⟩:=aG HX0.out
 have y0:=au HX0.out 0
 have y1:=au HX0.out 1
 have y2:=au HX0.out 2
 have y3:=au HX0.out 3
 have y4:=au HX0.out 4
 have y5:=au HX0.out 5
 have y6:=au HX0.out 6
 have y7:=au HX0.out 7
 have y8:=au HX0.out 8
 have y9:=au HX0.out 9
 have yI:=au HX0.out 10
 have yJ:=au HX0.out 11
 have yK:=au HX0.out 12
 go_wp2_with fail
 have hf:=bf W2 B (.int .i64 3) (.string ⟨#[]⟩) (.int .i64 1) (.int .i64 0) (.int .i64 0) (.slice none 0 0) (.slice none 0 0) (.int .i64 (t.fr:Nat)) (.int .i64 (t.to:Nat)) (.int .i64 (t.fr:Nat)) (.int .i64 (t.to:Nat)) (.int .i64 ((i:Int)+1)) (.int .i64 0)
 have dN:ah w (aO W2 B (.int .i64 3) (.string ⟨#[]⟩) (.int .i64 1) (.int .i64 0) (.int .i64 0) (.slice none 0 0) (.slice none 0 0) (.int .i64 (t.fr:Nat)) (.int .i64 (t.to:Nat)) (.int .i64 (t.fr:Nat)) (.int .i64 (t.to:Nat)) (.int .i64 ((i:Int)+1)) (.int .i64 0)):=(BK.out).trans' hf (fun k hk e=>by have:=bM.out;omega)
 obtain ⟨f0,f1,f2,f3,f4,f5,f6,f7,f8,f9,f10,f11,f12⟩:=aG (aN (a0:=.int .i64 3) (a1:=.string ⟨#[]⟩) (a2:=.int .i64 1) (a3:=.int .i64 0) (a4:=.int .i64 0) (a5:=.slice none 0 0) (a6:=.slice none 0 0) (a7:=.int .i64 (t.fr:Nat)) (a8:=.int .i64 (t.to:Nat)) (a9:=.int .i64 (t.fr:Nat)) (a10:=.int .i64 (t.to:Nat)) (a11:=.int .i64 ((i:Int)+1)) (a12:=.int .i64 0) HX0.out)
 change bodyPost _ _ _ _ _ (aO W2 B (.int .i64 3) (.string ⟨#[]⟩) (.int .i64 1) (.int .i64 0) (.int .i64 0) (.slice none 0 0) (.slice none 0 0) (.int .i64 (t.fr:Nat)) (.int .i64 (t.to:Nat)) (.int .i64 (t.fr:Nat)) (.int .i64 (t.to:Nat)) (.int .i64 ((i:Int)+1)) (.int .i64 0))
 generalize aO W2 B (.int .i64 3) (.string ⟨#[]⟩) (.int .i64 1) (.int .i64 0) (.int .i64 0) (.slice none 0 0) (.slice none 0 0) (.int .i64 (t.fr:Nat)) (.int .i64 (t.to:Nat)) (.int .i64 (t.fr:Nat)) (.int .i64 (t.to:Nat)) (.int .i64 ((i:Int)+1)) (.int .i64 0)=wf at *
 refine bodyPost_ret (by simp [results,Tryz.results103,go_sem,f0,f1,f2,f3,f4,f5,f6,f7,f8,f9,f10,f11,f12];rfl) rfl ?_
 exact ⟨none,0,0,none,0,0,rfl,aC.nil _ _ _,aY.nil _ _ _,dN⟩
theorem KC (ts : List Tok) (g c : Nat) (E : Nat -> jL) (T : Nat -> nI) (i : Nat) (lv mo : Int) (w : World) (hb : nR ts i = true) (ht : ny w g ts) (t : Tok) (hti : ts[i]? = some t) (hk1 : (t.kind == 1) = false) (hk2 : (t.kind == 2) = false) (hx : (t.text == vw) = false) (hy : (t.text == nJ) = false) :
    Calls Tryz.prog 103 #[tks g ts c,.int .i64 i,.int .i64 lv,.int .i64 mo] w (iJ w (jf E T ts i)):=by
 rw [wY hb hti,if_neg (by rw [hk1];simp),if_neg (by rw [hk2];simp),if_neg (by rw [hx];simp),if_neg (by rw [hy];simp)]
 obtain ⟨W0,hW0⟩:∃ W0,W0=w.alloc zX:=⟨_,rfl⟩
 have aK:Hid (ah w W0):=by rw [hW0];exact ah.alloc _ _
 have F9:=hid (kD ts g c i W0 (ht.stay aK.out))
 rw [hb] at F9
 obtain ⟨k0,k1,k2,k3⟩:=(ht.stay aK.out).cells i t hti
 have hil:=(List.getElem?_eq_some_iff.1 hti).1
 have hfew:=ht.few
 have hi':(i:Int) < ts.length:=by omega
 have h0:(0:Int)<=i:=by omega
 have e1:=kind_eq t.kind 1
 rw [hk1] at e1
 have e1':((t.kind:Int) == 1)=false:=e1
 have e2:=kind_eq t.kind 2
 rw [hk2] at e2
 have e2':((t.kind:Int) == 2)=false:=e2
 have e3:=ba_eq t.text ⟨#[116,114,117,101]⟩
 rw [show (t.text == (ByteArray.mk #[116,114,117,101]).data.toList)=false from hx] at e3
 have e3':((bW t.text).toList == [116,114,117,101])=false:=by rw [ByteArray.toList_eq];exact hx
 have e4:=ba_eq t.text ⟨#[40]⟩
 rw [show (t.text == (ByteArray.mk #[40]).data.toList)=false from hy] at e4
 have e4':((bW t.text).toList == [40])=false:=by rw [ByteArray.toList_eq];exact hy
 obtain ⟨W1,hW1⟩:∃ W1,W1=((w.alloc zX).alloc (.cells #[.int .i64 (t.kind:Nat),.string (bW t.text),.int .i64 (t.fr:Nat),.int .i64 (t.to:Nat)] 94)).alloc (.cells #[.int .i64 3,.string ⟨#[]⟩,.int .i64 0,.int .i64 0,.int .i64 0,.slice none 0 0,.slice none 0 0,.int .i64 (t.fr:Nat),.int .i64 (t.to:Nat)] 29):=⟨_,rfl⟩
 obtain ⟨b0,b1,b2,hq1⟩:=oK ts w W1 w.heap.size t rfl hW1
 have bI:=hid hq1
 have hW1':W1=(W0.alloc (.cells #[.int .i64 (t.kind:Nat),.string (bW t.text),.int .i64 (t.fr:Nat),.int .i64 (t.to:Nat)] 94)).alloc (.cells #[.int .i64 3,.string ⟨#[]⟩,.int .i64 0,.int .i64 0,.int .i64 0,.slice none 0 0,.slice none 0 0,.int .i64 (t.fr:Nat),.int .i64 (t.to:Nat)] 29):=by rw [hW1,hW0]
 have hz0:W0.heap.size=w.heap.size+1:=by rw [hW0];simp
 clear ht hb hti hk1 hk2 hx hy e1 e2 hq1
 go_enter Tryz.func103,Tryz.ntmps103
 go_wp2_with fail
 rw [<-hW0]
 clear hW0 hW1
 generalize hB:w.heap.size=B at *
 have bM:=hid hB
 clear hB
 refine F9.out.mono ?_;rintro e w1 ⟨rfl,rfl⟩
 go_upto_region 5 with fail
 change Code.wp _ _ _ _ ((W0.alloc (.cells #[.int .i64 (t.kind:Nat),.string (bW t.text),.int .i64 (t.fr:Nat),.int .i64 (t.to:Nat)] 94)).alloc (.cells #[.int .i64 3,.string ⟨#[]⟩,.int .i64 0,.int .i64 0,.int .i64 0,.slice none 0 0,.slice none 0 0,.int .i64 (t.fr:Nat),.int .i64 (t.to:Nat)] 29))
 rw [<-hW1']
 clear hW1' k0 k1 k2 k3
 have HB0:=hid b0
 have HB1:=hid b1
 have HB2:=hid b2
 have k0:W1.cell? ⟨B+1,0,none⟩=some (.int .i64 (t.kind:Nat)):=by rw [cell_of_row _ _ _ _ _ (0,0) b1];rfl
 have k1:W1.cell? ⟨B+1,1,none⟩=some (.string (bW t.text)):=by rw [cell_of_row _ _ _ _ _ (0,0) b1];rfl
 clear b0 b1 b2
 go_upto_region 17 with fail
 have qU:=HB2
 have HX0:=HB0
 have DU:=HB1
 have BK:=bI
 clear k0 k1
 have t0:W1.cell? ⟨B+1+1,0,none⟩=some (.int .i64 3):=by rw [cell_of_row _ _ _ _ _ (0,0) qU.out];rfl
 have t1:W1.cell? ⟨B+1+1,1,none⟩=some (.string ⟨#[]⟩):=by rw [cell_of_row _ _ _ _ _ (0,0) qU.out];rfl
 have t2:W1.cell? ⟨B+1+1,2,none⟩=some (.int .i64 0):=by rw [cell_of_row _ _ _ _ _ (0,0) qU.out];rfl
 have t3:W1.cell? ⟨B+1+1,3,none⟩=some (.int .i64 0):=by rw [cell_of_row _ _ _ _ _ (0,0) qU.out];rfl
 have t4:W1.cell? ⟨B+1+1,4,none⟩=some (.int .i64 0):=by rw [cell_of_row _ _ _ _ _ (0,0) qU.out];rfl
 have t5:W1.cell? ⟨B+1+1,5,none⟩=some (.slice none 0 0):=by rw [cell_of_row _ _ _ _ _ (0,0) qU.out];rfl
 have t6:W1.cell? ⟨B+1+1,6,none⟩=some (.slice none 0 0):=by rw [cell_of_row _ _ _ _ _ (0,0) qU.out];rfl
 have t7:W1.cell? ⟨B+1+1,7,none⟩=some (.int .i64 (t.fr:Nat)):=by rw [cell_of_row _ _ _ _ _ (0,0) qU.out];rfl
 have t8:W1.cell? ⟨B+1+1,8,none⟩=some (.int .i64 (t.to:Nat)):=by rw [cell_of_row _ _ _ _ _ (0,0) qU.out];rfl
 have k2:W1.cell? ⟨B+1,2,none⟩=some (.int .i64 (t.fr:Nat)):=by rw [cell_of_row _ _ _ _ _ (0,0) DU.out];rfl
 have k3:W1.cell? ⟨B+1,3,none⟩=some (.int .i64 (t.to:Nat)):=by rw [cell_of_row _ _ _ _ _ (0,0) DU.out];rfl
 obtain ⟨x0,x1,x2,x3,x4,x5,x6,x7,x8,x9,x10,x11,x12⟩:=aG HX0.out
 have y0:=au HX0.out 0
 have y1:=au HX0.out 1
 have y2:=au HX0.out 2
 have y3:=au HX0.out 3
 have y4:=au HX0.out 4
 have y5:=au HX0.out 5
 have y6:=au HX0.out 6
 have y7:=au HX0.out 7
 have y8:=au HX0.out 8
 have y9:=au HX0.out 9
 have yI:=au HX0.out 10
 have yJ:=au HX0.out 11
 have yK:=au HX0.out 12
 go_wp2_with fail
 have hf:=bf W1 B (.int .i64 3) (.string ⟨#[]⟩) (.int .i64 0) (.int .i64 0) (.int .i64 0) (.slice none 0 0) (.slice none 0 0) (.int .i64 (t.fr:Nat)) (.int .i64 (t.to:Nat)) (.int .i64 (t.fr:Nat)) (.int .i64 (t.to:Nat)) (.int .i64 ((i:Int)+1)) (.int .i64 0)
 have dN:ah w (aO W1 B (.int .i64 3) (.string ⟨#[]⟩) (.int .i64 0) (.int .i64 0) (.int .i64 0) (.slice none 0 0) (.slice none 0 0) (.int .i64 (t.fr:Nat)) (.int .i64 (t.to:Nat)) (.int .i64 (t.fr:Nat)) (.int .i64 (t.to:Nat)) (.int .i64 ((i:Int)+1)) (.int .i64 0)):=(BK.out).trans' hf (fun k hk e=>by have:=bM.out;omega)
 obtain ⟨f0,f1,f2,f3,f4,f5,f6,f7,f8,f9,f10,f11,f12⟩:=aG (aN (a0:=.int .i64 3) (a1:=.string ⟨#[]⟩) (a2:=.int .i64 0) (a3:=.int .i64 0) (a4:=.int .i64 0) (a5:=.slice none 0 0) (a6:=.slice none 0 0) (a7:=.int .i64 (t.fr:Nat)) (a8:=.int .i64 (t.to:Nat)) (a9:=.int .i64 (t.fr:Nat)) (a10:=.int .i64 (t.to:Nat)) (a11:=.int .i64 ((i:Int)+1)) (a12:=.int .i64 0) HX0.out)
 change bodyPost _ _ _ _ _ (aO W1 B (.int .i64 3) (.string ⟨#[]⟩) (.int .i64 0) (.int .i64 0) (.int .i64 0) (.slice none 0 0) (.slice none 0 0) (.int .i64 (t.fr:Nat)) (.int .i64 (t.to:Nat)) (.int .i64 (t.fr:Nat)) (.int .i64 (t.to:Nat)) (.int .i64 ((i:Int)+1)) (.int .i64 0))
 generalize aO W1 B (.int .i64 3) (.string ⟨#[]⟩) (.int .i64 0) (.int .i64 0) (.int .i64 0) (.slice none 0 0) (.slice none 0 0) (.int .i64 (t.fr:Nat)) (.int .i64 (t.to:Nat)) (.int .i64 (t.fr:Nat)) (.int .i64 (t.to:Nat)) (.int .i64 ((i:Int)+1)) (.int .i64 0)=wf at *
 refine bodyPost_ret (by simp [results,Tryz.results103,go_sem,f0,f1,f2,f3,f4,f5,f6,f7,f8,f9,f10,f11,f12];rfl) rfl ?_
 exact ⟨none,0,0,none,0,0,rfl,aC.nil _ _ _,aY.nil _ _ _,dN⟩
theorem OZ (ts : List Tok) (g c : Nat) (E : Nat -> jL) (T : Nat -> nI) (i : Nat) (lv mo : Int) (w : World) (hb : nR ts i = true) (ht : ny w g ts) (t : Tok) (hti : ts[i]? = some t) (hk1 : (t.kind == 1) = false) (hk2 : (t.kind == 2) = false) (hx : (t.text == vw) = false) (hy : (t.text == nJ) = true) (hbr : ∀ W, ah w W -> Calls Tryz.prog 122 #[tks g ts c, .int .i64 i, .int .i64 lv, .int .i64 mo] W (iJ W (VQ E T ts i (E (i + 1))))) :
    Calls Tryz.prog 103 #[tks g ts c,.int .i64 i,.int .i64 lv,.int .i64 mo] w (iJ w (jf E T ts i)):=by
 rw [wY hb hti,if_neg (by rw [hk1];simp),if_neg (by rw [hk2];simp),if_neg (by rw [hx];simp),if_pos hy]
 obtain ⟨W0,hW0⟩:∃ W0,W0=w.alloc zX:=⟨_,rfl⟩
 have aK:Hid (ah w W0):=by rw [hW0];exact ah.alloc _ _
 have F9:=hid (kD ts g c i W0 (ht.stay aK.out))
 rw [hb] at F9
 obtain ⟨k0,k1,k2,k3⟩:=(ht.stay aK.out).cells i t hti
 have hil:=(List.getElem?_eq_some_iff.1 hti).1
 have hfew:=ht.few
 have hi':(i:Int) < ts.length:=by omega
 have h0:(0:Int)<=i:=by omega
 have e1:=kind_eq t.kind 1
 rw [hk1] at e1
 have e1':((t.kind:Int) == 1)=false:=e1
 have e2:=kind_eq t.kind 2
 rw [hk2] at e2
 have e2':((t.kind:Int) == 2)=false:=e2
 have e3:=ba_eq t.text ⟨#[116,114,117,101]⟩
 rw [show (t.text == (ByteArray.mk #[116,114,117,101]).data.toList)=false from hx] at e3
 have e3':((bW t.text).toList == [116,114,117,101])=false:=by rw [ByteArray.toList_eq];exact hx
 have e4:=ba_eq t.text ⟨#[40]⟩
 rw [show (t.text == (ByteArray.mk #[40]).data.toList)=true from hy] at e4
 have e4':((bW t.text).toList == [40])=true:=by rw [ByteArray.toList_eq];exact hy
 obtain ⟨W1,hW1⟩:∃ W1,W1=((w.alloc zX).alloc (.cells #[.int .i64 (t.kind:Nat),.string (bW t.text),.int .i64 (t.fr:Nat),.int .i64 (t.to:Nat)] 94)).alloc (.cells #[.int .i64 3,.string ⟨#[]⟩,.int .i64 0,.int .i64 0,.int .i64 0,.slice none 0 0,.slice none 0 0,.int .i64 (t.fr:Nat),.int .i64 (t.to:Nat)] 29):=⟨_,rfl⟩
 obtain ⟨b0,b1,b2,hq1⟩:=oK ts w W1 w.heap.size t rfl hW1
 have bI:=hid hq1
 have Vo:=hid (hbr W1 hq1)
 have hW1':W1=(W0.alloc (.cells #[.int .i64 (t.kind:Nat),.string (bW t.text),.int .i64 (t.fr:Nat),.int .i64 (t.to:Nat)] 94)).alloc (.cells #[.int .i64 3,.string ⟨#[]⟩,.int .i64 0,.int .i64 0,.int .i64 0,.slice none 0 0,.slice none 0 0,.int .i64 (t.fr:Nat),.int .i64 (t.to:Nat)] 29):=by rw [hW1,hW0]
 have hz0:W0.heap.size=w.heap.size+1:=by rw [hW0];simp
 clear ht hb hti hk1 hk2 hx hy e1 e2 hbr hq1
 go_enter Tryz.func103,Tryz.ntmps103
 go_wp2_with fail
 rw [<-hW0]
 clear hW0 hW1
 generalize hB:w.heap.size=B at *
 have bM:=hid hB
 clear hB
 refine F9.out.mono ?_;rintro e w1 ⟨rfl,rfl⟩
 go_upto_region 5 with fail
 change Code.wp _ _ _ _ ((W0.alloc (.cells #[.int .i64 (t.kind:Nat),.string (bW t.text),.int .i64 (t.fr:Nat),.int .i64 (t.to:Nat)] 94)).alloc (.cells #[.int .i64 3,.string ⟨#[]⟩,.int .i64 0,.int .i64 0,.int .i64 0,.slice none 0 0,.slice none 0 0,.int .i64 (t.fr:Nat),.int .i64 (t.to:Nat)] 29))
 rw [<-hW1']
 clear hW1' k0 k1 k2 k3
 have HB0:=hid b0
 have HB2:=hid b2
 have k0:W1.cell? ⟨B+1,0,none⟩=some (.int .i64 (t.kind:Nat)):=by rw [cell_of_row _ _ _ _ _ (0,0) b1];rfl
 have k1:W1.cell? ⟨B+1,1,none⟩=some (.string (bW t.text)):=by rw [cell_of_row _ _ _ _ _ (0,0) b1];rfl
 clear b0 b1 b2
 go_wp2_with fail
 generalize VQ E T ts i (E (i+1))=r at *
 refine Vo.out.mono ?_
 cases r with
 | inr x =>
  obtain ⟨j,er⟩:=x
  rintro e w2 ⟨rfl,hq2⟩
  have hq3:=bI.out.trans hq2
  have hb2:=ay hq2 (fun h=>h) HB0.out
  have HX0:=hid hb2
  have BK:=hid hq3
  obtain ⟨x0,x1,x2,x3,x4,x5,x6,x7,x8,x9,x10,x11,x12⟩:=aG hb2
  have y0:=au hb2 0
  have y1:=au hb2 1
  have y2:=au hb2 2
  have y3:=au hb2 3
  have y4:=au hb2 4
  have y5:=au hb2 5
  have y6:=au hb2 6
  have y7:=au hb2 7
  have y8:=au hb2 8
  have y9:=au hb2 9
  have yI:=au hb2 10
  have yJ:=au hb2 11
  have yK:=au hb2 12
  clear hb2 hq3
  go_wp2_with fail
  have hf:=bf w2 B (.int .i64 0) (.string ⟨#[]⟩) (.int .i64 0) (.int .i64 0) (.int .i64 0) (.slice none 0 0) (.slice none 0 0) (.int .i64 0) (.int .i64 0) (.int .i64 0) (.int .i64 0) (.int .i64 (j:Nat)) (.int .i64 (er:Nat))
  have dN:ah w (aO w2 B (.int .i64 0) (.string ⟨#[]⟩) (.int .i64 0) (.int .i64 0) (.int .i64 0) (.slice none 0 0) (.slice none 0 0) (.int .i64 0) (.int .i64 0) (.int .i64 0) (.int .i64 0) (.int .i64 (j:Nat)) (.int .i64 (er:Nat))):=(BK.out).trans' hf (fun k hk e=>by have:=bM.out;omega)
  obtain ⟨f0,f1,f2,f3,f4,f5,f6,f7,f8,f9,f10,f11,f12⟩:=aG (aN (a0:=.int .i64 0) (a1:=.string ⟨#[]⟩) (a2:=.int .i64 0) (a3:=.int .i64 0) (a4:=.int .i64 0) (a5:=.slice none 0 0) (a6:=.slice none 0 0) (a7:=.int .i64 0) (a8:=.int .i64 0) (a9:=.int .i64 0) (a10:=.int .i64 0) (a11:=.int .i64 (j:Nat)) (a12:=.int .i64 (er:Nat)) HX0.out)
  change bodyPost _ _ _ _ _ (aO w2 B (.int .i64 0) (.string ⟨#[]⟩) (.int .i64 0) (.int .i64 0) (.int .i64 0) (.slice none 0 0) (.slice none 0 0) (.int .i64 0) (.int .i64 0) (.int .i64 0) (.int .i64 0) (.int .i64 (j:Nat)) (.int .i64 (er:Nat)))
  generalize aO w2 B (.int .i64 0) (.string ⟨#[]⟩) (.int .i64 0) (.int .i64 0) (.int .i64 0) (.slice none 0 0) (.slice none 0 0) (.int .i64 0) (.int .i64 0) (.int .i64 0) (.int .i64 0) (.int .i64 (j:Nat)) (.int .i64 (er:Nat))=wf at *
  refine bodyPost_ret (by simp [results,Tryz.results103,go_sem,f0,f1,f2,f3,f4,f5,f6,f7,f8,f9,f10,f11,f12];rfl) rfl ?_
  exact ⟨rfl,dN⟩
 | inl x =>
  obtain ⟨⟨h,ps⟩,p,j⟩:=x
  rintro e w2 ⟨o1,l1,c1,o2,l2,c2,rfl,hs1,hs2,hq2⟩
  have hB1:B+1+1 < W1.heap.size:=lt_of_block HB2.out
  have nH:=hid hs1
  have HS2:=hid hs2
  clear hs1 hs2
  have hq3:=bI.out.trans hq2
  have hb2:=ay hq2 (fun h=>h) HB0.out
  have HX0:=hid hb2
  have BK:=hid hq3
  obtain ⟨x0,x1,x2,x3,x4,x5,x6,x7,x8,x9,x10,x11,x12⟩:=aG hb2
  have y0:=au hb2 0
  have y1:=au hb2 1
  have y2:=au hb2 2
  have y3:=au hb2 3
  have y4:=au hb2 4
  have y5:=au hb2 5
  have y6:=au hb2 6
  have y7:=au hb2 7
  have y8:=au hb2 8
  have y9:=au hb2 9
  have yI:=au hb2 10
  have yJ:=au hb2 11
  have yK:=au hb2 12
  clear hb2 hq3
  go_wp2_with fail
  have hf:=bf w2 B (.int .i64 h.k) (.string h.nm) (.int .i64 h.n) (.int .i64 h.tk) (.int .i64 h.tn) (.slice o1 l1 c1) (.slice o2 l2 c2) (.int .i64 h.fr) (.int .i64 h.en) (.int .i64 p.1) (.int .i64 p.2) (.int .i64 (j:Nat)) (.int .i64 0)
  have dN:ah w (aO w2 B (.int .i64 h.k) (.string h.nm) (.int .i64 h.n) (.int .i64 h.tk) (.int .i64 h.tn) (.slice o1 l1 c1) (.slice o2 l2 c2) (.int .i64 h.fr) (.int .i64 h.en) (.int .i64 p.1) (.int .i64 p.2) (.int .i64 (j:Nat)) (.int .i64 0)):=(BK.out).trans' hf (fun k hk e=>by have:=bM.out;omega)
  obtain ⟨f0,f1,f2,f3,f4,f5,f6,f7,f8,f9,f10,f11,f12⟩:=aG (aN (a0:=.int .i64 h.k) (a1:=.string h.nm) (a2:=.int .i64 h.n) (a3:=.int .i64 h.tk) (a4:=.int .i64 h.tn) (a5:=.slice o1 l1 c1) (a6:=.slice o2 l2 c2) (a7:=.int .i64 h.fr) (a8:=.int .i64 h.en) (a9:=.int .i64 p.1) (a10:=.int .i64 p.2) (a11:=.int .i64 (j:Nat)) (a12:=.int .i64 0) HX0.out)
  change bodyPost _ _ _ _ _ (aO w2 B (.int .i64 h.k) (.string h.nm) (.int .i64 h.n) (.int .i64 h.tk) (.int .i64 h.tn) (.slice o1 l1 c1) (.slice o2 l2 c2) (.int .i64 h.fr) (.int .i64 h.en) (.int .i64 p.1) (.int .i64 p.2) (.int .i64 (j:Nat)) (.int .i64 0))
  generalize aO w2 B (.int .i64 h.k) (.string h.nm) (.int .i64 h.n) (.int .i64 h.tk) (.int .i64 h.tn) (.slice o1 l1 c1) (.slice o2 l2 c2) (.int .i64 h.fr) (.int .i64 h.en) (.int .i64 p.1) (.int .i64 p.2) (.int .i64 (j:Nat)) (.int .i64 0)=wf at *
  refine bodyPost_ret (by simp [results,Tryz.results103,go_sem,f0,f1,f2,f3,f4,f5,f6,f7,f8,f9,f10,f11,f12];rfl) rfl ?_
  exact ⟨o1,l1,c1,o2,l2,c2,rfl,nH.out.fr hf (fun b _ h=>⟨by have h':W1.heap.size<=b:=h;have:=bM.out;show w.heap.size<=b;omega,by have h':W1.heap.size<=b:=h;omega⟩),HS2.out.fr hf (fun b _ h=>⟨by have h':W1.heap.size<=b:=h;have:=bM.out;show w.heap.size<=b;omega,by have h':W1.heap.size<=b:=h;omega⟩),dN⟩
end Pa
end
section
namespace Pa
open Go.RowKit Lx
def DV (n:Int) (c:UInt8):Int:=IntKind.i64.wrap (IntKind.i64.wrap (IntKind.i64.wrap (10 * n)+c.toNat) - 48)
theorem RV {s:List UInt8} {j:Nat} {c:UInt8} (h:s[j]?=some c) (n:Int):(s.take (j+1)).foldl DV n=DV ((s.take j).foldl DV n) c:=by
 rw [List.take_add_one,h,List.foldl_append];rfl
theorem RX (ts : List Tok) (g c : Nat) (E : Nat -> jL) (T : Nat -> nI) (i : Nat) (lv mo : Int) (w : World) (hb : nR ts i = true) (ht : ny w g ts) (t : Tok) (hti : ts[i]? = some t) (hk1 : (t.kind == 1) = false) (hk2 : (t.kind == 2) = true) (htl : t.text.length <= 1000000) :
    Calls Tryz.prog 103 #[tks g ts c,.int .i64 i,.int .i64 lv,.int .i64 mo] w (iJ w (jf E T ts i)):=by
 rw [wY hb hti,if_neg (by rw [hk1];simp),if_pos hk2]
 obtain ⟨W0,hW0⟩:∃ W0,W0=w.alloc zX:=⟨_,rfl⟩
 have aK:Hid (ah w W0):=by rw [hW0];exact ah.alloc _ _
 have F9:=hid (kD ts g c i W0 (ht.stay aK.out))
 rw [hb] at F9
 obtain ⟨k0,k1,k2,k3⟩:=(ht.stay aK.out).cells i t hti
 have hil:=(List.getElem?_eq_some_iff.1 hti).1
 have hfew:=ht.few
 have hi':(i:Int) < ts.length:=by omega
 have h0:(0:Int)<=i:=by omega
 have e1:=kind_eq t.kind 1
 rw [hk1] at e1
 have e1':((t.kind:Int) == 1)=false:=e1
 have e2:=kind_eq t.kind 2
 rw [hk2] at e2
 have e2':((t.kind:Int) == 2)=true:=e2
 obtain ⟨W1,hW1⟩:∃ W1,W1=((w.alloc zX).alloc (.cells #[.int .i64 (t.kind:Nat),.string (bW t.text),.int .i64 (t.fr:Nat),.int .i64 (t.to:Nat)] 94)).alloc (.cells #[.int .i64 3,.string ⟨#[]⟩,.int .i64 0,.int .i64 0,.int .i64 0,.slice none 0 0,.slice none 0 0,.int .i64 (t.fr:Nat),.int .i64 (t.to:Nat)] 29):=⟨_,rfl⟩
 obtain ⟨b0,b1,b2,hq1⟩:=oK ts w W1 w.heap.size t rfl hW1
 have bI:=hid hq1
 have hW1':W1=(W0.alloc (.cells #[.int .i64 (t.kind:Nat),.string (bW t.text),.int .i64 (t.fr:Nat),.int .i64 (t.to:Nat)] 94)).alloc (.cells #[.int .i64 3,.string ⟨#[]⟩,.int .i64 0,.int .i64 0,.int .i64 0,.slice none 0 0,.slice none 0 0,.int .i64 (t.fr:Nat),.int .i64 (t.to:Nat)] 29):=by rw [hW1,hW0]
 have hz0:W0.heap.size=w.heap.size+1:=by rw [hW0];simp
 clear ht hb hti hk1 hk2 e1 e2 hq1
 go_enter Tryz.func103,Tryz.ntmps103
 go_wp2_with fail
 rw [<-hW0]
 clear hW0 hW1
 generalize hB:w.heap.size=B at *
 have bM:=hid hB
 clear hB
 refine F9.out.mono ?_;rintro e w1 ⟨rfl,rfl⟩
 go_upto_region 5 with fail
 change Code.wp _ _ _ _ ((W0.alloc (.cells #[.int .i64 (t.kind:Nat),.string (bW t.text),.int .i64 (t.fr:Nat),.int .i64 (t.to:Nat)] 94)).alloc (.cells #[.int .i64 3,.string ⟨#[]⟩,.int .i64 0,.int .i64 0,.int .i64 0,.slice none 0 0,.slice none 0 0,.int .i64 (t.fr:Nat),.int .i64 (t.to:Nat)] 29))
 rw [<-hW1']
 clear hW1' k0 k1 k2 k3
 have HB0:=hid b0
 have HB1:=hid b1
 have HB2:=hid b2
 have k0:W1.cell? ⟨B+1,0,none⟩=some (.int .i64 (t.kind:Nat)):=by rw [cell_of_row _ _ _ _ _ (0,0) b1];rfl
 have k1:W1.cell? ⟨B+1,1,none⟩=some (.string (bW t.text)):=by rw [cell_of_row _ _ _ _ _ (0,0) b1];rfl
 have t0:W1.cell? ⟨B+1+1,0,none⟩=some (.int .i64 3):=by rw [cell_of_row _ _ _ _ _ (0,0) b2];rfl
 have v0:W1.frozen? ⟨B+1+1,0,none⟩=false:=by simp [World.frozen?,b2]
 clear b0 b1 b2
 go_upto_region 9 with fail
 obtain ⟨W2,hW2⟩:∃ W2,W2=W1.setCell ⟨B+1+1,0,none⟩ (.int .i64 2):=⟨_,rfl⟩
 rw [<-hW2]
 have hf2:Fr (fun k=>k=B+1+1) W1 W2:=by rw [hW2];exact Fr.setCell (fun k=>k=B+1+1) _ ⟨B+1+1,0,none⟩ _ rfl
 have HT2:Hid (W2.heap[B+1+1]?=some (.cells #[.int .i64 2,.string ⟨#[]⟩,.int .i64 0,.int .i64 0,.int .i64 0,.slice none 0 0,.slice none 0 0,.int .i64 (t.fr:Nat),.int .i64 (t.to:Nat)] 29 (0,0))):=by
  show _=_;rw [hW2];exact aB HB2.out
 have HA0:=hid (ay hf2 (by omega) HB0.out)
 have HA1:=hid (ay hf2 (by omega) HB1.out)
 have HAQ:=hid (bI.out.trans' hf2 (fun k hk e=>by have:=bM.out;omega))
 clear hW2 hf2 k0 k1 t0 v0
 obtain ⟨s,hs⟩:∃ s,s=bW t.text:=⟨_,rfl⟩
 have hsl:s.data.toList=t.text:=by rw [hs];rfl
 have hsz:s.size<=1000000:=by rw [<-bH,hsl];exact htl
 rw [<-hs] at HA1
 have HSL:=hid hsl
 clear hsl hs htl
 go_wp2_with fail
 go_loopw [11] (fun v wr=>∃ (j:Nat) (n:Int),v=.int .i64 j/\j<=s.size/\(s.data.toList.take j).foldl DV 0=n/\wr.heap[B+1+1]?=some (.cells #[.int .i64 2,.string ⟨#[]⟩,.int .i64 n,.int .i64 0,.int .i64 0,.slice none 0 0,.slice none 0 0,.int .i64 (t.fr:Nat),.int .i64 (t.to:Nat)] 29 (0,0))/\Fr (fun k=>k=B+1+1) W2 wr) (fun t _=>s.size - (intOf t).toNat)
 case atStart=>exact ⟨0,0,rfl,Nat.zero_le _,rfl,HT2.out,Fr.refl _ _⟩
 case round =>
  obtain ⟨j,n,rfl,hj,hn,hb,hf⟩:=hrel
  have HN:=hid hn
  have HBT:=hid hb
  have HF:=hid hf
  have hb1:=ay hf (by omega) HA1.out
  have k1:wr.cell? ⟨B+1,1,none⟩=some (.string s):=by rw [cell_of_row _ _ _ _ _ (0,0) hb1];rfl
  by_cases hlt:j < s.size
  ·have hlt':(j:Int) < s.size:=by omega
   obtain ⟨x,hx⟩:∃ x,s[j]=x:=⟨_,rfl⟩
   have hx2:s.data.toList[j]?=some x:=by
    have hlt2:j < s.data.toList.length:=by rw [bH];exact hlt
    rw [List.getElem?_eq_getElem hlt2,<-hx];rfl
   have HX:=hid (RV hx2 0)
   have hv:wrap64 (wrap64 (wrap64 (10 * n)+wrap64 (x.toNat:Int)) - 48)=DV n x:=by
    have hxx:=x.toNat_lt
    rw [IntWalk.wrap64_in (x.toNat:Int) (by omega)];unfold DV;simp only [IntWalk.i64_left]
   have HV:=hid hv
   have t2:wr.cell? ⟨B+1+1,2,none⟩=some (.int .i64 n):=by rw [cell_of_row _ _ _ _ _ (0,0) hb];rfl
   have v2:wr.frozen? ⟨B+1+1,2,none⟩=false:=by simp [World.frozen?,hb]
   clear hn hb hf hb1 hx2 hv
   go_upto_region 12 with fail
   go_region
   obtain ⟨W5,Vp⟩:∃ W5,W5=(wr.setCell ⟨B+1+1,2,none⟩ (.int .i64 (wrap64 (wrap64 (wrap64 (10 * n)+wrap64 (x.toNat:Int)) - 48)))).drew:=⟨_,rfl⟩
   rw [<-Vp]
   rw [HV.out] at Vp
   have hf5:Fr (fun k=>k=B+1+1) wr W5:=by rw [Vp];exact (Fr.setCell (fun k=>k=B+1+1) _ ⟨B+1+1,2,none⟩ _ rfl).trans (Fr.drew _ _)
   have hb5:W5.heap[B+1+1]?=some (.cells #[.int .i64 2,.string ⟨#[]⟩,.int .i64 (DV n x),.int .i64 0,.int .i64 0,.slice none 0 0,.slice none 0 0,.int .i64 (t.fr:Nat),.int .i64 (t.to:Nat)] 29 (0,0)):=by
    have h1:(wr.setCell ⟨B+1+1,2,none⟩ (.int .i64 (DV n x))).heap[B+1+1]?=some (.cells #[.int .i64 2,.string ⟨#[]⟩,.int .i64 (DV n x),.int .i64 0,.int .i64 0,.slice none 0 0,.slice none 0 0,.int .i64 (t.fr:Nat),.int .i64 (t.to:Nat)] 29 (0,0)):=aB HBT.out
    rw [Vp];exact h1
   clear Vp k1 t2 v2
   go_wp2_with fail
   go_roundw
   case rel=>exact ⟨j+1,DV n x,by go_num,by omega,by rw [HX.out,HN.out],hb5,HF.out.trans hf5⟩
   case measure=>simp [intOf];omega
  ·have hlt':¬ (j:Int) < s.size:=by omega
   have bJ:Hid (n=Yy t.text):=by
    show _=_
    rw [<-hn,List.take_of_length_le (by rw [bH];omega),HSL.out];rfl
   have qU:=hid hb
   have HX0:=hid (ay hf (by omega) HA0.out)
   have DU:=hid hb1
   have BK:=hid (HAQ.out.trans' hf (fun k hk e=>by have:=bM.out;omega))
   clear hn hb hb1 hf
   go_upto_region 17 with fail
   have t0:wr.cell? ⟨B+1+1,0,none⟩=some (.int .i64 2):=by rw [cell_of_row _ _ _ _ _ (0,0) qU.out];rfl
   have t1:wr.cell? ⟨B+1+1,1,none⟩=some (.string ⟨#[]⟩):=by rw [cell_of_row _ _ _ _ _ (0,0) qU.out];rfl
   have t2:wr.cell? ⟨B+1+1,2,none⟩=some (.int .i64 n):=by rw [cell_of_row _ _ _ _ _ (0,0) qU.out];rfl
   have t3:wr.cell? ⟨B+1+1,3,none⟩=some (.int .i64 0):=by rw [cell_of_row _ _ _ _ _ (0,0) qU.out];rfl
   have t4:wr.cell? ⟨B+1+1,4,none⟩=some (.int .i64 0):=by rw [cell_of_row _ _ _ _ _ (0,0) qU.out];rfl
   have t5:wr.cell? ⟨B+1+1,5,none⟩=some (.slice none 0 0):=by rw [cell_of_row _ _ _ _ _ (0,0) qU.out];rfl
   have t6:wr.cell? ⟨B+1+1,6,none⟩=some (.slice none 0 0):=by rw [cell_of_row _ _ _ _ _ (0,0) qU.out];rfl
   have t7:wr.cell? ⟨B+1+1,7,none⟩=some (.int .i64 (t.fr:Nat)):=by rw [cell_of_row _ _ _ _ _ (0,0) qU.out];rfl
   have t8:wr.cell? ⟨B+1+1,8,none⟩=some (.int .i64 (t.to:Nat)):=by rw [cell_of_row _ _ _ _ _ (0,0) qU.out];rfl
   have k2:wr.cell? ⟨B+1,2,none⟩=some (.int .i64 (t.fr:Nat)):=by rw [cell_of_row _ _ _ _ _ (0,0) DU.out];rfl
   have k3:wr.cell? ⟨B+1,3,none⟩=some (.int .i64 (t.to:Nat)):=by rw [cell_of_row _ _ _ _ _ (0,0) DU.out];rfl
   obtain ⟨x0,x1,x2,x3,x4,x5,x6,x7,x8,x9,x10,x11,x12⟩:=aG HX0.out
   have y0:=au HX0.out 0
   have y1:=au HX0.out 1
   have y2:=au HX0.out 2
   have y3:=au HX0.out 3
   have y4:=au HX0.out 4
   have y5:=au HX0.out 5
   have y6:=au HX0.out 6
   have y7:=au HX0.out 7
   have y8:=au HX0.out 8
   have y9:=au HX0.out 9
   have yI:=au HX0.out 10
   have yJ:=au HX0.out 11
   have yK:=au HX0.out 12
   go_wp2_with fail
   have hf:=bf wr B (.int .i64 2) (.string ⟨#[]⟩) (.int .i64 n) (.int .i64 0) (.int .i64 0) (.slice none 0 0) (.slice none 0 0) (.int .i64 (t.fr:Nat)) (.int .i64 (t.to:Nat)) (.int .i64 (t.fr:Nat)) (.int .i64 (t.to:Nat)) (.int .i64 ((i:Int)+1)) (.int .i64 0)
   have dN:ah w (aO wr B (.int .i64 2) (.string ⟨#[]⟩) (.int .i64 n) (.int .i64 0) (.int .i64 0) (.slice none 0 0) (.slice none 0 0) (.int .i64 (t.fr:Nat)) (.int .i64 (t.to:Nat)) (.int .i64 (t.fr:Nat)) (.int .i64 (t.to:Nat)) (.int .i64 ((i:Int)+1)) (.int .i64 0)):=(BK.out).trans' hf (fun k hk e=>by have:=bM.out;omega)
   obtain ⟨f0,f1,f2,f3,f4,f5,f6,f7,f8,f9,f10,f11,f12⟩:=aG (aN (a0:=.int .i64 2) (a1:=.string ⟨#[]⟩) (a2:=.int .i64 n) (a3:=.int .i64 0) (a4:=.int .i64 0) (a5:=.slice none 0 0) (a6:=.slice none 0 0) (a7:=.int .i64 (t.fr:Nat)) (a8:=.int .i64 (t.to:Nat)) (a9:=.int .i64 (t.fr:Nat)) (a10:=.int .i64 (t.to:Nat)) (a11:=.int .i64 ((i:Int)+1)) (a12:=.int .i64 0) HX0.out)
   change bodyPost _ _ _ _ _ (aO wr B (.int .i64 2) (.string ⟨#[]⟩) (.int .i64 n) (.int .i64 0) (.int .i64 0) (.slice none 0 0) (.slice none 0 0) (.int .i64 (t.fr:Nat)) (.int .i64 (t.to:Nat)) (.int .i64 (t.fr:Nat)) (.int .i64 (t.to:Nat)) (.int .i64 ((i:Int)+1)) (.int .i64 0))
   generalize aO wr B (.int .i64 2) (.string ⟨#[]⟩) (.int .i64 n) (.int .i64 0) (.int .i64 0) (.slice none 0 0) (.slice none 0 0) (.int .i64 (t.fr:Nat)) (.int .i64 (t.to:Nat)) (.int .i64 (t.fr:Nat)) (.int .i64 (t.to:Nat)) (.int .i64 ((i:Int)+1)) (.int .i64 0)=wf at *
   refine bodyPost_ret (by simp [results,Tryz.results103,go_sem,f0,f1,f2,f3,f4,f5,f6,f7,f8,f9,f10,f11,f12];rfl) rfl ?_
   rw [bJ.out]
   exact ⟨none,0,0,none,0,0,rfl,aC.nil _ _ _,aY.nil _ _ _,dN⟩
end Pa
end
end Go.Proofs.YtcninopmelmajaaGreatDoor
