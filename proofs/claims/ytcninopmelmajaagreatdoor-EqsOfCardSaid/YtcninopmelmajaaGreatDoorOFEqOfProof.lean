/-
  EqsOf: for every argument the call returns true, and nothing of what was there turns: the row, and its tied card. Condition: the listed variables hold what the row lists (the card ties that to the program's text).
-/
import Derived.SevenTiedAt
import Derived.Test.YtcninopmelmajaaGreatDoorCards
import Derived.Test.YtcninopmelmajaaGreatDoorTie
import Derived.Test.YtcninopmelmajaaGreatDoorOF41
section
namespace Go.Proofs.YtcninopmelmajaaGreatDoor
open Go.ChangeShapes Go.WideShapes Go.ChangeAt Go.RowKit
set_option maxRecDepth 100000 in
theorem eqsOf_lifted (os : Os) (started : os.Started) (H : Type) (enc : TypeId × Value -> H) :
    ReturnsInHanded {} Tryz.checked os 4 .any (fun w args=>(Rows.eqsOfSpec.pre enc Tryz.prog Tryz.f4 [] false w args/\laidMetH Tryz.prog Iy w)/\sizedMet enc Tryz.prog Tryz.f4 (OpenSpec.ofChange Rows.eqsOfSpec) false w args)
     (Rows.eqsOfSpec.post enc Tryz.prog Tryz.f4 false true false false):=by
 refine returnsInHanded_of_change_and (C:=Tryz.checked) (X:=fun w _=>laidMetH Tryz.prog Iy w) (fun _ _ _ hh h=>h.of_heap hh) own started (by kernel_rfl) Tryz.func4
  (ChangeSpec.witness_shaped (enc:=enc) (C:=Tryz.checked) (os:=os) (X:=fun w _=>laidMetH Tryz.prog Iy w) false (World.doorLaid Tryz.prog ES os) #[.agg #[.int .i64 0,.string ⟨#[]⟩,.int .i64 0,.int .i64 0,.int .i64 0,.slice none 0 0,.slice none 0 0,.int .i64 0,.int .i64 0],.int .i64 0] 8 rfl (World.shaped_of_RefB (by kernel_rfl) (by kernel_rfl)) (by kernel_rfl) (by kernel_rfl) (by kernel_rfl) (door_met os _)) ?_
 intro W base args ds gs before hval0 hW _ _ hL _;have hval:∀ (j:Nat) t v,Tryz.f4.params[j]?=some t->args[j]?=some v->Value.okWide Tryz.prog W .any base t v:=hval0;have hW':=hW;obtain ⟨p,q,hA0,hV,rfl,hfz,hnd⟩:=hW;have hA:DataW.TrodAll enc Tryz.prog W 0 (fun _=>true) true Tryz.f4.params.toList args.toList ds p:=hA0;rw [Tryz.params4] at hA hval;have hS:=Bg hL;obtain ⟨v0,vs0,d0,ds0,p0,q0,hargs,rfl,rfl,h0,r0⟩:=trodAll_cons hA;obtain ⟨v1,vs1,d1,ds1,p1,q1,rfl,rfl,rfl,h1,r1⟩:=trodAll_cons r0;obtain ⟨rfl,rfl,rfl⟩:=trodAll_nil r1;obtain rfl:args=#[v0,v1]:=by cases args;simp_all
 obtain ⟨rfl,rfl⟩:=trodVars_none hV;obtain ⟨a,ps,o1,l1,c1,o2,l2,c2,rfl,hs1,hs2,hoa,hop⟩:=OJ (okWide_struct Tryz.underlying29 (hval 0 29 v0 rfl rfl)) h0;obtain ⟨n,rfl,_,_,_⟩:=open_int Tryz.underlying3 (hval 1 3 v1 rfl rfl) h1;refine (Em.QE a ps W o1 l1 c1 o2 l2 c2 n ⟨hs1,hs2,hoa,hop,hS⟩).mono fun e W' ⟨he,hg⟩=>?_
 subst he;exact ⟨_,rfl,VJ hW' rfl rfl rfl rfl rfl (by kernel_rfl) (Fr.below hg (Nat.le_refl _) (fun _ h=>h.elim))⟩
theorem eqsOf_holds:Rows.EqsOfSaid :=
 OpenClaim.holds_of_wide 4 Tryz.f4 rfl rfl rfl rfl rfl rfl rfl ⟨rfl,rfl,rfl,rfl,rfl⟩ rfl rfl rfl rfl rfl (by kernel_rfl) Tryz.func4 (by kernel_rfl)
  (of_decide_eq_true (by kernel_rfl)) (by unfold Func.isWrapper;first | (rw [if_pos (by decide +kernel)];kernel_rfl) | (rw [if_neg (by decide +kernel)];exact ⟨rfl,rfl⟩))
  (fun os started H enc _=>eqsOf_lifted os started H enc)
theorem eqsOf_card:Rows.EqsOfCardSaid :=
 Claim7.holds_tied_plain_at .later [] [.listed,.data] true Rows.eqsOfCard.stood.harness Rows.eqsOfCard.stood.looks
  eqsOf_holds (fun _ h=>by cases h) (by kernel_rfl) (fun _ h=>by cases h) eqsOf_row_tie rfl ⟨rfl,rfl⟩ (by kernel_rfl) rfl
  (fun f fn hf hfn=>by
   obtain rfl:f=4:=Option.some.inj ((show Tryz.prog.funcNamed Rows.eqsOfRow.func=some 4 by kernel_rfl).symm.trans hf) |>.symm
   obtain rfl:fn=Tryz.f4:=(Option.some.inj (Tryz.func4.symm.trans hfn)).symm;exact ⟨by kernel_rfl,fun j t ht=>by
    rw [Tryz.params4] at ht;have hm:t∈[29,3]:=by simpa using Array.mem_of_getElem? ht
    have hall:([29,3].all fun u=>!Tryz.prog.wantsStandIn u)=true:=by kernel_rfl
    exact (show Tryz.prog.wantsStandIn t=false by simpa using List.all_eq_true.1 hall t hm)⟩)
  (by kernel_rfl)
end Go.Proofs.YtcninopmelmajaaGreatDoor
end
