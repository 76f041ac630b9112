/-
  EqsText: for every argument the call returns true, and nothing of what was there turns: the row, and its tied card. Condition: the listed variables hold what the row lists (the card ties that to the program's text).
-/
import Derived.SevenTiedAt
import Derived.Test.YtcninopmelmajaaDoorCards
import Derived.Test.YtcninopmelmajaaDoorTie
import Derived.Test.YtcninopmelmajaaDoorTX38
section
namespace Go.Proofs.YtcninopmelmajaaDoor
open Go.ChangeShapes Go.WideShapes Go.ChangeAt Go.RowKit
set_option maxRecDepth 100000 in
theorem eqsText_lifted (os : Os) (started : os.Started) (H : Type) (enc : TypeId × Value -> H) :
    ReturnsInHanded {} Tryd.checked os 3 .any (fun w args=>(Rows.eqsTextSpec.pre enc Tryd.prog Tryd.f3 [] false w args/\laidMetH Tryd.prog I7 w)/\sizedMet enc Tryd.prog Tryd.f3 (OpenSpec.ofChange Rows.eqsTextSpec) false w args)
     (Rows.eqsTextSpec.post enc Tryd.prog Tryd.f3 false true false false):=by
 refine returnsInHanded_of_change_and (C:=Tryd.checked) (X:=fun w _=>laidMetH Tryd.prog I7 w) (fun _ _ _ hh h=>h.of_heap hh) own started (by kernel_rfl) Tryd.func3
  (ChangeSpec.witness_shaped (enc:=enc) (C:=Tryd.checked) (os:=os) (X:=fun w _=>laidMetH Tryd.prog I7 w) false (World.doorLaid Tryd.prog Fg os) #[.string ⟨#[]⟩] 8 rfl (World.shaped_of_RefB (by kernel_rfl) (by kernel_rfl)) (by kernel_rfl) (by kernel_rfl) (by kernel_rfl) (door_met os _)) ?_
 intro W base args ds gs before hval0 hW _ _ hL _;have hval:∀ (j:Nat) t v,Tryd.f3.params[j]?=some t->args[j]?=some v->Value.okWide Tryd.prog W .any base t v:=hval0;have hW':=hW;obtain ⟨p,q,hA0,hV,rfl,hfz,hnd⟩:=hW;have hA:DataW.TrodAll enc Tryd.prog W 0 (fun _=>true) true Tryd.f3.params.toList args.toList ds p:=hA0;rw [Tryd.params3] at hA hval;have hS:=BA hL;obtain ⟨v0,vs0,d0,ds0,p0,q0,hargs,rfl,rfl,h0,r0⟩:=trodAll_cons hA;obtain ⟨rfl,rfl,rfl⟩:=trodAll_nil r0;obtain rfl:args=#[v0]:=by cases args;simp_all
 obtain ⟨rfl,rfl⟩:=trodVars_none hV;obtain ⟨s0,rfl,e0,_,hs0⟩:=ChangeMaps.open_string Tryd.underlying9 (hval 0 9 v0 rfl rfl) h0;refine (Em.KA s0 W hS).mono fun e W' ⟨he,hg⟩=>?_
 subst he;exact ⟨_,rfl,V8 hW' rfl rfl rfl rfl rfl (by kernel_rfl) (Fr.below hg (Nat.le_refl _) (fun _ h=>h.elim))⟩
theorem eqsText_holds:Rows.EqsTextSaid :=
 OpenClaim.holds_of_wide 3 Tryd.f3 rfl rfl rfl rfl rfl rfl rfl ⟨rfl,rfl,rfl,rfl,rfl⟩ rfl rfl rfl rfl rfl (by kernel_rfl) Tryd.func3 (by kernel_rfl)
  (of_decide_eq_true (by kernel_rfl)) (by unfold Func.isWrapper;first | (rw [if_pos (by decide +kernel)];kernel_rfl) | (rw [if_neg (by decide +kernel)];exact ⟨rfl,rfl⟩))
  (fun os started H enc _=>eqsText_lifted os started H enc)
theorem eqsText_card:Rows.EqsTextCardSaid :=
 Claim7.holds_tied_plain_at .later [] [.listed,.data] true Rows.eqsTextCard.stood.harness Rows.eqsTextCard.stood.looks
  eqsText_holds (fun _ h=>by cases h) (by kernel_rfl) (fun _ h=>by cases h) eqsText_row_tie rfl ⟨rfl,rfl⟩ (by kernel_rfl) rfl
  (fun f fn hf hfn=>by
   obtain rfl:f=3:=Option.some.inj ((show Tryd.prog.funcNamed Rows.eqsTextRow.func=some 3 by kernel_rfl).symm.trans hf) |>.symm
   obtain rfl:fn=Tryd.f3:=(Option.some.inj (Tryd.func3.symm.trans hfn)).symm;exact ⟨by kernel_rfl,fun j t ht=>by
    rw [Tryd.params3] at ht;have hm:t∈[9]:=by simpa using Array.mem_of_getElem? ht
    have hall:([9].all fun u=>!Tryd.prog.wantsStandIn u)=true:=by kernel_rfl
    exact (show Tryd.prog.wantsStandIn t=false by simpa using List.all_eq_true.1 hall t hm)⟩)
  (by kernel_rfl)
end Go.Proofs.YtcninopmelmajaaDoor
end
