/-
  Texts laid together (EqHeld, EqHT, LexByte, TePlain): laws and walks, with their conditions.
-/
import Derived.Deep.RegionHeld3
import Derived.Maps.RangeWalk
import Derived.Test.YtcninopmelmajaaDoorProg
import Derived.Test.YtcninopmelmajaaDoorTX1
import Derived.Test.YtcninopmelmajaaDoorTX2
set_option maxHeartbeats 8000000
set_option maxRecDepth 1000000
namespace Go.Proofs.YtcninopmelmajaaDoor
open Go.Lib (hid)
section
open Go.RowKit
namespace Hd
section
variable {P:Program} {md:Region.Mode} {ops:Array Oper} {Q:Exit->Act->World->Prop} {S S':World->Prop}
theorem more (hS:∀ w,S' w->S w):∀ (fuel:Nat) (listed:Array Bool) (a:Act) (w:World),wpAnyH P md ops Q S' fuel listed a w->wpAnyH P md ops Q S fuel listed a w
 | 0,_,_,_,h=>h
 | fuel+1,_,_,_,h=>⟨h.1,fun i hi=>wpOp_mono (fun a' w' h'=>⟨hS w' h'.1,more hS fuel _ a' w' h'.2⟩) (h.2 i hi)⟩
theorem tk (i : Nat) {oi : Oper} {v : Value} {fuel : Nat} {listed : Array Bool} {a : Act} {w : World} (hi : ops[i]? = some oi) (h : wpAnyH P md ops Q S fuel (listed.setIfInBounds i true) (a.put oi.dst v) w)
    (hw:Region.wanted oi (yielded ops a.tmps)=true:=by rfl) (hy:∀ w,S w->(execOp a.eval oi).run P w=.ok (.value v) w:=by (intro w hSw;(try dsimp only at hSw);go_simp<;>with_reducible rfl)) (hS:S w:=by assumption)
    (hs:Region.noSelect ops=true:=by kernel_rfl) (hf:Region.free md ops listed i=true:=by kernel_rfl) (hr:(Region.ready md ops listed).contains i=true:=by kernel_rfl)
    (hQ:∀ c a w,Q (.panic c) (a.put oi.dst v) w->Q (.panic c) a w:=by exact fun _ _ _ h=>h):wpAnyH P md ops Q S (fuel+1) listed a w :=
 wpAnyH_take hi hs hf hr hQ (.inl ⟨hw,hy⟩) hS h
theorem cn (i : Nat) {oi : Oper} {fuel : Nat} {listed : Array Bool} {a : Act} {w : World} {rs : List Nat} (hi : ops[i]? = some oi)
    (h:∀ K':Act->World->Prop,Shut (∀ a w,S w->(S w->wpAnyH P md ops Q S fuel (listed.setIfInBounds i true) a w)->K' a w)->if Region.wanted oi (yielded ops a.tmps)=true then Oper.wp P oi a w K' Q else K' (a.put oi.dst undef) w)
    (hs:AllReadyH P md ops Q S fuel listed a w rs):AllReadyH P md ops Q S fuel listed a w (i::rs):=AllReadyH.cons hi h hs
end
end Hd
end
section
namespace HT
section
variable {P:Program} {md:Region.Mode} {ops:Array Oper} {Q:Exit->Act->World->Prop} {S S':World->Prop} {L:Nat}
def jQ (P:Program) (md:Region.Mode) (ops:Array Oper) (Q:Exit->Act->World->Prop) (S:World->Prop) (L:Nat):Nat->Array Bool->Act->World->Prop
 | 0,listed,a,w=>Region.ready md ops listed=[]/\Q .normal a w
 | fuel+1,listed,a,w =>
  (Region.ready md ops listed=[]->Q .normal a w) /\
  ∀ i∈Region.ready md ops listed,wpOp P ops Q i (fun a' w'=>(i≠L->S w')/\jQ P md ops Q S L fuel (listed.setIfInBounds i true) a' w') a w
theorem Dx:∀ (fuel:Nat) (listed:Array Bool) (a:Act) (w:World),jQ P md ops Q S L fuel listed a w->wpAny P md ops Q fuel listed a w
 | 0,_,_,_,h=>h
 | fuel+1,_,_,_,h=>⟨h.1,fun i hi=>wpOp_mono (fun a' w' h'=>Dx fuel _ a' w' h'.2) (h.2 i hi)⟩
def waits (md:Region.Mode) (ops:Array Oper) (L i:Nat):Bool:=(ops[L]?).any fun o=>o.after.any fun e=>Region.binds md e && e.on == i
theorem first {i : Nat} {oi : Oper} {v : Value} (hi : ops[i]? = some oi) (hsel : ∀ (j : Nat) (o : Oper) cs b, ops[j]? = some o -> o.op ≠ .select cs b)
    (hQ:∀ c a w,Q (.panic c) (a.put oi.dst v) w->Q (.panic c) a w) (hL:waits md ops L i=true) :
    ∀ (fuel:Nat) (listed:Array Bool) (a:Act) (w:World),
     (∀ j oj,ops[j]?=some oj->j≠i->listed.getD j true=false->(∀ e∈oj.after,Region.binds md e=true->e.on≠i)->oi.apart ops oj=true) ->
     i∈Region.ready md ops listed->YieldsIf P ops S oi v a->S w ->
     jQ P md ops Q S L fuel (listed.setIfInBounds i true) (a.put oi.dst v) w->jQ P md ops Q S L (fuel+1) listed a w:=by
 intro fuel
 induction fuel with
 | zero =>
  intro listed a w _ hr hy hS H;refine ⟨fun h=>(by rw [h] at hr;cases hr),fun j hj=>?_⟩
  by_cases hji:j=i
  ·subst hji;exact hy.wpOp hi hS ⟨fun _=>hS,H⟩
  ·have:=ready_mono hj hji;rw [H.1] at this;cases this
 | succ fuel ih =>
  intro listed a w hfree hr hy hS H;refine ⟨fun h=>(by rw [h] at hr;cases hr),fun j hj=>?_⟩
  by_cases hji:j=i
  ·subst hji;exact hy.wpOp hi hS ⟨fun _=>hS,H⟩
  ·have h1:=H.2 j (ready_mono hj hji);obtain ⟨hjun,oj,hoj,hall⟩:=mem_ready.1 hj;have hnot:∀ e∈oj.after,Region.binds md e=true->e.on≠i:=fun e he hb heq=>by
    have h1:=hall e he hb;have h0:=(mem_ready.1 hr).1;rw [heq] at h1;rcases Nat.lt_or_ge i listed.size with h' | h'
    ·simp [h'] at h0 h1;rw [h0] at h1;cases h1
    ·simp [Array.getElem?_eq_none h'] at h1
   have hjL:j≠L:=fun e=>by
    subst e;unfold waits at hL;rw [hoj] at hL;simp only [Option.any_some,Array.any_eq_true',Bool.and_eq_true,beq_iff_eq] at hL;obtain ⟨e,he,hb,ho⟩:=hL;exact hnot e he hb ho
   have h2:=wpOp_putIf hoj (hfree j oj hoj hji hjun hnot) (fun cs b=>hsel i oi cs b hi) (fun cs b=>hsel j oj cs b hoj) hQ hy h1
   have hfree' : ∀ k ok, ops[k]? = some ok -> k ≠ i -> (listed.setIfInBounds j true).getD k true = false ->
       (∀ e∈ok.after,Region.binds md e=true->e.on≠i)->oi.apart ops ok=true:=fun k ok hk hki hun hno=>by
    refine hfree k ok hk hki ?_ hno
    by_cases hjk:j=k
    ·subst hjk;exact hjun
    ·rw [getD_set_ne true hjk] at hun;exact hun
   refine wpOp_mono (fun a' w' h3=>⟨fun _=>h3.2.1 hjL,ih (listed.setIfInBounds j true) a' w' hfree' (ready_mono hr (Ne.symm hji)) h3.1 (h3.2.1 hjL) ?_⟩) h2;rw [Array.setIfInBounds_comm _ _ hji];exact h3.2.2
theorem take {i : Nat} {oi : Oper} {v : Value} {fuel : Nat} {listed : Array Bool} {a : Act} {w : World} (hi : ops[i]? = some oi)
    (hs:Region.noSelect ops=true) (hf:Region.free md ops listed i=true) (hr:(Region.ready md ops listed).contains i=true) (hL:waits md ops L i=true)
    (hQ:∀ c a w,Q (.panic c) (a.put oi.dst v) w->Q (.panic c) a w) (hy:YieldsIf P ops S oi v a) (hS:S w)
    (h:jQ P md ops Q S L fuel (listed.setIfInBounds i true) (a.put oi.dst v) w):jQ P md ops Q S L (fuel+1) listed a w :=
 first hi (Region.noSelect_spec hs) hQ hL fuel listed a w (Region.free_spec hi hf) (by simpa using hr) hy hS h
theorem last {oi : Oper} {fuel : Nat} {listed : Array Bool} {a : Act} {w : World} (hi : ops[L]? = some oi) (hr : Region.ready md ops listed = [L])
    (h:∀ K':Act->World->Prop,Shut (∀ a w,jQ P md ops Q S L fuel (listed.setIfInBounds L true) a w->K' a w)->if Region.wanted oi (yielded ops a.tmps)=true then Oper.wp P oi a w K' Q else K' (a.put oi.dst undef) w) :
    jQ P md ops Q S L (fuel+1) listed a w :=
 ⟨fun h0=>(by rw [hr] at h0;cases h0),fun j hj=>by
  rw [hr] at hj;obtain rfl:=List.mem_singleton.1 hj;exact wpOp_step hi (fun K' hK=>h K' (fun a w hW=>hK a w ⟨fun e=>absurd rfl e,hW⟩))⟩
theorem done {listed:Array Bool} {a:Act} {w:World} (hr:Region.ready md ops listed=[]) (h:Q .normal a w):∀ fuel,jQ P md ops Q S L fuel listed a w
 | 0=>⟨hr,h⟩
 | _+1=>⟨fun _=>h,by rw [hr];simp⟩
theorem begin_ (L : Nat) {id : Nat} {a : Act} {w : World} (hm : P.follows .mixedOrders = true) (hS : S w.drew)
    (h:S w.drew->jQ P .any ops Q S L ops.size (Array.replicate ops.size false) a w.drew):(Code.region id ops true).wp P Q a w :=
 wp_region_any hm (Dx _ _ _ _ (h hS))
theorem tk (i : Nat) {oi : Oper} {v : Value} {fuel : Nat} {listed : Array Bool} {a : Act} {w : World} (hi : ops[i]? = some oi) (h : jQ P md ops Q S L fuel (listed.setIfInBounds i true) (a.put oi.dst v) w)
    (hw:Region.wanted oi (yielded ops a.tmps)=true:=by rfl) (hy:∀ w,S w->(execOp a.eval oi).run P w=.ok (.value v) w:=by (intro w hSw;(try dsimp only at hSw);go_simp<;>with_reducible rfl)) (hS:S w:=by assumption)
    (hs:Region.noSelect ops=true:=by kernel_rfl) (hf:Region.free md ops listed i=true:=by kernel_rfl) (hr:(Region.ready md ops listed).contains i=true:=by kernel_rfl) (hL:waits md ops L i=true:=by kernel_rfl)
    (hQ:∀ c a w,Q (.panic c) (a.put oi.dst v) w->Q (.panic c) a w:=by exact fun _ _ _ h=>h):jQ P md ops Q S L (fuel+1) listed a w :=
 take hi hs hf hr hL hQ (.inl ⟨hw,hy⟩) hS h
def bG (P:Program) (md:Region.Mode) (ops:Array Oper) (Q:Exit->Act->World->Prop) (S:World->Prop) (L fuel:Nat) (listed:Array Bool) (a:Act) (w:World) (rs:List Nat):Prop :=
 ∀ i∈rs,wpOp P ops Q i (fun a' w'=>(i≠L->S w')/\jQ P md ops Q S L fuel (listed.setIfInBounds i true) a' w') a w
theorem bG.nil {fuel:Nat} {listed:Array Bool} {a:Act} {w:World}:bG P md ops Q S L fuel listed a w []:=fun _ h=>by cases h
theorem branch {rs:List Nat} {fuel:Nat} {listed:Array Bool} {a:Act} {w:World} (hr:Region.ready md ops listed=rs) (hne:rs≠[]) (h:bG P md ops Q S L fuel listed a w rs):jQ P md ops Q S L (fuel+1) listed a w :=
 ⟨fun h0=>absurd (hr ▸ h0) hne,hr ▸ h⟩
theorem cn (i : Nat) {oi : Oper} {fuel : Nat} {listed : Array Bool} {a : Act} {w : World} {rs : List Nat} (hi : ops[i]? = some oi)
    (h:∀ K':Act->World->Prop,Shut (∀ a w,S w->(S w->jQ P md ops Q S L fuel (listed.setIfInBounds i true) a w)->K' a w)->if Region.wanted oi (yielded ops a.tmps)=true then Oper.wp P oi a w K' Q else K' (a.put oi.dst undef) w)
    (hs:bG P md ops Q S L fuel listed a w rs):bG P md ops Q S L fuel listed a w (i::rs):=fun j hj=>by
 rcases List.mem_cons.1 hj with rfl | hj
 ·exact wpOp_step hi (fun K' hK=>h K' (fun a w hS hW=>hK a w ⟨fun _=>hS,hW hS⟩))
 ·exact hs j hj
end
end HT
end
section
namespace Lx
open Go.RowKit
theorem rJ (x:UInt8) (n:Nat) (hn:n < 256):(x == UInt8.ofNat n)=decide (x.toNat=n):=by
 rw [Bool.eq_iff_iff,beq_iff_eq,decide_eq_true_eq];constructor
 ·intro h;rw [h];simp;omega
 ·intro h;rw [<-h];simp
theorem Dy (x:UInt8):x.toNat < 256:=x.toNat_lt
theorem lN (x:UInt8):gQ x=(decide ((97:Int)<=(x.toNat:Int)) && decide ((x.toNat:Int)<=122)):=by
 unfold gQ;congr 1<;>(rw [Bool.eq_iff_iff];simp;omega)
theorem yx (x:UInt8):dD x=(decide ((48:Int)<=(x.toNat:Int)) && decide ((x.toNat:Int)<=57)):=by
 unfold dD;congr 1<;>(rw [Bool.eq_iff_iff];simp;omega)
theorem Ux (x:UInt8):lu x=(((x.toNat:Int) == 32) || ((x.toNat:Int) == 9) || ((x.toNat:Int) == 10) || ((x.toNat:Int) == 13)):=by
 unfold lu;rw [show (32:UInt8)=UInt8.ofNat 32 from rfl,show (9:UInt8)=UInt8.ofNat 9 from rfl,show (10:UInt8)=UInt8.ofNat 10 from rfl,show (13:UInt8)=UInt8.ofNat 13 from rfl];rw [rJ _ _ (by omega),rJ _ _ (by omega),rJ _ _ (by omega),rJ _ _ (by omega)];rw [Bool.eq_iff_iff];simp;omega
theorem JX (x:UInt8):(x == 95)=((x.toNat:Int) == 95):=by
 rw [show (95:UInt8)=UInt8.ofNat 95 from rfl,rJ _ _ (by omega),Bool.eq_iff_iff];simp;omega
theorem XT (x:UInt8):mZ x=((x.toNat:Int) != 10):=by
 unfold mZ;rw [show (10:UInt8)=UInt8.ofNat 10 from rfl,rJ _ _ (by omega),Bool.eq_iff_iff];simp;omega
def Dz (g:Nat) (p:UInt8->Bool):Prop:=∀ (x:UInt8) (w:World),Calls Tryd.prog g #[.int .u8 (x.toNat:Int)] w fun e w'=>e=.returned (.bool (p x))/\w=w'
theorem F5:Dz 81 gQ:=by
 intro x w;have hb:=Dy x
 by_cases h1:(97:Int)<=(x.toNat:Int)
 ·go_enter Tryd.func81,Tryd.ntmps81;go_wp2;go_ret;exact ⟨by rw [lN];(first | (simp [h1];done) | (simp [h1];omega)),rfl⟩
 ·go_enter Tryd.func81,Tryd.ntmps81;go_wp2;go_ret;exact ⟨by rw [lN];(first | (simp;done) | (simp;omega)),rfl⟩
theorem DC:Dz 24 gQ:=by
 intro x w;have hb:=Dy x
 by_cases h1:(97:Int)<=(x.toNat:Int)
 ·go_enter Tryd.func24,Tryd.ntmps24;go_wp2;go_ret;exact ⟨by rw [lN];(first | (simp [h1];done) | (simp [h1];omega)),rfl⟩
 ·go_enter Tryd.func24,Tryd.ntmps24;go_wp2;go_ret;exact ⟨by rw [lN];(first | (simp;done) | (simp;omega)),rfl⟩
theorem QA:Dz 93 dD:=by
 intro x w;have hb:=Dy x
 by_cases h1:(48:Int)<=(x.toNat:Int)
 ·go_enter Tryd.func93,Tryd.ntmps93;go_wp2;go_ret;exact ⟨by rw [yx];(first | (simp [h1];done) | (simp [h1];omega)),rfl⟩
 ·go_enter Tryd.func93,Tryd.ntmps93;go_wp2;go_ret;exact ⟨by rw [yx];(first | (simp;done) | (simp;omega)),rfl⟩
theorem rM:Dz 27 dD:=by
 intro x w;have hb:=Dy x
 by_cases h1:(48:Int)<=(x.toNat:Int)
 ·go_enter Tryd.func27,Tryd.ntmps27;go_wp2;go_ret;exact ⟨by rw [yx];(first | (simp [h1];done) | (simp [h1];omega)),rfl⟩
 ·go_enter Tryd.func27,Tryd.ntmps27;go_wp2;go_ret;exact ⟨by rw [yx];(first | (simp;done) | (simp;omega)),rfl⟩
theorem QB:Dz 83 bI:=by
 intro x w;have hb:=Dy x;cases h1:gQ x<;>cases h2:dD x
 all_goals
  have H1:=hid h1;have H2:=hid h2;clear h1 h2;go_enter Tryd.func83,Tryd.ntmps83;go_wp2_with fail;refine (F5 x _).mono ?_;rintro e w' ⟨rfl,rfl⟩;rw [H1.out];go_wp2_with fail
  try (refine (QA x _).mono ?_;rintro e w' ⟨rfl,rfl⟩;rw [H2.out];go_wp2_with fail)
  go_ret;exact ⟨by unfold bI;rw [H1.out,H2.out,JX];simp,rfl⟩
theorem rO:Dz 25 bI:=by
 intro x w;have hb:=Dy x;cases h1:gQ x<;>cases h2:dD x
 all_goals
  have H1:=hid h1;have H2:=hid h2;clear h1 h2;go_enter Tryd.func25,Tryd.ntmps25;go_wp2_with fail;refine (DC x _).mono ?_;rintro e w' ⟨rfl,rfl⟩;rw [H1.out];go_wp2_with fail
  try (refine (rM x _).mono ?_;rintro e w' ⟨rfl,rfl⟩;rw [H2.out];go_wp2_with fail)
  go_ret;exact ⟨by unfold bI;rw [H1.out,H2.out,JX];simp,rfl⟩
theorem drop_byte (s:ByteArray) (k:Nat) (h:k < s.size):s.data.toList.drop k=s[k]::s.data.toList.drop (k+1):=by
 rw [List.drop_eq_getElem_cons (by simpa using h)];rfl
theorem drop_end (s:ByteArray) (k:Nat) (h:s.size<=k):s.data.toList.drop k=[]:=by
 rw [List.drop_eq_nil_iff];simpa using h
theorem iC (p:UInt8->Bool) (c:UInt8) (r:List UInt8):dI p (c::r)=if p c then dI p r+1 else 0:=rfl
theorem bH (s:ByteArray):s.data.toList.length=s.size:=by simp
theorem run_any (g : Nat) (p : UInt8 -> Bool) (eg : ∀ args w, (callFunc g args).run Tryd.prog w = .ok (.enter g args) w) (hp : Dz g p) (s : ByteArray) (k : Nat) (ki : Int) (ek : ki = k) (hk : k <= s.size) (hs : s.size <= maxLen) (w : World) :
    Calls Tryd.prog 82 #[.string s,.int .i64 ki,.func (.func g) #[] #[]] w fun e w'=>e=.returned (.int .i64 (dI p (s.data.toList.drop k):Nat))/\w=w':=by
 subst ek;unfold maxLen at hs;have HP:=hid hp;clear hp;go_enter Tryd.func82,Tryd.ntmps82;go_wp2;go_loop [7] (fun t=>∃ n:Nat,t=.int .i64 n/\k+n<=s.size/\dI p (s.data.toList.drop k)=n+dI p (s.data.toList.drop (k+n))) (fun t=>s.size-k-(intOf t).toNat)
 case atStart=>exact ⟨0,rfl,by omega,by simp⟩
 case round =>
  obtain ⟨n,rfl,hn,he⟩:=hrel;have HE:=hid he;clear he
  by_cases hlt:k+n < s.size
  ·have hd:=hid (drop_byte s (k+n) hlt);have hlt':(k:Int)+n < s.size:=by omega
   cases hx:p s[k+n]
   all_goals
    have HX:=hid hx;clear hx;go_wp2_with fail;have HPX:=HP.out s[k+n] w;rw [HX.out] at HPX;refine HPX.mono ?_;rintro e w' ⟨rfl,rfl⟩;clear HPX;go_wp2
   ·go_ret;refine ⟨?_,rfl⟩;rw [HE.out,hd.out,iC,HX.out];rfl
   ·go_round
    case rel =>
     refine ⟨n+1,by go_num,by omega,?_⟩;rw [HE.out,hd.out,iC,HX.out];simp only [if_true];rw [show k+(n+1)=k+n+1 from by omega];omega
    case measure=>simp [intOf];omega
  ·have hd:=hid (drop_end s (k+n) (by omega));have hlt':¬ (k:Int)+n < s.size:=by omega
   go_wp2;go_ret;refine ⟨?_,rfl⟩;rw [HE.out,hd.out];rfl
end Lx
end
section
structure Nd where
 k:Int
 nm:ByteArray
 n:Int
 tk:Int
 tn:Int
 tp:Fo
 fr:Int
 en:Int
inductive To where
 | nil:To
 | cons (h:Nd) (ps:To) (rest:To)
namespace To
def length:To->Nat
 | nil=>0
 | cons _ _ r=>r.length+1
def drop:To->Nat->To
 | f,0=>f
 | nil,_+1=>nil
 | cons _ _ r,i+1=>r.drop i
def get:To->Nat->Option (Nd × To)
 | nil,_=>none
 | cons h ps _,0=>some (h,ps)
 | cons _ _ r,i+1=>r.get i
def app:To->To->To
 | nil,g=>g
 | cons h ps r,g=>cons h ps (r.app g)
def size:To->Nat
 | nil=>0
 | cons _ ps r=>ps.size+1+r.size
def depth:To->Nat
 | nil=>0
 | cons _ ps r=>max (ps.depth+1) r.depth
def flat:To->List (Nd × To)
 | nil=>[]
 | cons h ps r=>(h,ps)::(ps.flat++r.flat)
theorem drop_zero (f:To):f.drop 0=f:=by cases f<;>rfl
theorem tN:∀ (f:To) (i:Nat),i < f.length->∃ h ps,f.drop i=cons h ps (f.drop (i+1))/\f.get i=some (h,ps)
 | nil,i,h=>by simp [length] at h
 | cons h ps r,0,_=>⟨h,ps,by simp [drop,drop_zero],rfl⟩
 | cons h ps r,i+1,hi=>by
  obtain ⟨h',ps',h1,h2⟩:=tN r i (by simp [length] at hi;omega);exact ⟨h',ps',by simp only [drop];rw [h1],h2⟩
theorem drop_end:∀ (f:To) (i:Nat),f.length<=i->f.drop i=nil
 | nil,0,_=>rfl
 | nil,i+1,_=>rfl
 | cons h ps r,0,hi=>by simp [length] at hi
 | cons h ps r,i+1,hi=>drop_end r i (by simp [length] at hi;omega)
theorem Ci:∀ (f:To) (i:Nat) (t:Nd × To),f.get i=some t->i < f.length
 | nil,i,t,h=>by simp [get] at h
 | cons h ps r,0,t,_=>by simp [length]
 | cons h ps r,i+1,t,hi=>by have:=Ci r i t hi;simp [length];omega
theorem length_le:∀ f:To,f.length<=f.size
 | nil=>Nat.le_refl _
 | cons h ps r=>by have:=length_le r;simp only [length,size];omega
theorem size_drop:∀ (f:To) (i:Nat),(f.drop i).size<=f.size
 | f,0=>by rw [drop_zero];exact Nat.le_refl _
 | nil,i+1=>Nat.le_refl _
 | cons h ps r,i+1=>by have:=size_drop r i;simp only [drop,size];omega
theorem dG (f:To) (i:Nat) (h:Nd) (ps:To) (hg:f.get i=some (h,ps)):ps.size+1<=f.size:=by
 obtain ⟨h',ps',h1,h2⟩:=tN f i (Ci _ _ _ hg);rw [hg] at h2;cases h2;have:=size_drop f i;rw [h1] at this;simp only [size] at this;omega
theorem qZ:∀ f:To,f.app nil=f
 | nil=>rfl
 | cons h ps r=>by simp [app,qZ r]
theorem mG:∀ f g h:To,(f.app g).app h=f.app (g.app h)
 | nil,_,_=>rfl
 | cons k ps r,g,h=>by simp [app,mG r g h]
theorem bJ:∀ f g:To,(f.app g).length=f.length+g.length
 | nil,g=>by simp [app,length]
 | cons h ps r,g=>by simp [app,length,bJ r g];omega
theorem Ju:∀ f g:To,(f.app g).size=f.size+g.size
 | nil,g=>by simp [app,size]
 | cons h ps r,g=>by simp [app,size,Ju r g];omega
theorem flat_length:∀ f:To,f.flat.length=f.size
 | nil=>rfl
 | cons h ps r=>by simp [flat,size,flat_length r,flat_length ps];omega
theorem ind {T:Nd->To->Prop} (step:∀ h ps,(∀ i h' qs,ps.get i=some (h',qs)->T h' qs)->T h ps):∀ (f:To) (i:Nat) (h:Nd) (ps:To),f.get i=some (h,ps)->T h ps
 | nil,i,h,ps,e=>by simp [get] at e
 | cons h ps r,0,h',qs,e=>by
  simp [get] at e;obtain ⟨rfl,rfl⟩:=e;exact step h ps (ind step ps)
 | cons h ps r,i+1,h',qs,e=>ind step r i h' qs e
theorem uY {T:Nd->To->Prop} (step:∀ h ps,(∀ i h' qs,ps.get i=some (h',qs)->T h' qs)->T h ps) (h:Nd) (ps:To):T h ps :=
 step h ps (fun i h' qs e=>ind step ps i h' qs e)
end To
def allT (G:Nd->Prop):To->Prop
 | .nil=>True
 | .cons h ps r=>G h/\allT G ps/\allT G r
theorem BX {G:Nd->Prop}:∀ (f:To) (i:Nat) (h:Nd) (ps:To),allT G f->f.get i=some (h,ps)->G h/\allT G ps
 | .nil,i,h,ps,_,e=>by simp [To.get] at e
 | .cons h ps r,0,h',ps',hw,e=>by
  simp [To.get] at e;obtain ⟨rfl,rfl⟩:=e;exact ⟨hw.1,hw.2.1⟩
 | .cons h ps r,i+1,h',ps',hw,e=>BX r i h' ps' hw.2.2 e
theorem dR {G H:Nd->Prop} (hh:∀ h,G h->H h):∀ f:To,allT G f->allT H f
 | .nil,_=>trivial
 | .cons h ps r,e=>⟨hh h e.1,dR hh ps e.2.1,dR hh r e.2.2⟩
theorem zf {G:Nd->Prop}:∀ (f:To),allT G f->∀ t∈f.flat,G t.1/\allT G t.2
 | .nil,_,t,h=>by simp [To.flat] at h
 | .cons h ps r,e,t,ht=>by
  simp [To.flat] at ht;rcases ht with rfl | ht | ht
  ·exact ⟨e.1,e.2.1⟩
  ·exact zf ps e.2.1 t ht
  ·exact zf r e.2.2 t ht
end
end Go.Proofs.YtcninopmelmajaaDoor
