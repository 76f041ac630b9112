/-
  Texts laid together (EqShift, TeOwn): laws and walks, with their conditions.
-/
import Derived.Test.YtcninopmelmajaaDoorTX11
set_option maxHeartbeats 8000000
set_option maxRecDepth 1000000
namespace Go.Proofs.YtcninopmelmajaaDoor
open Go.Lib (hid)
section
open Go.RowKit Go.Maps
namespace Em
theorem Ja (w0 : World) (ca cb cc : Nat) (fr tt by' : Nat) (h1 : fQ w0 ca (.int .i64 fr) 3) (h2 : fQ w0 cb (.int .i64 tt) 3) (h3 : fQ w0 cc (.int .i64 by') 3) (hb : tt + by' <= 1000000000) :
    DoK 91 #[.pointer (some ⟨ca,0,none⟩),.pointer (some ⟨cb,0,none⟩),.pointer (some ⟨cc,0,none⟩)] w0 (fun _=>True) (BH fr tt by'):=by
 intro n W _ hq;have c1:=cell_of_one (h1.fr hq (fun h=>h));have c2:=cell_of_one (h2.fr hq (fun h=>h));have c3:=cell_of_one (h3.fr hq (fun h=>h));clear h1 h2 h3 hq;unfold BH
 by_cases p1:n < (fr:Int)
 ·rw [if_neg (by omega)];go_enter Tryd.func91,Tryd.ntmps91;go_wp2_with fail;go_ret;exact ⟨rfl,ah.refl _⟩
 ·by_cases p2:(tt:Int)<=n
  ·rw [if_neg (by omega)];go_enter Tryd.func91,Tryd.ntmps91;go_wp2_with fail;go_ret;exact ⟨rfl,ah.refl _⟩
  ·rw [if_pos (by omega)];have q3:¬ (1073741824:Int)<=(by':Int):=by omega
   have q4:¬ (by':Int)<=-1073741824:=by omega
   have hw:IntKind.i64.wrap (n+by')=n+by':=IntWalk.i64_in _ (by omega);have KQ:=hid (uK n);rw [show (decide ((0:Int)<=n) && decide (n < 1073741824))=true from by simp;omega] at KQ;have WA:=hid (uK (n+by'));rw [show (decide ((0:Int)<=n+by') && decide (n+by' < 1073741824))=true from by simp;omega] at WA;go_enter Tryd.func91,Tryd.ntmps91;go_wp2_with fail;refine (KQ.out _).mono ?_;rintro e w1 ⟨rfl,rfl⟩;go_wp2_with fail;refine (WA.out _).mono ?_;rintro e w1 ⟨rfl,rfl⟩;go_wp2_with fail;go_ret;exact ⟨rfl,ah.refl _⟩
theorem Ll (k n : Int) (fr tt by' : Nat) (ps : Fo) (w : World) (o : Option Addr) (len cap : Nat) (hs : nJ w o len ps) (hb : tt + by' <= 1000000000) (hsz : ps.size <= 100000) :
    Calls Tryd.prog 79 #[fG k n o len cap,.int .i64 fr,.int .i64 tt,.int .i64 by'] w fun e w'=>∃ o' cap',e=.returned (fG k (tC (BH fr tt by') k n) o' len cap')/\aB (fun b=>w.heap.size<=b) w' o' len (ps.change (BH fr tt by'))/\ah w w':=by
 obtain ⟨W1,hW1⟩:∃ W1,W1=((((w.alloc (.cells #[.int .i64 k,.int .i64 n,.slice o len cap] 25)).alloc (.cells #[.int .i64 fr] 3)).alloc (.cells #[.int .i64 tt] 3)).alloc (.cells #[.int .i64 by'] 3)).alloc (.cells #[.int .i64 0,.int .i64 0,.slice none 0 0] 25):=⟨_,rfl⟩;have fD:Hid (ah w W1):=by rw [hW1];exact ((((ah.alloc _ _).trans (ah.alloc _ _)).trans (ah.alloc _ _)).trans (ah.alloc _ _)).trans (ah.alloc _ _)
 have s1:(w.alloc (.cells #[.int .i64 k,.int .i64 n,.slice o len cap] 25)).heap.size=w.heap.size+1:=by simp
 have s2:((w.alloc (.cells #[.int .i64 k,.int .i64 n,.slice o len cap] 25)).alloc (.cells #[.int .i64 fr] 3)).heap.size=w.heap.size+1+1:=by simp
 have s3:(((w.alloc (.cells #[.int .i64 k,.int .i64 n,.slice o len cap] 25)).alloc (.cells #[.int .i64 fr] 3)).alloc (.cells #[.int .i64 tt] 3)).heap.size=w.heap.size+1+1+1:=by simp
 have s4:((((w.alloc (.cells #[.int .i64 k,.int .i64 n,.slice o len cap] 25)).alloc (.cells #[.int .i64 fr] 3)).alloc (.cells #[.int .i64 tt] 3)).alloc (.cells #[.int .i64 by'] 3)).heap.size=w.heap.size+1+1+1+1:=by simp
 have WY:W1.heap[w.heap.size]?=some (.cells #[.int .i64 k,.int .i64 n,.slice o len cap] 25 (0,0)):=by
  rw [hW1];exact dF (heap_alloc_new w _) ((((ah.alloc _ _).trans (ah.alloc _ _)).trans (ah.alloc _ _)).trans (ah.alloc _ _))
 have HB1:Hid (W1.heap[w.heap.size+1+1+1+1]?=some (.cells #[.int .i64 0,.int .i64 0,.slice none 0 0] 25 (0,0))):=by
  rw [hW1,<-s4];exact heap_alloc_new _ _
 have x1:fQ W1 (w.heap.size+1) (.int .i64 fr) 3:=by
  rw [hW1,<-s1];exact (fQ.new _ _ _).fr (((ah.alloc _ _).trans (ah.alloc _ _)).trans (ah.alloc _ _)) (fun h=>h)
 have x2:fQ W1 (w.heap.size+1+1) (.int .i64 tt) 3:=by
  rw [hW1,<-s2];exact (fQ.new _ _ _).fr ((ah.alloc _ _).trans (ah.alloc _ _)) (fun h=>h)
 have x3:fQ W1 (w.heap.size+1+1+1) (.int .i64 by') 3:=by
  rw [hW1,<-s3];exact (fQ.new _ _ _).fr (ah.alloc _ _) (fun h=>h)
 have HD:=hid (BI Sj (Ja W1 (w.heap.size+1) (w.heap.size+1+1) (w.heap.size+1+1+1) fr tt by' x1 x2 x3 hb) k n ps W1 o len cap (ah.refl _) (hs.stay fD.out) (by omega) trivial (uM (fun _=>trivial) ps));obtain ⟨a0,a1,a2,_,_,_⟩:=ay WY;have hz1:w.heap.size+1+1+1+1 < W1.heap.size:=by rw [hW1];simp
 obtain ⟨P,hP⟩:∃ P,P=BH fr tt by':=⟨_,rfl⟩;rw [<-hP] at HD ⊢;generalize tC P k n=n' at *;clear hs s1 s2 s3 s4 x1 x2 x3 WY hP;unfold fG at *;go_enter Tryd.func79,Tryd.ntmps79;generalize hB:w.heap.size=B at *;go_upto_region 1 with fail
 rw [<-hW1];clear hW1;go_wp2_with fail;refine HD.out.mono ?_;rintro e w4 ⟨o2,cap2,rfl,hs4,hq4⟩;have hbb:=dF HB1.out hq4;have HB4:=hid hbb;obtain ⟨d0,d1,d2,y0,y1,y2⟩:=ay hbb;have GV:=hid hs4;have uI:=hid hq4;clear hs4 hq4 hbb a0 a1 a2;go_wp2_with fail;clear d0 d1 d2 y0 y1 y2;have hf:=aZ w4 (B+1+1+1+1) (.int .i64 k) (.int .i64 n') (.slice o2 len cap2);obtain ⟨f0,f1,f2⟩:=aV (a:=.int .i64 k) (b:=.int .i64 n') (c:=.slice o2 len cap2) HB4.out;change bodyPost _ _ _ _ _ (bf w4 (B+1+1+1+1) (.int .i64 k) (.int .i64 n') (.slice o2 len cap2));generalize bf w4 (B+1+1+1+1) (.int .i64 k) (.int .i64 n') (.slice o2 len cap2)=wf at *;refine bodyPost_ret (by simp [results,Tryd.results79,go_sem,f0,f1,f2];rfl) rfl ?_;refine ⟨o2,cap2,rfl,GV.out.fr hf ?_,?_⟩
 ·intro j _ hj;have hj':W1.heap.size<=j:=hj;exact ⟨by have:=fD.out.size;omega,by omega⟩
 ·exact Fr.trans' (Fr.trans' fD.out uI.out (fun _ _ h=>h)) hf (fun i hi h=>by have h':i=B+1+1+1+1:=h;omega)
theorem Jb (k n : Int) (fr tt by' : Nat) (ps : Fo) (w : World) (o : Option Addr) (len cap : Nat) (ca cb cc : Nat) (h1 : fQ w ca (.int .i64 fr) 3) (h2 : fQ w cb (.int .i64 tt) 3) (h3 : fQ w cc (.int .i64 by') 3) (hs : nJ w o len ps) (hb : tt + by' <= 1000000000) (hsz : ps.size <= 100000) :
    Calls Tryd.prog 78 #[fG k n o len cap,.pointer (some ⟨ca,0,none⟩),.pointer (some ⟨cb,0,none⟩),.pointer (some ⟨cc,0,none⟩)] w fun e w'=>∃ o' cap',e=.returned (fG k (tC (BH fr tt by') k n) o' len cap')/\aB (fun b=>w.heap.size<=b) w' o' len (ps.change (BH fr tt by'))/\ah w w':=by
 obtain ⟨W1,hW1⟩:∃ W1,W1=(w.alloc (.cells #[.int .i64 k,.int .i64 n,.slice o len cap] 25)).alloc (.cells #[.int .i64 0,.int .i64 0,.slice none 0 0] 25):=⟨_,rfl⟩;have fD:Hid (ah w W1):=by rw [hW1];exact (ah.alloc _ _).trans (ah.alloc _ _)
 have hb0:W1.heap[w.heap.size]?=some (.cells #[.int .i64 k,.int .i64 n,.slice o len cap] 25 (0,0)):=by
  rw [hW1];exact dF (heap_alloc_new w _) (ah.alloc _ _)
 have HB1:Hid (W1.heap[w.heap.size+1]?=some (.cells #[.int .i64 0,.int .i64 0,.slice none 0 0] 25 (0,0))):=by
  show _=_;rw [hW1]
  have:=heap_alloc_new (w.alloc (.cells #[.int .i64 k,.int .i64 n,.slice o len cap] 25)) (.cells #[.int .i64 0,.int .i64 0,.slice none 0 0] 25);simpa using this
 have HC:=hid (Ll k n fr tt by' ps W1 o len cap (hs.stay fD.out) hb hsz);have c1:=cell_of_one (h1.fr fD.out (fun h=>h));have c2:=cell_of_one (h2.fr fD.out (fun h=>h));have c3:=cell_of_one (h3.fr fD.out (fun h=>h));obtain ⟨a0,a1,a2,_,_,_⟩:=ay hb0;have hz1:w.heap.size+1 < W1.heap.size:=by rw [hW1];simp
 generalize tC (BH fr tt by') k n=n' at *;obtain ⟨P,hP⟩:∃ P,P=BH fr tt by':=⟨_,rfl⟩;rw [<-hP] at HC ⊢;clear h1 h2 h3 hs hb0 hP;unfold fG at *;go_enter Tryd.func78,Tryd.ntmps78;generalize hB:w.heap.size=B at *;go_upto_region 1 with fail
 rw [<-hW1];clear hW1;go_wp2_with fail;refine HC.out.mono ?_;rintro e w4 ⟨o2,cap2,rfl,hs4,hq4⟩;have hbb:=dF HB1.out hq4;have HB4:=hid hbb;obtain ⟨d0,d1,d2,y0,y1,y2⟩:=ay hbb;have GV:=hid hs4;have uI:=hid hq4;clear hs4 hq4 hbb a0 a1 a2 c1 c2 c3;go_wp2_with fail;clear d0 d1 d2 y0 y1 y2;have hf:=aZ w4 (B+1) (.int .i64 k) (.int .i64 n') (.slice o2 len cap2);obtain ⟨f0,f1,f2⟩:=aV (a:=.int .i64 k) (b:=.int .i64 n') (c:=.slice o2 len cap2) HB4.out;change bodyPost _ _ _ _ _ (bf w4 (B+1) (.int .i64 k) (.int .i64 n') (.slice o2 len cap2));generalize bf w4 (B+1) (.int .i64 k) (.int .i64 n') (.slice o2 len cap2)=wf at *;refine bodyPost_ret (by simp [results,Tryd.results78,go_sem,f0,f1,f2];rfl) rfl ?_;refine ⟨o2,cap2,rfl,GV.out.fr hf ?_,?_⟩
 ·intro j _ hj;have hj':W1.heap.size<=j:=hj;exact ⟨by have:=fD.out.size;omega,by omega⟩
 ·exact Fr.trans' (Fr.trans' fD.out uI.out (fun _ _ h=>h)) hf (fun i hi h=>by have h':i=B+1:=h;omega)
end Em
end
section
open Go.RowKit
abbrev zY (w:World) (b:Nat):Prop:=∃ cur,w.heap[b]?=some (.cells cur 30 (0,0))
def yU (R:Nat->Prop) (w:World):(Nat->Nat->Prop)->Nat->Nat->To->Prop
 | _,_,_,.nil=>True
 | D, b, off, .cons h ps r => (∃ o1 l1 c1 o2 l2 c2, dL w b off h o1 l1 c1 o2 l2 c2 /\ aB R w o1 l1 h.tp /\ l2 = ps.length /\ l2 <= maxLen /\
     (0 < l2->∃ b' E,o2=some ⟨b',0,none⟩/\D 0 b'/\zY w b'/\(∀ j k,E j k->D 0 k/\k≠b')/\(∀ i j k,E i k->E j k->i=j)/\yU R w E b' 0 ps))/\yU R w (fun j=>D (j+1)) b (off+9) r
def TO (R:Nat->Prop) (w:World) (D:Nat->Prop) (o:Option Addr) (len:Nat) (f:To):Prop:=len=f.length/\len<=maxLen /\
 (0 < len->∃ b E,o=some ⟨b,0,none⟩/\D b/\zY w b/\(∀ j k,E j k->D k/\k≠b)/\(∀ i j k,E i k->E j k->i=j)/\yU R w E b 0 f)
theorem TO.nil (R:Nat->Prop) (w:World) (D:Nat->Prop) (o:Option Addr):TO R w D o 0 .nil:=⟨rfl,Nat.zero_le _,fun h=>absurd h (Nat.lt_irrefl _)⟩
theorem oM {R : Nat -> Prop} {w : World} {D : Nat -> Nat -> Prop} {b off : Nat} {h : Nd} {ps r : To} : yU R w D b off (.cons h ps r) ↔
    (∃ o1 l1 c1 o2 l2 c2,dL w b off h o1 l1 c1 o2 l2 c2/\aB R w o1 l1 h.tp/\TO R w (D 0) o2 l2 ps)/\yU R w (fun j=>D (j+1)) b (off+9) r:=Iff.rfl
theorem zY.fr {S:Nat->Prop} {w w':World} {b:Nat} (h:zY w b) (hf:Fr S w w') (hs:¬ S b):zY w' b:=by
 obtain ⟨cur,hc⟩:=h;exact ⟨cur,(hf.block _ (lt_of_block hc) hs).trans hc⟩
theorem zY.set {w:World} {b i:Nat} {v:Value} (h:zY w b):zY (w.setCell ⟨b,i,none⟩ v) b:=by
 obtain ⟨cur,hc⟩:=h;exact ⟨_,aF hc⟩
theorem yU.keep {R T S:Nat->Prop} {w w':World} (hf:Fr S w w') (hR:∀ k,k < w.heap.size->R k->T k/\¬ S k):∀ (f:To) (D:Nat->Nat->Prop) (b off:Nat),yU R w D b off f->(∀ c,off<=c->c < off+9*f.length->w'.cell? ⟨b,c,none⟩=w.cell? ⟨b,c,none⟩)->(∀ j k,D j k->¬ S k)->yU T w' D b off f
 | .nil,_,_,_,_,_,_=>trivial
 | .cons h ps r,D,b,off,ht,hc,hD=>by
  obtain ⟨⟨o1,l1,c1,o2,l2,c2,⟨a0,a1,a2,a3,a4,a5,a6,a7,a8⟩,hs,h4,h4',h5⟩,h6⟩:=ht;have hl:9<=9*(To.cons h ps r).length:=by simp [To.length];omega
  refine ⟨⟨o1,l1,c1,o2,l2,c2,⟨?_,?_,?_,?_,?_,?_,?_,?_,?_⟩,hs.fr hf hR,h4,h4',fun hl=>?_⟩,yU.keep hf hR r _ b (off+9) h6 (fun c k1 k2=>hc c (by omega) (by simp only [To.length];omega)) (fun j k hk=>hD _ k hk)⟩
  ·rw [hc off (by omega) (by omega)];exact a0
  ·rw [hc _ (by omega) (by omega)];exact a1
  ·rw [hc _ (by omega) (by omega)];exact a2
  ·rw [hc _ (by omega) (by omega)];exact a3
  ·rw [hc _ (by omega) (by omega)];exact a4
  ·rw [hc _ (by omega) (by omega)];exact a5
  ·rw [hc _ (by omega) (by omega)];exact a6
  ·rw [hc _ (by omega) (by omega)];exact a7
  ·rw [hc _ (by omega) (by omega)];exact a8
  ·obtain ⟨b',E,ho,hd,hb,hE,hdj,ha⟩:=h5 hl;have hnb:=hD 0 b' hd;refine ⟨b',E,ho,hd,hb.fr hf hnb,hE,hdj,yU.keep hf hR ps E b' 0 ha (fun c _ _=>?_) (fun j k hk=>hD 0 k (hE j k hk).1)⟩;obtain ⟨cur,hcur⟩:=hb;simp only [World.cell?,hf.block _ (lt_of_block hcur) hnb]
theorem TO.fr {R T S:Nat->Prop} {w w':World} {D:Nat->Prop} {o:Option Addr} {len:Nat} {f:To} (h:TO R w D o len f) (hf:Fr S w w') (hR:∀ k,k < w.heap.size->R k->T k/\¬ S k) (hD:∀ k,D k->¬ S k):TO T w' D o len f:=by
 refine ⟨h.1,h.2.1,fun h0=>?_⟩;obtain ⟨b,E,ho,hd,hb,hE,hdj,ha⟩:=h.2.2 h0;refine ⟨b,E,ho,hd,hb.fr hf (hD b hd),hE,hdj,yU.keep hf hR f E b 0 ha (fun c _ _=>?_) (fun j k hk=>hD k (hE j k hk).1)⟩;obtain ⟨cur,hcur⟩:=hb;simp only [World.cell?,hf.block _ (lt_of_block hcur) (hD b hd)]
theorem TO.stay {R:Nat->Prop} {w w':World} {D:Nat->Prop} {o:Option Addr} {len:Nat} {f:To} (h:TO R w D o len f) (hq:ah w w'):TO R w' D o len f:=h.fr hq (fun _ _ hk=>⟨hk,fun h=>h⟩) (fun _ _ h=>h)
theorem TO.mono {R T:Nat->Prop} {w:World} {D D':Nat->Prop} {o:Option Addr} {len:Nat} {f:To} (h:TO R w D o len f) (hR:∀ k,k < w.heap.size->R k->T k) (hD:∀ k,k < w.heap.size->D k->D' k):TO T w (fun k=>D' k/\k < w.heap.size) o len f:=by
 have key:∀ (f:To) (E:Nat->Nat->Prop) (b off:Nat),yU R w E b off f->yU T w (fun j k=>E j k/\k < w.heap.size) b off f:=by
  intro f
  induction f with
  | nil=>intro _ _ _ _;trivial
  | cons h ps r ihp ihr =>
   intro E b off ht;obtain ⟨⟨o1,l1,c1,o2,l2,c2,hc,hs,h4,h4',h5⟩,h6⟩:=ht;refine ⟨⟨o1,l1,c1,o2,l2,c2,hc,hs.mono hR,h4,h4',fun hl=>?_⟩,ihr _ _ _ h6⟩;obtain ⟨b',F,ho,hd,hb,hF,hdj,ha⟩:=h5 hl;obtain ⟨cur,hcur⟩:=hb;exact ⟨b',_,ho,⟨hd,lt_of_block hcur⟩,⟨cur,hcur⟩,fun j k hk=>⟨⟨(hF j k hk.1).1,hk.2⟩,(hF j k hk.1).2⟩,fun i j k h1 h2=>hdj i j k h1.1 h2.1,ihp F b' 0 ha⟩
 refine ⟨h.1,h.2.1,fun h0=>?_⟩;obtain ⟨b,E,ho,hd,hb,hE,hdj,ha⟩:=h.2.2 h0;obtain ⟨cur,hcur⟩:=hb;exact ⟨b,_,ho,⟨hD _ (lt_of_block hcur) hd,lt_of_block hcur⟩,⟨cur,hcur⟩,fun j k hk=>⟨⟨hD k hk.2 (hE j k hk.1).1,hk.2⟩,(hE j k hk.1).2⟩,fun i j k h1 h2=>hdj i j k h1.1 h2.1,key f E b 0 ha⟩
theorem TO.weak {R:Nat->Prop} {w:World} {D D':Nat->Prop} {o:Option Addr} {len:Nat} {f:To} (h:TO R w D o len f) (hD:∀ k,D k->D' k):TO R w D' o len f:=by
 refine ⟨h.1,h.2.1,fun h0=>?_⟩;obtain ⟨b,E,ho,hd,hb,hE,hdj,ha⟩:=h.2.2 h0;exact ⟨b,E,ho,hD _ hd,hb,fun j k hk=>⟨hD _ (hE j k hk).1,(hE j k hk).2⟩,hdj,ha⟩
theorem yU.tin {R:Nat->Prop} {w:World} {T:Nat->Prop} (hR:∀ k,k < w.heap.size->R k->T k):∀ (f:To) (D:Nat->Nat->Prop) (b off:Nat),T b->(∀ j k,D j k->T k)->yU R w D b off f->Le T w b off f
 | .nil,_,_,_,_,_,_=>trivial
 | .cons h ps r,D,b,off,hb,hD,ht=>by
  obtain ⟨⟨o1,l1,c1,o2,l2,c2,hc,hs,h4,h4',h5⟩,h6⟩:=ht;refine ⟨hb,⟨o1,l1,c1,o2,l2,c2,hc,hs.mono hR,h4,h4',fun hl=>?_⟩,yU.tin hR r _ b (off+9) hb (fun j k hk=>hD _ k hk) h6⟩;obtain ⟨b',E,ho,hd,_,hE,_,ha⟩:=h5 hl;exact ⟨b',0,ho,yU.tin hR ps E b' 0 (hD 0 _ hd) (fun j k hk=>hD 0 k (hE j k hk).1) ha⟩
theorem TO.acF {R:Nat->Prop} {w:World} {D T:Nat->Prop} {o:Option Addr} {len:Nat} {f:To} (h:TO R w D o len f) (hR:∀ k,k < w.heap.size->R k->T k) (hD:∀ k,D k->T k):bC T w o len f:=by
 refine ⟨h.1,h.2.1,fun h0=>?_⟩;obtain ⟨b,E,ho,hd,_,hE,_,ha⟩:=h.2.2 h0;exact ⟨b,0,ho,yU.tin hR f E b 0 (hD b hd) (fun j k hk=>hD k (hE j k hk).1) ha⟩
theorem yU.nth {R : Nat -> Prop} {w : World} : ∀ (p : To) (D : Nat -> Nat -> Prop) (b off : Nat) (h : Nd) (ps r : To), yU R w D b off (p.app (.cons h ps r)) ->
    ∃ o1 l1 c1 o2 l2 c2,dL w b (off+p.length*9) h o1 l1 c1 o2 l2 c2/\aB R w o1 l1 h.tp/\TO R w (D p.length) o2 l2 ps
 | .nil,D,b,off,h,ps,r,ht=>by
  obtain ⟨⟨o1,l1,c1,o2,l2,c2,hc,hs,hto⟩,_⟩:=oM.1 ht;exact ⟨o1,l1,c1,o2,l2,c2,by simpa [To.length] using hc,hs,hto⟩
 | .cons h' ps' p,D,b,off,h,ps,r,ht=>by
  obtain ⟨_,h6⟩:=oM.1 ht;obtain ⟨o1,l1,c1,o2,l2,c2,hc,hs,hto⟩:=yU.nth p _ b (off+9) h ps r h6;refine ⟨o1,l1,c1,o2,l2,c2,?_,hs,hto⟩;rw [show off+(To.cons h' ps' p).length*9=off+9+p.length*9 from by simp [To.length];omega];exact hc
theorem yU.put {R S : Nat -> Prop} {w w' : World} (hf : Fr S w w') (hR : ∀ k, k < w.heap.size -> R k -> ¬ S k) : ∀ (p : To) (D : Nat -> Nat -> Prop) (b off : Nat) (h h' : Nd) (ps ps' r : To), yU R w D b off (p.app (.cons h ps r)) ->
    (∀ c,off<=c->(c < off+p.length*9∨off+p.length*9+9<=c)->w'.cell? ⟨b,c,none⟩=w.cell? ⟨b,c,none⟩)->(∀ j k,D j k->j≠p.length->¬ S k) ->
    (∃ o1 l1 c1 o2 l2 c2,dL w' b (off+p.length*9) h' o1 l1 c1 o2 l2 c2/\aB R w' o1 l1 h'.tp/\TO R w' (D p.length) o2 l2 ps')->yU R w' D b off (p.app (.cons h' ps' r))
 | .nil,D,b,off,h,h',ps,ps',r,ht,hc,hD,hn=>by
  obtain ⟨_,h6⟩:=oM.1 ht;refine oM.2 ⟨by simpa [To.length] using hn,yU.keep hf (fun k h1 h2=>⟨h2,hR k h1 h2⟩) r _ b (off+9) h6 (fun c k1 _=>hc c (by omega) (.inr (by simp [To.length];omega))) (fun j k hk=>hD _ k hk (by simp [To.length]))⟩
 | .cons g qs p,D,b,off,h,h',ps,ps',r,ht,hc,hD,hn=>by
  obtain ⟨⟨o1,l1,c1,o2,l2,c2,⟨a0,a1,a2,a3,a4,a5,a6,a7,a8⟩,hs,hto⟩,h6⟩:=oM.1 ht;have hlen:(To.cons g qs p).length=p.length+1:=rfl;refine oM.2 ⟨⟨o1,l1,c1,o2,l2,c2,⟨?_,?_,?_,?_,?_,?_,?_,?_,?_⟩,hs.fr hf (fun k h1 h2=>⟨h2,hR k h1 h2⟩),hto.fr hf (fun k h1 h2=>⟨h2,hR k h1 h2⟩) (fun k hk=>hD 0 k hk (by simp [To.length]))⟩,yU.put hf hR p _ b (off+9) h h' ps ps' r h6 (fun c k1 k2=>hc c (by omega) (by rw [hlen];omega)) (fun j k hk hj=>hD _ k hk (by rw [hlen];omega)) ?_⟩
  ·rw [hc off (by omega) (.inl (by rw [hlen];omega))];exact a0
  ·rw [hc _ (by omega) (.inl (by rw [hlen];omega))];exact a1
  ·rw [hc _ (by omega) (.inl (by rw [hlen];omega))];exact a2
  ·rw [hc _ (by omega) (.inl (by rw [hlen];omega))];exact a3
  ·rw [hc _ (by omega) (.inl (by rw [hlen];omega))];exact a4
  ·rw [hc _ (by omega) (.inl (by rw [hlen];omega))];exact a5
  ·rw [hc _ (by omega) (.inl (by rw [hlen];omega))];exact a6
  ·rw [hc _ (by omega) (.inl (by rw [hlen];omega))];exact a7
  ·rw [hc _ (by omega) (.inl (by rw [hlen];omega))];exact a8
  ·rw [hlen,show off+(p.length+1)*9=off+9+p.length*9 from by omega] at hn;exact hn
def oN (R:Nat->Prop) (w:World):(Nat->Nat->Prop)->List Value->To->Prop
 | _,xs,.nil=>xs=[]
 | E,xs,.cons h ps r=>∃ o1 l1 c1 o2 l2 c2 ys,xs=(cells9 h o1 l1 c1 o2 l2 c2).toList++ys/\aB R w o1 l1 h.tp/\TO R w (E 0) o2 l2 ps/\oN R w (fun j=>E (j+1)) ys r
theorem oN.fr {R T S:Nat->Prop} {w w':World} (hf:Fr S w w') (hR:∀ k,k < w.heap.size->R k->T k/\¬ S k):∀ (f:To) (E:Nat->Nat->Prop) (xs:List Value),oN R w E xs f->(∀ j k,E j k->¬ S k)->oN T w' E xs f
 | .nil,_,_,h,_=>h
 | .cons h ps r,E,xs,ht,hE=>by
  obtain ⟨o1,l1,c1,o2,l2,c2,ys,rfl,hs,ht,hr⟩:=ht;exact ⟨o1,l1,c1,o2,l2,c2,ys,rfl,hs.fr hf hR,ht.fr hf hR (fun k hk=>hE 0 k hk),oN.fr hf hR r _ ys hr (fun j k hk=>hE _ k hk)⟩
theorem oN.snoc {R : Nat -> Prop} {w : World} {h : Nd} {ps : To} {o1 : Option Addr} {l1 c1 : Nat} {o2 : Option Addr} {l2 c2 : Nat} {Dn : Nat -> Prop} (hs : aB R w o1 l1 h.tp) (ht : TO R w Dn o2 l2 ps) : ∀ (f : To) (E : Nat -> Nat -> Prop) (xs : List Value), oN R w E xs f ->
    oN R w (fun j k=>(j < f.length/\E j k)∨(j=f.length/\Dn k)) (xs++(cells9 h o1 l1 c1 o2 l2 c2).toList) (f.app (.cons h ps .nil))
 | .nil,E,xs,e=>by
  cases e;exact ⟨o1,l1,c1,o2,l2,c2,[],by simp,hs,ht.weak (fun k hk=>.inr ⟨rfl,hk⟩),rfl⟩
 | .cons h' ps' r,E,xs,e=>by
  obtain ⟨p1,m1,d1,p2,m2,d2,ys,rfl,hs',ht',hr⟩:=e;have ih:=oN.snoc (h:=h) (c1:=c1) (c2:=c2) hs ht r _ ys hr;refine ⟨p1,m1,d1,p2,m2,d2,_,by rw [List.append_assoc],hs',ht'.weak (fun k hk=>.inl ⟨by simp [To.length],hk⟩),?_⟩;have he:(fun j k=>((j+1 < (To.cons h' ps' r).length/\E (j+1) k)∨(j+1=(To.cons h' ps' r).length/\Dn k)))=(fun j k=>(j < r.length/\E (j+1) k)∨(j=r.length/\Dn k)):=by
   funext j k;simp [To.length]
  show oN R w (fun j k=>((j+1 < (To.cons h' ps' r).length/\E (j+1) k)∨(j+1=(To.cons h' ps' r).length/\Dn k))) _ _
  rw [he];exact ih
theorem oN.at {R:Nat->Prop} {w:World} {g:Nat}:∀ (f:To) (E:Nat->Nat->Prop) (xs:List Value) (off:Nat),oN R w E xs f->(∀ j u,xs[j]?=some u->w.cell? ⟨g,off+j,none⟩=some u)->yU R w E g off f
 | .nil,_,_,_,_,_=>trivial
 | .cons h ps r,E,xs,off,e,hc=>by
  obtain ⟨o1,l1,c1,o2,l2,c2,ys,rfl,hs,ht,hr⟩:=e;refine oM.2 ⟨⟨o1,l1,c1,o2,l2,c2,⟨hc 0 _ rfl,hc 1 _ rfl,hc 2 _ rfl,hc 3 _ rfl,hc 4 _ rfl,hc 5 _ rfl,hc 6 _ rfl,hc 7 _ rfl,hc 8 _ rfl⟩,hs,ht⟩,oN.at r _ ys (off+9) hr ?_⟩;intro j u hj;have:=hc (j+9) u (by simpa using hj);rw [<-this];congr 2;omega
structure iq (T:Nat->Prop) (w:World) (B:Nat) (v:Value) (f:To) (xs:List Value) (E:Nat->Nat->Prop):Prop where
 own:w.ownsRow 0 30 9 v f.length xs
 low:∀ k,v.ownBlock=some k->B<=k/\¬ T k
 cells:oN T w E xs f
 sep:∀ j k,E j k->B<=k/\k < w.heap.size/\v.ownBlock≠some k/\¬ T k
 one:∀ i j k,E i k->E j k->i=j
 old:∀ k,T k->k < w.heap.size
theorem iq.nil {T:Nat->Prop} (w:World) (B:Nat) (hT:∀ k,T k->k < w.heap.size):iq T w B (.slice none 0 0) .nil [] (fun _ _=>False) :=
 ⟨World.ownsRow_nil _ _ _ _,fun k hk=>(by cases hk),rfl,fun _ _ h=>h.elim,fun _ _ _ h=>h.elim,hT⟩
theorem iq.fr {T S:Nat->Prop} {w w':World} {B:Nat} {v:Value} {f:To} {xs:List Value} {E:Nat->Nat->Prop} (h:iq T w B v f xs E) (hf:Fr S w w') (hS:∀ k,S k->¬ T k/\(∀ j,¬ E j k)/\v.ownBlock≠some k):iq T w' B v f xs E:=by
 have hz:=hf.size;refine ⟨aU h.own hf (fun k hk hs=>(hS k hs).2.2 hk),h.low,oN.fr hf (fun k _ hk=>⟨hk,fun hs=>(hS k hs).1 hk⟩) f E xs h.cells (fun j k hk hs=>(hS k hs).2.1 j hk),fun j k hk=>?_,h.one,fun k hk=>?_⟩
 ·have:=h.sep j k hk;exact ⟨this.1,by omega,this.2.2⟩
 ·have:=h.old k hk;omega
theorem iq.stay {T:Nat->Prop} {w w':World} {B:Nat} {v:Value} {f:To} {xs:List Value} {E:Nat->Nat->Prop} (h:iq T w B v f xs E) (hf:ah w w'):iq T w' B v f xs E:=h.fr hf (fun _ hk=>hk.elim)
theorem iq.snoc {T Tn Dn : Nat -> Prop} {W W1 w1 : World} {B : Nat} {v : Value} {f : To} {xs : List Value} {E : Nat -> Nat -> Prop} {h : Nd} {ps : To} {o1 : Option Addr} {l1 c1 : Nat} {o2 : Option Addr} {l2 c2 g c : Nat} (hr : iq T W B v f xs E) (hB : B <= W.heap.size)
    (hq:ah W W1) (hs:aB (fun k=>T k∨Tn k) W1 o1 l1 h.tp) (ht:TO (fun k=>T k∨Tn k) W1 Dn o2 l2 ps)
    (Zh:∀ k,Tn k->W.heap.size<=k/\k < W1.heap.size/\¬ Dn k) (hDn:∀ k,Dn k->W.heap.size<=k/\k < W1.heap.size)
    (ho:w1.ownsRow 0 30 9 (.slice (some ⟨g,0,none⟩) (f.length+1) c) (f.length+1) (xs++(cells9 h o1 l1 c1 o2 l2 c2).toList)) (hf:Fr (fun k=>v.ownBlock=some k) W1 w1) (hg:v.ownBlock=some g∨W1.heap.size<=g) :
    iq (fun k=>T k∨Tn k) w1 B (.slice (some ⟨g,0,none⟩) (f.length+1) c) (f.app (.cons h ps .nil)) (xs++(cells9 h o1 l1 c1 o2 l2 c2).toList) (fun j k=>(j < f.length/\E j k)∨(j=f.length/\Dn k)):=by
 have hz:=hq.size;have hz1:=hf.size;have hvl:∀ k,v.ownBlock=some k->k < W.heap.size:=fun k hk=>(hr.own.lt k hk).2
 have hv:∀ k,v.ownBlock=some k->¬ (T k∨Tn k):=fun k hk hh=>by
  rcases hh with h | h
  ·exact (hr.low k hk).2 h
  ·have:=hvl k hk;have:=Zh k h;omega
 refine ⟨by rw [To.bJ];exact ho,?_,?_,?_,?_,?_⟩
 ·intro k hk;simp [Value.ownBlock] at hk;subst hk;rcases hg with h | h
  ·exact ⟨(hr.low g h).1,hv g h⟩
  ·refine ⟨by omega,fun hh=>?_⟩;rcases hh with h' | h'
   ·have:=hr.old g h';omega
   ·have:=Zh g h';omega
 ·refine oN.fr hf (fun k _ hk=>⟨hk,fun h=>hv k h hk⟩) _ _ _ (oN.snoc hs ht f E xs (oN.fr hq (fun k _ hk=>⟨.inl hk,fun h=>h⟩) f E xs hr.cells (fun _ _ _ h=>h))) ?_;rintro j k (⟨_,hk⟩ | ⟨_,hk⟩) h
  ·exact (hr.sep j k hk).2.2.1 h
  ·have:=hvl k h;have:=hDn k hk;omega
 ·rintro j k (⟨_,hk⟩ | ⟨_,hk⟩)
  ·have h1:=hr.sep j k hk;refine ⟨h1.1,by omega,fun h=>?_,fun hh=>?_⟩
   ·simp [Value.ownBlock] at h;subst h;rcases hg with h | h
    ·exact h1.2.2.1 h
    ·omega
   ·rcases hh with h' | h'
    ·exact h1.2.2.2 h'
    ·have:=Zh k h';omega
  ·have h1:=hDn k hk;refine ⟨by omega,by omega,fun h=>?_,fun hh=>?_⟩
   ·simp [Value.ownBlock] at h;subst h;rcases hg with h | h
    ·have:=hvl _ h;omega
    ·omega
   ·rcases hh with h' | h'
    ·have:=hr.old k h';omega
    ·exact (Zh k h').2.2 hk
 ·rintro i j k (⟨hi,h1⟩ | ⟨hi,h1⟩) (⟨hj,h2⟩ | ⟨hj,h2⟩)
  ·exact hr.one i j k h1 h2
  ·have:=hr.sep i k h1;have:=hDn k h2;omega
  ·have:=hr.sep j k h2;have:=hDn k h1;omega
  ·omega
 ·intro k hk;rcases hk with h | h
  ·have:=hr.old k h;omega
  ·have:=Zh k h;omega
theorem iq.to {T:Nat->Prop} {w:World} {B:Nat} {o:Option Addr} {len cap:Nat} {f:To} {xs:List Value} {E:Nat->Nat->Prop} (h:iq T w B (.slice o len cap) f xs E) (hl:len=f.length) (hm:len<=maxLen):TO T w (fun k=>B<=k/\¬ T k) o len f:=by
 refine ⟨hl,hm,fun h0=>?_⟩;rcases h.own.2 with ⟨_,h2⟩ | ⟨g,cap',cur,he,_,hg,_⟩
 ·omega
 ·injection he with h1 h2 h3
  subst h1;refine ⟨g,E,rfl,h.low g rfl,⟨cur,hg⟩,fun j k hk=>⟨⟨(h.sep j k hk).1,(h.sep j k hk).2.2.2⟩,fun e=>(h.sep j k hk).2.2.1 (by rw [e];rfl)⟩,h.one,oN.at f E xs 0 h.cells ?_⟩;intro j u hj;have:=h.own.cells (g:=g) rfl j u hj;simpa [Addr.add_lit] using this
end
end Go.Proofs.YtcninopmelmajaaDoor
