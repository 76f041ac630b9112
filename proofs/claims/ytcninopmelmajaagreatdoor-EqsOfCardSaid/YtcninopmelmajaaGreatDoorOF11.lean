/-
  Texts laid together (TeMem, TeAll, TeOpen, TeLaid): laws and walks, with their conditions.
-/
import Derived.Shelf.RegionOpen
import Derived.OwnWalkIn
import Derived.TacticsInMore
import Derived.LoopNIn
import Derived.LoopIn
import Derived.Sort.CutIn
import Derived.Laws.EntriesVeiled
import Derived.LaidMore
import Derived.Stop.Joined
import Derived.LaidLaws
import Derived.Lib.LaidTab
import Derived.Stop.LaidErr
import Derived.Test.YtcninopmelmajaaGreatDoorOF10
set_option maxHeartbeats 8000000
set_option maxRecDepth 1000000
namespace Go.Proofs.YtcninopmelmajaaGreatDoor
open Go.Lib (hid)
section
open Go.RowKit
def bI (h:Nd) (o1:Option Addr) (l1 c1:Nat) (o2:Option Addr) (l2 c2:Nat):Value :=
 .agg #[.int .i64 h.k,.string h.nm,.int .i64 h.n,.int .i64 h.tk,.int .i64 h.tn,.slice o1 l1 c1,.slice o2 l2 c2,.int .i64 h.fr,.int .i64 h.en]
def dJ (w:World) (b off:Nat) (h:Nd) (o1:Option Addr) (l1 c1:Nat) (o2:Option Addr) (l2 c2:Nat):Prop :=
 w.cell? ⟨b,off,none⟩=some (.int .i64 h.k)/\w.cell? ⟨b,off+1,none⟩=some (.string h.nm)/\w.cell? ⟨b,off+2,none⟩=some (.int .i64 h.n) /\
 w.cell? ⟨b,off+3,none⟩=some (.int .i64 h.tk)/\w.cell? ⟨b,off+4,none⟩=some (.int .i64 h.tn)/\w.cell? ⟨b,off+5,none⟩=some (.slice o1 l1 c1) /\
 w.cell? ⟨b,off+6,none⟩=some (.slice o2 l2 c2)/\w.cell? ⟨b,off+7,none⟩=some (.int .i64 h.fr)/\w.cell? ⟨b,off+8,none⟩=some (.int .i64 h.en)
theorem dJ.fr {S:Nat->Prop} {w w':World} {b off:Nat} {h:Nd} {o1:Option Addr} {l1 c1:Nat} {o2:Option Addr} {l2 c2:Nat} (hc:dJ w b off h o1 l1 c1 o2 l2 c2) (hf:Fr S w w') (hs:¬ S b):dJ w' b off h o1 l1 c1 o2 l2 c2:=by
 obtain ⟨h0,h1,h2,h3,h4,h5,h6,h7,h8⟩:=hc;have hb:=World.block_lt_of_cell? w _ h0;exact ⟨(hf.bf hb hs).trans h0,(hf.bf hb hs).trans h1,(hf.bf hb hs).trans h2,(hf.bf hb hs).trans h3,(hf.bf hb hs).trans h4,(hf.bf hb hs).trans h5,(hf.bf hb hs).trans h6,(hf.bf hb hs).trans h7,(hf.bf hb hs).trans h8⟩
theorem dJ.lt {w:World} {b off:Nat} {h:Nd} {o1:Option Addr} {l1 c1:Nat} {o2:Option Addr} {l2 c2:Nat} (hc:dJ w b off h o1 l1 c1 o2 l2 c2):b < w.heap.size:=World.block_lt_of_cell? w _ hc.1
def J9 (R:Nat->Prop) (w:World):Nat->Nat->To->Prop
 | _,_,.nil=>True
 | b,off,.cons h ps r=>R b/\(∃ o1 l1 c1 o2 l2 c2,dJ w b off h o1 l1 c1 o2 l2 c2/\aB R w o1 l1 h.tp/\l2=ps.length/\l2<=maxLen/\(0 < l2->∃ b' off',o2=some ⟨b',off',none⟩/\J9 R w b' off' ps))/\J9 R w b (off+9) r
def bD (R:Nat->Prop) (w:World) (o:Option Addr) (len:Nat) (f:To):Prop:=len=f.length/\len<=maxLen/\(0 < len->∃ b off,o=some ⟨b,off,none⟩/\J9 R w b off f)
theorem bD.nil (R:Nat->Prop) (w:World) (o:Option Addr):bD R w o 0 .nil:=⟨rfl,Nat.zero_le _,fun h=>absurd h (Nat.lt_irrefl _)⟩
theorem J9.fr {R T S:Nat->Prop} {w w':World} (hf:Fr S w w') (hR:∀ k,k < w.heap.size->R k->T k/\¬ S k):∀ (f:To) (b off:Nat),J9 R w b off f->J9 T w' b off f
 | .nil,_,_,_=>trivial
 | .cons h ps r,b,off,ht=>by
  obtain ⟨h0,⟨o1,l1,c1,o2,l2,c2,hc,hs,h4,h4',h5⟩,h6⟩:=ht;obtain ⟨hT,hS⟩:=hR b hc.lt h0;refine ⟨hT,⟨o1,l1,c1,o2,l2,c2,hc.fr hf hS,hs.fr hf hR,h4,h4',fun hl=>?_⟩,J9.fr hf hR r b (off+9) h6⟩;obtain ⟨b',off',ho,ha⟩:=h5 hl;exact ⟨b',off',ho,J9.fr hf hR ps b' off' ha⟩
theorem bD.fr {R T S:Nat->Prop} {w w':World} {o:Option Addr} {len:Nat} {f:To} (h:bD R w o len f) (hf:Fr S w w') (hR:∀ k,k < w.heap.size->R k->T k/\¬ S k):bD T w' o len f:=by
 refine ⟨h.1,h.2.1,fun hl=>?_⟩;obtain ⟨b,off,ho,ha⟩:=h.2.2 hl;exact ⟨b,off,ho,J9.fr hf hR f b off ha⟩
theorem bD.stay {R:Nat->Prop} {w w':World} {o:Option Addr} {len:Nat} {f:To} (h:bD R w o len f) (hq:ah w w'):bD R w' o len f:=h.fr hq (fun _ _ hk=>⟨hk,fun h=>h⟩)
theorem aB.stay {R:Nat->Prop} {w w':World} {o:Option Addr} {len:Nat} {f:Fo} (h:aB R w o len f) (hq:ah w w'):aB R w' o len f:=h.fr hq (fun _ _ hk=>⟨hk,fun h=>h⟩)
theorem aB.mono {R T:Nat->Prop} {w:World} {o:Option Addr} {len:Nat} {f:Fo} (h:aB R w o len f) (hk:∀ k,k < w.heap.size->R k->T k):aB T w o len f:=h.fr (Fr.refl (fun _=>False) w) (fun k hl hr=>⟨hk k hl hr,fun h=>h⟩)
theorem bD.mono {R T:Nat->Prop} {w:World} {o:Option Addr} {len:Nat} {f:To} (h:bD R w o len f) (hk:∀ k,k < w.heap.size->R k->T k):bD T w o len f:=h.fr (Fr.refl (fun _=>False) w) (fun k hl hr=>⟨hk k hl hr,fun h=>h⟩)
theorem J9.nth {R : Nat -> Prop} {w : World} : ∀ (f : To) (b off i : Nat), J9 R w b off f -> i < f.length -> ∃ h ps o1 l1 c1 o2 l2 c2, f.drop i = .cons h ps (f.drop (i + 1)) /\ f.get i = some (h, ps) /\ R b /\
    dJ w b (off+i*9) h o1 l1 c1 o2 l2 c2/\aB R w o1 l1 h.tp/\bD R w o2 l2 ps
 | .nil,_,_,_,_,h=>by simp [To.length] at h
 | .cons h ps r,b,off,0,ht,_=>by
  obtain ⟨h0,⟨o1,l1,c1,o2,l2,c2,hc,hs,h4,h4',h5⟩,h6⟩:=ht;exact ⟨h,ps,o1,l1,c1,o2,l2,c2,by simp [To.drop,To.drop_zero],rfl,h0,by simpa using hc,hs,h4,h4',h5⟩
 | .cons h ps r,b,off,i+1,ht,hi=>by
  obtain ⟨_,_,h6⟩:=ht;obtain ⟨h',ps',o1,l1,c1,o2,l2,c2,e1,e2,hb,hc,hs⟩:=J9.nth r b (off+9) i h6 (by simp [To.length] at hi;omega);refine ⟨h',ps',o1,l1,c1,o2,l2,c2,by simp only [To.drop];rw [e1],e2,hb,?_,hs⟩;rw [show off+(i+1)*9=off+9+i*9 from by omega];exact hc
theorem bD.nth {R : Nat -> Prop} {w : World} {o : Option Addr} {len : Nat} {f : To} (h : bD R w o len f) {i : Nat} (hi : i < len) : ∃ b off hd ps o1 l1 c1 o2 l2 c2, o = some ⟨b, off, none⟩ /\ f.drop i = .cons hd ps (f.drop (i + 1)) /\ f.get i = some (hd, ps) /\ R b /\
    dJ w b (off+i*9) hd o1 l1 c1 o2 l2 c2/\aB R w o1 l1 hd.tp/\bD R w o2 l2 ps:=by
 obtain ⟨b,off,rfl,ha⟩:=h.2.2 (by omega);obtain ⟨hd,ps,o1,l1,c1,o2,l2,c2,h1⟩:=J9.nth f b off i ha (by have:=h.1;omega);exact ⟨b,off,hd,ps,o1,l1,c1,o2,l2,c2,rfl,h1⟩
abbrev cells9 (h:Nd) (o1:Option Addr) (l1 c1:Nat) (o2:Option Addr) (l2 c2:Nat):Array Value :=
 #[.int .i64 h.k,.string h.nm,.int .i64 h.n,.int .i64 h.tk,.int .i64 h.tn,.slice o1 l1 c1,.slice o2 l2 c2,.int .i64 h.fr,.int .i64 h.en]
theorem aA {w:World} {B:Nat} {h:Nd} {o1:Option Addr} {l1 c1:Nat} {o2:Option Addr} {l2 c2:Nat} {t:TypeId} {z:Nat × Nat} (hb:w.heap[B]?=some (.cells (cells9 h o1 l1 c1 o2 l2 c2) t z)):dJ w B 0 h o1 l1 c1 o2 l2 c2:=by
 refine ⟨?_,?_,?_,?_,?_,?_,?_,?_,?_⟩<;>(rw [cell_of_row _ _ _ _ _ z hb];rfl)
theorem wB (w:World) (h:Nd) (o1:Option Addr) (l1 c1:Nat) (o2:Option Addr) (l2 c2:Nat) (t:TypeId):dJ (w.alloc (.cells (cells9 h o1 l1 c1 o2 l2 c2) t)) w.heap.size 0 h o1 l1 c1 o2 l2 c2:=aA (heap_alloc_new w _)
def kK (R:Nat->Prop) (w:World):List Value->To->Prop
 | xs,.nil=>xs=[]
 | xs,.cons h ps r=>∃ o1 l1 c1 o2 l2 c2 ys,xs=(cells9 h o1 l1 c1 o2 l2 c2).toList++ys/\aB R w o1 l1 h.tp/\bD R w o2 l2 ps/\kK R w ys r
theorem kK.fr {R T S:Nat->Prop} {w w':World} (hf:Fr S w w') (hR:∀ k,k < w.heap.size->R k->T k/\¬ S k):∀ (f:To) (xs:List Value),kK R w xs f->kK T w' xs f
 | .nil,_,h=>h
 | .cons h ps r,xs,ht=>by
  obtain ⟨o1,l1,c1,o2,l2,c2,ys,rfl,hs,ht,hr⟩:=ht;exact ⟨o1,l1,c1,o2,l2,c2,ys,rfl,hs.fr hf hR,ht.fr hf hR,kK.fr hf hR r ys hr⟩
theorem kK.snoc {R:Nat->Prop} {w:World} {h:Nd} {ps:To} {o1:Option Addr} {l1 c1:Nat} {o2:Option Addr} {l2 c2:Nat} (hs:aB R w o1 l1 h.tp) (ht:bD R w o2 l2 ps):∀ (f:To) (xs:List Value),kK R w xs f->kK R w (xs++(cells9 h o1 l1 c1 o2 l2 c2).toList) (f.app (.cons h ps .nil))
 | .nil,xs,e=>by
  cases e;exact ⟨o1,l1,c1,o2,l2,c2,[],by simp,hs,ht,rfl⟩
 | .cons h' ps' r,xs,e=>by
  obtain ⟨p1,m1,d1,p2,m2,d2,ys,rfl,hs',ht',hr⟩:=e;exact ⟨p1,m1,d1,p2,m2,d2,_,by rw [List.append_assoc],hs',ht',kK.snoc hs ht r ys hr⟩
theorem kK.at {R:Nat->Prop} {w:World} {g:Nat} (hg:R g):∀ (f:To) (xs:List Value) (off:Nat),kK R w xs f->(∀ j u,xs[j]?=some u->w.cell? ⟨g,off+j,none⟩=some u)->J9 R w g off f
 | .nil,_,_,_,_=>trivial
 | .cons h ps r,xs,off,e,hc=>by
  obtain ⟨o1,l1,c1,o2,l2,c2,ys,rfl,hs,ht,hr⟩:=e;refine ⟨hg,⟨o1,l1,c1,o2,l2,c2,⟨hc 0 _ rfl,hc 1 _ rfl,hc 2 _ rfl,hc 3 _ rfl,hc 4 _ rfl,hc 5 _ rfl,hc 6 _ rfl,hc 7 _ rfl,hc 8 _ rfl⟩,hs,ht.1,ht.2.1,ht.2.2⟩,kK.at hg r ys (off+9) hr ?_⟩;intro j u hj;have:=hc (j+9) u (by simpa using hj);rw [<-this];congr 2;omega
structure kU (w:World) (B:Nat) (v:Value) (f:To) (xs:List Value):Prop where
 own:w.ownsRow 0 29 9 v f.length xs
 low:∀ k,v.ownBlock=some k->B<=k
 cells:kK (fun k=>B<=k/\v.ownBlock≠some k) w xs f
theorem kU.nil (w:World) (B:Nat):kU w B (.slice none 0 0) .nil []:=⟨World.ownsRow_nil _ _ _ _,fun k hk=>(by cases hk),rfl⟩
theorem kU.fr {w w':World} {B:Nat} {v:Value} {f:To} {xs:List Value} {S:Nat->Prop} (h:kU w B v f xs) (hf:Fr S w w') (hS:∀ k,S k->k < B):kU w' B v f xs:=by
 refine ⟨aV h.own hf (fun k hk hs=>?_),h.low,kK.fr hf (fun k _ hk=>⟨hk,fun hs=>?_⟩) f xs h.cells⟩
 ·have:=h.low k hk;have:=hS k hs;omega
 ·have:=hS k hs;omega
theorem kU.stay {w w':World} {B:Nat} {v:Value} {f:To} {xs:List Value} (h:kU w B v f xs) (hf:ah w w'):kU w' B v f xs:=h.fr hf (fun _ hk=>hk.elim)
theorem kU.lt {w:World} {B:Nat} {v:Value} {f:To} {xs:List Value} (h:kU w B v f xs):∀ k,v.ownBlock=some k->k < w.heap.size:=fun k hk=>(h.own.lt k hk).2
theorem kU.snoc {W w1 : World} {B : Nat} {v : Value} {f : To} {xs : List Value} {h : Nd} {ps : To} {o1 : Option Addr} {l1 c1 : Nat} {o2 : Option Addr} {l2 c2 g c : Nat} (hr : kU W B v f xs)
    (hs:aB (fun k=>B<=k/\v.ownBlock≠some k) W o1 l1 h.tp) (ht:bD (fun k=>B<=k/\v.ownBlock≠some k) W o2 l2 ps)
    (ho:w1.ownsRow 0 29 9 (.slice (some ⟨g,0,none⟩) (f.length+1) c) (f.length+1) (xs++(cells9 h o1 l1 c1 o2 l2 c2).toList)) (hf:Fr (fun k=>v.ownBlock=some k) W w1) (hg:v.ownBlock=some g∨W.heap.size<=g) (hB:B<=W.heap.size) :
    kU w1 B (.slice (some ⟨g,0,none⟩) (f.length+1) c) (f.app (.cons h ps .nil)) (xs++(cells9 h o1 l1 c1 o2 l2 c2).toList):=by
 refine ⟨by rw [To.bQ];exact ho,?_,?_⟩
 ·intro k hk;simp [Value.ownBlock] at hk;subst hk;rcases hg with h | h
  ·exact hr.low g h
  ·omega
 ·have hk : ∀ k, k < W.heap.size -> (B <= k /\ v.ownBlock ≠ some k) -> ((B <= k /\ (Value.slice (some ⟨g, 0, none⟩) (f.length + 1) c).ownBlock ≠ some k) /\ ¬ v.ownBlock = some k) := by
    rintro k hk ⟨h1,h2⟩;refine ⟨⟨h1,fun h=>?_⟩,h2⟩;simp [Value.ownBlock] at h;subst h;rcases hg with h | h
    ·exact h2 h
    ·omega
  exact kK.snoc (hs.fr hf hk) (ht.fr hf hk) f xs (kK.fr hf hk f xs hr.cells)
theorem kU.slc {w:World} {B:Nat} {o:Option Addr} {len cap:Nat} {f:To} {xs:List Value} (h:kU w B (.slice o len cap) f xs) (hl:len=f.length) (hm:len<=maxLen):bD (fun k=>B<=k) w o len f:=by
 refine ⟨hl,hm,fun h0=>?_⟩;rcases h.own.2 with ⟨_,h2⟩ | ⟨g,cap',cur,he,_⟩
 ·omega
 ·injection he with h1 h2 h3
  subst h1;refine ⟨g,0,rfl,kK.at (h.low g rfl) f xs 0 (kK.fr (Fr.refl (fun _=>False) w) (fun k _ hk=>⟨hk.1,fun h=>h⟩) f xs h.cells) ?_⟩;intro j u hj;have:=h.own.cells (g:=g) rfl j u hj;simpa [Addr.add_lit] using this
theorem wC:Elem Tryz.prog 25 29 (.agg #[.int .i64 0,.string ⟨#[]⟩,.int .i64 0,.int .i64 0,.int .i64 0,.slice none 0 0,.slice none 0 0,.int .i64 0,.int .i64 0]) 9 112 :=
 ⟨Tryz.underlying25,by kernel_rfl,by decide,by decide⟩
end
section
open Go.RowKit Go.Shelf
attribute [local go_sem] Oper.semAt_some
def YS (R:Nat->Prop) (i:Nat) (x:Nd × To) (va:Array Value) (W:World):Prop :=
 ∃ o1 l1 c1 o2 l2 c2,va=#[.int .i64 (i:Int),bI x.1 o1 l1 c1 o2 l2 c2]/\aB R W o1 l1 x.1.tp/\bD R W o2 l2 x.2
structure xE (nb yb wb l:Nat) (W:World) (i:Nat):Prop where
 n:W.heap[nb]?=some (.cells #[.int .i64 (i:Int)] 3 (0,0))
 y:W.heap[yb]?=some (.cells #[.func (.yield l) #[] #[]] 134 (0,0))
 w:W.heap[wb]?=some (.cells #[.func (.func 84) #[] #[.pointer (some ⟨nb,0,none⟩),.pointer (some ⟨yb,0,none⟩),.pointer (some ⟨wb,0,none⟩)]] 30 (0,0))
theorem xE.fr {nb yb wb l:Nat} {S:Nat->Prop} {W W':World} {i:Nat} (h:xE nb yb wb l W i) (hf:Fr S W W') (h1:¬ S nb) (h2:¬ S yb) (h3:¬ S wb):xE nb yb wb l W' i :=
 ⟨(hf.block _ (lt_of_block h.n) h1).trans h.n,(hf.block _ (lt_of_block h.y) h2).trans h.y,(hf.block _ (lt_of_block h.w) h3).trans h.w⟩
theorem Ir:∀ (f:To) (m:Nat) (h:Nd) (qs:To),f.get m=some (h,qs)->(f.drop m).size=1+qs.size+(f.drop (m+1)).size/\(f.drop m).size<=f.size/\∀ j x,(To.cons h qs .nil).flat[j]?=some x->f.flat[f.size-(f.drop m).size+j]?=some x
 | .nil,m,h,qs,e=>by simp [To.get] at e
 | .cons h' ps r,0,h,qs,e=>by
  simp [To.get] at e;obtain ⟨rfl,rfl⟩:=e;refine ⟨by simp [To.drop,To.drop_zero,To.size];omega,by simp [To.drop],fun j x hj=>?_⟩;have hlt:=(List.getElem?_eq_some_iff.1 hj).1;simp only [To.drop,Nat.sub_self,Nat.zero_add];rw [show (To.cons h' ps r).flat=(To.cons h' ps .nil).flat++r.flat from by simp [To.flat],List.getElem?_append_left hlt];exact hj
 | .cons h' ps r,m+1,h,qs,e=>by
  obtain ⟨e1,e2,e3⟩:=Ir r m h qs e;simp only [To.drop];refine ⟨e1,by simp only [To.size];omega,fun j x hj=>?_⟩;have h3:=e3 j x hj;rw [show (To.cons h' ps r).flat=((h',ps)::ps.flat)++r.flat from by simp [To.flat],List.getElem?_append_right (by simp [To.size,To.flat_length];omega)];rw [<-h3]
  congr 1
  simp [To.size,To.flat_length];omega
section
variable (R:Nat->Prop) (l nb yb wb L0:Nat) (xs:List (Nd × To)) (J:Nat->(Nat->Prop)->World->Prop) (Jx:World->Prop)
def Ym (h:Nd) (ps:To):Prop:=∀ (n i:Nat) (D:Nat->Prop) (W:World) (o1:Option Addr) (l1 c1:Nat) (o2:Option Addr) (l2 c2:Nat),J i D W->xE nb yb wb l W i->aB R W o1 l1 h.tp->bD R W o2 l2 ps ->
 (∀ k,D k->k≠nb/\k≠yb/\k≠wb)->(∀ j x,(To.cons h ps .nil).flat[j]?=some x->xs[i+j]?=some x)->i+ps.size+1<=1000000 ->
 CallsIn Fence.wide n Tryz.prog 84 #[bI h o1 l1 c1 o2 l2 c2,.pointer (some ⟨nb,0,none⟩),.pointer (some ⟨yb,0,none⟩),.pointer (some ⟨wb,0,none⟩)] W fun e W' =>
  (e=.returned (.bool true)/\∃ D',J (i+ps.size+1) D' W'/\xE nb yb wb l W' (i+ps.size+1)/\Fr (fun k=>D k∨k=nb) W W'/\∀ k,D' k->D k∨W.heap.size<=k)∨(e=.returned (.bool false)/\Jx W')
end
theorem walk_any (R : Nat -> Prop) (l nb yb wb L0 : Nat) (xs : List (Nd × To)) (J : Nat -> (Nat -> Prop) -> World -> Prop) (Jx : World -> Prop)
    (hRb:∀ k,R k->k < L0) (hnb:L0<=nb/\L0<=yb/\L0<=wb/\nb≠yb/\nb≠wb)
    (hown:∀ i D A,J i D A->∀ k,D k->k < A.heap.size/\¬ R k)
    (hst:∀ i D A B,J i D A->Fr (fun k=>L0<=k/\¬ D k) A B->J i D B)
    (hY:∀ m i x va D W1,xs[i]?=some x->YS R i x va W1->J i D W1->YieldAt Fence.wide m Tryz.prog l va W1 fun e W' =>
     (e=.returned (.bool true)/\∃ D',J (i+1) D' W'/\Fr D W1 W'/\∀ k,D' k->D k∨W1.heap.size<=k)∨(e=.returned (.bool false)/\Jx W'))
    (h:Nd) (ps:To):Ym R l nb yb wb xs J Jx h ps:=by
 refine To.sG (T:=Ym R l nb yb wb xs J Jx) ?_ h ps;intro h ps ih n i D W o1 l1 c1 o2 l2 c2 hJ hB hs ht hD hx hz;have IH:=hid ih;have HD:=hid hD;have HX:=hid hx;have hmx:=ht.2.1;have HL:=hid ht.1;have hlen:=To.length_le ps;unfold maxLen at hmx;obtain ⟨W1,hW1⟩:∃ W1,W1=W.alloc (.cells (cells9 h o1 l1 c1 o2 l2 c2) 29):=⟨_,rfl⟩;obtain ⟨tb,htb⟩:∃ tb,tb=W.heap.size:=⟨_,rfl⟩;have hq1:Fr (fun _=>False) W W1:=by rw [hW1];exact Fr.alloc _ _ _
 have hb1:xE nb yb wb l W1 i:=hB.fr hq1 (fun h=>h) (fun h=>h) (fun h=>h);have ht1:W1.heap[tb]?=some (.cells (cells9 h o1 l1 c1 o2 l2 c2) 29 (0,0)):=by rw [hW1,htb];exact heap_alloc_new _ _
 have hnt:tb≠nb/\tb≠yb/\tb≠wb:=⟨fun e=>by have:=lt_of_block hB.n;omega,fun e=>by have:=lt_of_block hB.y;omega,fun e=>by have:=lt_of_block hB.w;omega⟩;obtain ⟨W2,hW2⟩:∃ W2,W2=W1.setCell ⟨nb,0,none⟩ (.int .i64 ((i:Int)+1)):=⟨_,rfl⟩;have hq2:Fr (fun k=>k=nb) W1 W2:=by rw [hW2];exact Fr.setCell _ _ _ _ rfl
 have hb2:xE nb yb wb l W2 (i+1):=⟨by rw [hW2];exact one_setCell hb1.n,(hq2.block _ (lt_of_block hb1.y) (fun e=>hnb.2.2.2.1 e.symm)).trans hb1.y,(hq2.block _ (lt_of_block hb1.w) (fun e=>hnb.2.2.2.2 e.symm)).trans hb1.w⟩;have ht2:=(hq2.block _ (lt_of_block ht1) hnt.1).trans ht1;have hJ2:J i D W2:=hst i D W W2 hJ ((hq1.mono (fun k _ h=>h.elim)).trans (hq2.mono (fun k _ e=>⟨by omega,fun hd=>(hD k hd).1 (by omega)⟩)));have hs2:aB R W2 o1 l1 h.tp:=(hs.fr hq1 (fun k _ hk=>⟨hk,fun h=>h⟩)).fr hq2 (fun k _ hk=>⟨hk,fun e=>by have:=hRb k hk;omega⟩);have ht3:bD R W2 o2 l2 ps:=(ht.fr hq1 (fun k _ hk=>⟨hk,fun h=>h⟩)).fr hq2 (fun k _ hk=>⟨hk,fun e=>by have:=hRb k hk;omega⟩);have hsz1:W1.heap.size=tb+1:=by rw [hW1,htb];simp
 have hsz2:W1.heap.size<=W2.heap.size:=hq2.size;have hy:=fun m=>hY m i (h,ps) #[.int .i64 (i:Int),bI h o1 l1 c1 o2 l2 c2] D W2 (by have:=hx 0 (h,ps) rfl;simpa using this) ⟨o1,l1,c1,o2,l2,c2,rfl,hs2,ht3⟩ hJ2
 obtain ⟨fn,tmps,assign,body,hyr,hR⟩:=hy (n-1);have HR:=hid hR;have WB:Hid (Fr (fun k=>D k∨k=nb) W W2):=(hq1.mono (fun k _ h=>h.elim)).trans (hq2.mono (fun k _ e=>.inr e));have cn1:=cell_of_one hb1.n;have zn1:=free_of_one hb1.n;have cy2:=cell_of_one hb2.y;have cw2:=cell_of_one hb2.w;have cn2:=cell_of_one hb2.n;have HB2:=hid hb2;have HT2:=hid ht2;have HJ2:=hid hJ2;obtain ⟨a0,a1,a2,a3,a4,a5,a6,a7,a8⟩:=aA ht2;have Iu:W2=(W.alloc (.cells (cells9 h o1 l1 c1 o2 l2 c2) 29)).setCell ⟨nb,0,none⟩ (.int .i64 ((i:Int)+1)):=by rw [hW2,hW1]
 rw [hW1] at cn1 zn1;have HTS:=hid ht3;have HTL:Hid (tb < W2.heap.size):=lt_of_block ht2;have HDW:Hid (∀ k,D k->k < tb):=fun k hk=>by rw [htb];exact (hown _ _ _ hJ k hk).1
 have HST:=hid hst;clear hs ht ih hD hx hJ hB hq1 hq2 hb1 ht1 hb2 ht2 hJ2 hs2 ht3 hy hR hY hst hsz1 hsz2;unfold bI;refine callsIn_of_wp Tryz.func84 rfl trivial ?_ rfl;simp only [Tryz.ntmps84,List.size_toArray,List.length_cons,List.length_nil,Nat.reduceAdd,Nat.reduceSub,Array.replicate_succ,Array.replicate_zero,List.push_toArray,List.append_toArray,List.nil_append,List.cons_append]
 gi_upto_region 2 with fail
 change Code.wpIn _ _ _ _ _ _ ((W.alloc (.cells (cells9 h o1 l1 c1 o2 l2 c2) 29)).setCell ⟨nb,0,none⟩ (.int .i64 ((i:Int)+1)));rw [<-Iu,<-htb];clear Iu hW2 hW1 htb cn1 zn1;unfold bI at hyr
 gi_wp2
 refine ⟨fun h=>(by cases h),HR.out.mono ?_⟩;rintro e W3 (⟨rfl,D3,hJ3,hf3,hd3⟩ | ⟨rfl,hx3⟩)
 ·have hb3:=HB2.out.fr hf3 (fun hk=>(HD.out _ hk).1 rfl) (fun hk=>(HD.out _ hk).2.1 rfl) (fun hk=>(HD.out _ hk).2.2 rfl);have htD:¬ D tb:=fun hk=>by have:=(hown _ _ _ HJ2.out _ hk).1;have:=HTL.out;have:=HDW.out _ hk;omega
  have ht3:=(hf3.block _ (lt_of_block HT2.out) htD).trans HT2.out;have HB3:=hid hb3;have HJ3:=hid hJ3;have HF3:=hid hf3;have HD3:=hid hd3;have RU:Hid (bD R W3 o2 l2 ps):=HTS.out.fr hf3 (fun k _ hk=>⟨hk,fun hd=>(hown _ _ _ HJ2.out k hd).2 hk⟩);clear a0 a1 a2 a3 a4 a5 a6 a7 a8 cn2 cy2 cw2;obtain ⟨a0,a1,a2,a3,a4,a5,a6,a7,a8⟩:=aA ht3;clear hJ3 hf3 hd3 hb3 ht3
  gi_wp2
  gi_loopw [19] (fun t wr=>∃ (m:Nat) (D':Nat->Prop),t=.int .i64 m/\m<=l2/\J (i+1+(ps.size-(ps.drop m).size)) D' wr/\xE nb yb wb l wr (i+1+(ps.size-(ps.drop m).size))/\Fr (fun k=>D3 k∨k=nb∨W3.heap.size<=k) W3 wr/\∀ k,D' k->D3 k∨W3.heap.size<=k) (fun t wr=>l2-(intOf t).toNat)
  case atStart=>exact ⟨0,D3,rfl,Nat.zero_le _,by rw [To.drop_zero,Nat.sub_self];exact HJ3.out,by rw [To.drop_zero,Nat.sub_self];exact HB3.out,Fr.refl _ _,fun k hk=>.inl hk⟩
  case round =>
   obtain ⟨m,D',rfl,hm,hj,hb,hf,hd⟩:=hrel
   by_cases hlt:m < l2
   ·have hlt':(m:Int) < l2:=by omega
    have hts:bD R wr o2 l2 ps:=RU.out.fr hf (fun k hk hr=>⟨hr,fun hs=>by
     rcases hs with hs | hs | hs
     ·exact (hown _ _ _ HJ3.out k hs).2 hr
     ·have:=hRb k hr;omega
     ·omega⟩)
    obtain ⟨b,off,hd1,qs,p1,m1,d1,p2,m2,d2,rfl,hdr,hg,acw,Q7,hs1,ht1⟩:=hts.nth hlt;obtain ⟨q1,q2,q3⟩:=Ir ps m hd1 qs hg;obtain ⟨W4,yN⟩:∃ W4,W4=wr.alloc (.cells (cells9 hd1 p1 m1 d1 p2 m2 d2) 29):=⟨_,rfl⟩;have hq4:Fr (fun _=>False) wr W4:=by rw [yN];exact Fr.alloc _ _ _
    have hc4:dJ W4 wr.heap.size 0 hd1 p1 m1 d1 p2 m2 d2:=by rw [yN];exact wB _ _ _ _ _ _ _ _ _
    have hnd:∀ k,D' k->k≠nb/\k≠yb/\k≠wb:=fun k hk=>by
     have e1:=lt_of_block HB3.out.n;have e2:=lt_of_block HB3.out.y;have e3:=lt_of_block HB3.out.w;rcases hd k hk with h | h
     ·rcases HD3.out k h with h | h
      ·exact HD.out k h
      ·have f1:=lt_of_block HB2.out.n;have f2:=lt_of_block HB2.out.y;have f3:=lt_of_block HB2.out.w;omega
     ·omega
    have HC:=hid (IH.out m hd1 qs hg (n-1) (i+1+(ps.size-(ps.drop m).size)) D' W4 p1 m1 d1 p2 m2 d2 (HST.out _ _ _ _ hj (hq4.mono (fun k _ h=>h.elim))) (hb.fr hq4 (fun h=>h) (fun h=>h) (fun h=>h)) (hs1.fr hq4 (fun k _ hk=>⟨hk,fun h=>h⟩)) (ht1.fr hq4 (fun k _ hk=>⟨hk,fun h=>h⟩)) hnd
     (fun j x hj=>by
      have h1:=q3 j x hj;have h2:=HX.out (1+(ps.size-(ps.drop m).size)+j) x (by
       rw [show 1+(ps.size-(ps.drop m).size)+j=(ps.size-(ps.drop m).size+j)+1 from by omega];simpa [To.flat] using h1)
      rw [<-h2];congr 1;omega) (by omega))
    have xG:Hid (i+1+(ps.size-(ps.drop m).size)+qs.size+1=i+1+(ps.size-(ps.drop (m+1)).size)):=by show _=_;have:=To.size_drop ps (m+1);omega
    have cw4:=cell_of_one (hb.fr hq4 (fun h=>h) (fun h=>h) (fun h=>h)).w;obtain ⟨z0,z1,z2,z3,z4,z5,z6,z7,z8⟩:=Q7;obtain ⟨y0,y1,y2,y3,y4,y5,y6,y7,y8⟩:=hc4;have HF:=hid hf;have OG:=hid hd;have fV:=hid hq4;unfold bI at HC;clear hf hd hj hb hq4 q1 q2 q3 hts hdr hg hs1 ht1 hnd acw a0 a1 a2 a3 a4 a5 a6 a7 a8
    gi_upto_region 7 with fail
    change Code.wpIn _ _ _ _ _ _ (wr.alloc (.cells (cells9 hd1 p1 m1 d1 p2 m2 d2) 29));rw [<-yN];generalize wr.heap.size=pb at *;clear yN z0 z1 z2 z3 z4 z5 z6 z7 z8
    gi_wp2
    refine ⟨trivial,fun h=>(by cases h),HC.out.mono ?_⟩;rintro e W5 (⟨rfl,D5,hj5,hb5,hf5,hd5⟩ | ⟨rfl,hx5⟩)
    ·rw [xG.out] at hj5 hb5;have YT:Hid (Fr (fun k=>D3 k∨k=nb∨W3.heap.size<=k) W3 W5):=(HF.out.trans (fV.out.mono (fun k _ h=>h.elim))).trans (hf5.mono (fun k _ hk=>by
      rcases hk with h | h
      ·rcases OG.out k h with h | h
       ·exact .inl h
       ·exact .inr (.inr h)
      ·exact .inr (.inl h)))
     have HDF:Hid (∀ k,D5 k->D3 k∨W3.heap.size<=k):=fun k hk=>by
      rcases hd5 k hk with h | h
      ·exact OG.out k h
      ·have:=HF.out.size;have:=fV.out.size;exact .inr (by omega)
     have HJ5:=hid hj5;have HB5:=hid hb5;clear hj5 hb5 hf5 hd5
     gi_wp2
     go_roundw
     case rel=>exact ⟨m+1,D5,by go_num,by omega,HJ5.out,HB5.out,YT.out,HDF.out⟩
     case measure=>simp [intOf];omega
    ·gi_wp2
     go_ret;exact .inr ⟨rfl,hx5⟩
   ·have hlt':¬ (m:Int) < l2:=by omega
    have hme:ps.drop m=.nil:=To.drop_end ps m (by have:=HL.out;omega);rw [hme] at hj hb;have HJE:=hid hj;have cO:=hid hb;have rX:=hid hf;have HDE:=hid hd;clear hj hb hf hd hme
    gi_wp2
    go_ret;have h1:=HJE.out;have h2:=cO.out;rw [show i+1+(ps.size-To.nil.size)=i+ps.size+1 from by simp [To.size];omega] at h1 h2;refine .inl ⟨rfl,D',h1,h2,?_,?_⟩
    ·have e1:=WB.out.size;have e2:=HF3.out.size;refine (WB.out.trans (HF3.out.mono (fun k _ h=>.inl h))).trans' rX.out (fun k hk h=>?_);rcases h with h | h | h
     ·rcases HD3.out k h with h | h
      ·exact .inl h
      ·omega
     ·exact .inr h
     ·omega
    ·intro k hk;rcases HDE.out k hk with h | h
     ·rcases HD3.out k h with h | h
      ·exact .inl h
      ·have:=WB.out.size;exact .inr (by omega)
     ·have:=WB.out.size;have:=HF3.out.size;exact .inr (by omega)
 ·gi_wp2
  go_ret;exact .inr ⟨rfl,hx3⟩
theorem WC (n : Nat) (R : Nat -> Prop) (h : Nd) (ps : To) (o1 : Option Addr) (l1 c1 : Nat) (o2 : Option Addr) (l2 c2 tb : Nat) (w : World) (hRw : ∀ k, R k -> k < w.heap.size)
    (hb:w.heap[tb]?=some (.cells (cells9 h o1 l1 c1 o2 l2 c2) 29 (0,0))) (_:R tb) (hs:aB R w o1 l1 h.tp) (ht:bD R w o2 l2 ps) (hz:ps.size<=100000) :
    aaO n Tryz.prog 83 #[.pointer (some ⟨tb,0,none⟩)] (YS R) R (To.cons h ps .nil).flat w:=by
 intro l J Jx W D0 hW hown hst acy hY hJ;obtain ⟨W2,hW2⟩:∃ W2,W2=((W.alloc (.cells #[.func (.yield l) #[] #[]] 134)).alloc (.cells #[.int .i64 0] 3)).alloc (.cells #[.nilFunc] 30):=⟨_,rfl⟩;obtain ⟨W3,hW3⟩:∃ W3,W3=W2.setCell ⟨W.heap.size+1+1,0,none⟩ (.func (.func 84) #[] #[.pointer (some ⟨W.heap.size+1,0,none⟩),.pointer (some ⟨W.heap.size,0,none⟩),.pointer (some ⟨W.heap.size+1+1,0,none⟩)]):=⟨_,rfl⟩;have hf2:Fr (fun _=>False) W W2:=by rw [hW2];exact ((Fr.alloc _ _ _).trans (Fr.alloc _ _ _)).trans (Fr.alloc _ _ _)
 have WE:Fr (fun k=>k=W.heap.size+1+1) W2 W3:=by rw [hW3];exact Fr.setCell _ _ _ _ rfl
 have hf3:Fr (fun _=>False) W W3:=hf2.trans' WE (fun k hk e=>by omega);have hw2:W2.heap[W.heap.size+1+1]?=some (.cells #[.nilFunc] 30 (0,0)):=by
  rw [hW2];have:=heap_alloc_new ((W.alloc (.cells #[.func (.yield l) #[] #[]] 134)).alloc (.cells #[.int .i64 0] 3)) (.cells #[.nilFunc] 30);simpa using this
 have hB3:xE (W.heap.size+1) W.heap.size (W.heap.size+1+1) l W3 0:=by
  refine ⟨?_,?_,?_⟩
  ·rw [WE.block _ (by rw [hW2];simp) (by omega),hW2,Below.heap_alloc _ _ _ (by simp)];have:=heap_alloc_new (W.alloc (.cells #[.func (.yield l) #[] #[]] 134)) (.cells #[.int .i64 0] 3);simpa using this
  ·rw [WE.block _ (by rw [hW2];simp;omega) (by omega),hW2,Below.heap_alloc _ _ _ (by simp;omega),Below.heap_alloc _ _ _ (by simp)];exact heap_alloc_new W _
  ·rw [hW3];exact one_setCell hw2
 have hle:=hW.size;have hwf:=hW.trans hf3;have hb3:=(hwf.block _ (lt_of_block hb) (fun h=>h)).trans hb;have cw2:=cell_of_one hw2;have zw2:=free_of_one hw2;have HC:=hid (walk_any R l (W.heap.size+1) W.heap.size (W.heap.size+1+1) W.heap.size (To.cons h ps .nil).flat J Jx (fun k hk=>by have:=hRw k hk;omega) (by omega) hown hst
  (fun m i x va D W1 hx he hj=>OH m (hY i x va D W1 hx he hj)) h ps (n-1) 0 D0 W3 o1 l1 c1 o2 l2 c2 (hst 0 D0 W W3 hJ (hf3.mono (fun k _ h=>h.elim))) hB3
  (hs.fr hwf (fun k _ hk=>⟨hk,fun h=>h⟩)) (ht.fr hwf (fun k _ hk=>⟨hk,fun h=>h⟩)) (fun k hk=>by have:=(hown 0 D0 W hJ k hk).1;omega) (fun j x hx=>by rw [Nat.zero_add];exact hx) (by omega))
 have wE:Hid (0+ps.size+1=(To.cons h ps .nil).flat.length):=by show _=_;rw [To.flat_length];simp [To.size]
 have cw:=cell_of_one hB3.w;obtain ⟨a0,a1,a2,a3,a4,a5,a6,a7,a8⟩:=aA hb3;unfold bI at HC;clear hb3 hB3 hs ht hY hJ hst acy hown hb hwf hf3 hf2 WE hw2;refine callsIn_of_wp Tryz.func83 rfl trivial ?_ rfl;simp only [Tryz.ntmps83,List.size_toArray,List.length_cons,List.length_nil,Nat.reduceAdd,Nat.reduceSub,Array.replicate_succ,Array.replicate_zero,List.push_toArray,List.append_toArray,List.nil_append,List.cons_append];have HW3:=hid hW3;clear hW3
 gi_upto_region 3 with fail
 rw [<-hW2];clear hW2
 gi_upto_region 4 with fail
 rw [<-HW3.out];clear HW3 cw2 zw2
 gi_wp2
 refine ⟨trivial,fun h=>(by cases h),HC.out.mono ?_⟩;rintro e W5 (⟨rfl,D5,hj5,hb5,hf5,hd5⟩ | ⟨rfl,hx5⟩)
 ·rw [wE.out] at hj5
  gi_wp2
  go_end0;exact ⟨⟨_,rfl⟩,.inl ⟨D5,hj5⟩⟩
 ·gi_wp2
  go_end0;exact ⟨⟨_,rfl⟩,.inr hx5⟩
theorem RV (h : Nd) (o1 : Option Addr) (l1 c1 : Nat) (o2 : Option Addr) (l2 c2 : Nat) (w : World) :
    Calls Tryz.prog 50 #[bI h o1 l1 c1 o2 l2 c2] w fun e w'=>e=.returned (.func (.func 83) #[] #[.pointer (some ⟨w.heap.size,0,none⟩)])/\w'=w.alloc (.cells (cells9 h o1 l1 c1 o2 l2 c2) 29):=by
 unfold bI;go_enter Tryz.func50,Tryz.ntmps50;go_wp2_with fail;go_ret;exact ⟨rfl,rfl⟩
end
section
open Go.ChangeShapes Go.WideShapes Go.ChangeAt Go.RowKit
theorem At.YU {w:World}:∀ (f:Fo) (b off:Nat),At w b off f->AtIn (fun k=>k < w.heap.size) w b off f
 | .nil,_,_,_=>trivial
 | .cons k n ps r,b,off,h=>by
  obtain ⟨h1,h2,⟨o,l,c,h3,h4,h5,h6⟩,h7⟩:=h;refine ⟨World.block_lt_of_cell? w _ h1,h1,h2,⟨o,l,c,h3,h4,h5,fun hl=>?_⟩,At.YU r b (off+3) h7⟩;obtain ⟨b',off',ho,ha⟩:=h6 hl;exact ⟨b',off',ho,At.YU ps b' off' ha⟩
theorem kT.aaP {w:World} {o:Option Addr} {len:Nat} {f:Fo} (h:kT w o len f):aB (fun k=>k < w.heap.size) w o len f:=by
 refine ⟨h.1,h.2.1,fun hl=>?_⟩;obtain ⟨b,off,ho,ha⟩:=h.2.2 hl;exact ⟨b,off,ho,ha.YU⟩
def Gh (h:Nd):Prop:=h.nm.size<=maxLen/\sQ h.tn/\Wx h.tp/\sQ h.n
section
variable {H:Type} {enc:TypeId × Value->H} {P:Program} {w:World} {base:Nat} {spare:Nat->Bool} {held:Bool}
abbrev Low (w:World):Nat->Prop:=fun k=>k < w.heap.size
theorem xH {b off len : Nat} (hb : Low w b) (one : ∀ i, i < len -> ∃ hd ps o1 l1 c1 o2 l2 c2, dJ w b (off + i * 9) hd o1 l1 c1 o2 l2 c2 /\ aB (Low w) w o1 l1 hd.tp /\ bD (Low w) w o2 l2 ps /\ Gh hd /\ allT Gh ps) :
    ∀ m s,s+m=len->∃ f:To,f.length=m/\J9 (Low w) w b (off+s*9) f/\allT Gh f
 | 0,s,_=>⟨.nil,rfl,trivial,trivial⟩
 | m+1,s,h=>by
  obtain ⟨hd,ps,o1,l1,c1,o2,l2,c2,hc,hs1,hs2,hw,hwp⟩:=one s (by omega);obtain ⟨r,hr,ha,hwr⟩:=xH hb one m (s+1) (by omega);refine ⟨.cons hd ps r,by simp [To.length,hr],⟨hb,⟨o1,l1,c1,o2,l2,c2,hc,hs1,hs2.1,hs2.2.1,hs2.2.2⟩,?_⟩,hw,hwp,hwr⟩;rw [show off+s*9+9=off+(s+1)*9 from by omega];exact ha
theorem Np {te : TypeId} {f0 f1 f2 f3 f4 f5 g0 g1 q0 q1 q2 : Field} (he : P.underlying te = some (.struct #[f0, f1, f2, f3, f4, f5])) (ce : P.cellsOf te = 9)
    (o0:f0.offset=0) (o1:f1.offset=1) (o2:f2.offset=2) (o3:f3.offset=3) (o4:f4.offset=6) (o5:f5.offset=7)
    (c0:P.cellsOf f0.type=1) (c1:P.cellsOf f1.type=1) (c2:P.cellsOf f2.type=1) (c3:P.cellsOf f3.type=3) (c4:P.cellsOf f4.type=1) (c5:P.cellsOf f5.type=2)
    (k0:P.underlying f0.type=some (.int .i64)) (k1:P.underlying f1.type=some .string) (k2:P.underlying f2.type=some (.int .i64))
    (k5:P.underlying f5.type=some (.struct #[g0,g1])) (p0:g0.offset=0) (p1:g1.offset=1) (d0:P.cellsOf g0.type=1) (d1:P.cellsOf g1.type=1) (m0:P.underlying g0.type=some (.int .i64)) (m1:P.underlying g1.type=some (.int .i64))
    (k3:P.underlying f3.type=some (.struct #[q0,q1,q2])) (v0:q0.offset=0) (v1:q1.offset=1) (v2:q2.offset=2) (x0:P.cellsOf q0.type=1) (x1:P.cellsOf q1.type=1) (x2:P.cellsOf q2.type=1) (y0:P.underlying q0.type=some (.int .i64)) (y1:P.underlying q1.type=some (.int .i64)) (y2:P.underlying q2.type=some (.slice f3.type))
    {n:Nat} (ih:∀ m,m < n->∀ cs x,DataW.trod enc P w base spare held m f4.type cs=some x->∃ o len cap f,cs=[.slice o len cap]/\bD (Low w) w o len f/\allT Gh f)
    {cs:List Value} {x:DataW H × List MemPlace} (h:DataW.trod enc P w base spare held n te cs=some x) :
    ∃ hd ps o1 l1 c1 o2 l2 c2,cs=(cells9 hd o1 l1 c1 o2 l2 c2).toList/\aB (Low w) w o1 l1 hd.tp/\bD (Low w) w o2 l2 ps/\Gh hd/\allT Gh ps:=by
 obtain ⟨xs,n',hn',_,hcl,hxl,hfx⟩:=DataW.trod_struct he h;rw [ce] at hcl
 match cs,hcl with
 | [u0,u1,u2,u3,u4,u5,u6,u7,u8],_ =>
  have OI:xs.length=6:=by simpa using hxl
  have s0:=hfx 0 f0 rfl;have s1:=hfx 1 f1 rfl;have s2:=hfx 2 f2 rfl;have s3:=hfx 3 f3 rfl;have s4:=hfx 4 f4 rfl;have s5:=hfx 5 f5 rfl;rw [c0,o0,show xs[0]?=some (xs[0]'(by omega)) from by simp [OI]] at s0;rw [c1,o1,show xs[1]?=some (xs[1]'(by omega)) from by simp [OI]] at s1;rw [c2,o2,show xs[2]?=some (xs[2]'(by omega)) from by simp [OI]] at s2;rw [c3,o3,show xs[3]?=some (xs[3]'(by omega)) from by simp [OI]] at s3;rw [c4,o4,show xs[4]?=some (xs[4]'(by omega)) from by simp [OI]] at s4;rw [c5,o5,show xs[5]?=some (xs[5]'(by omega)) from by simp [OI]] at s5;obtain ⟨z0,hz0,_,hw0⟩:=DataW.trod_int k0 s0;obtain ⟨z1,hz1,_,hw1⟩:=DataW.trod_string k1 s1;obtain ⟨z2,hz2,_,hw2⟩:=DataW.trod_int k2 s2;obtain ⟨tk,tn,tO,tl,tc,tf,hz3,hts,hwt,hwf⟩:=RQ k3 c3 v0 v1 v2 x0 x1 x2 y0 y1 y2 s3;obtain ⟨o,l,c,ps,KH,hps,hwp⟩:=ih n' (by omega) _ _ s4;obtain ⟨ys,n2,hn2,_,hyc,hyl,hgy⟩:=DataW.trod_struct k5 s5;have aaQ:ys.length=2:=by simpa using hyl
  have t0:=hgy 0 g0 rfl;have t1:=hgy 1 g1 rfl;rw [d0,p0,show ys[0]?=some (ys[0]'(by omega)) from by simp [aaQ]] at t0;rw [d1,p1,show ys[1]?=some (ys[1]'(by omega)) from by simp [aaQ]] at t1;obtain ⟨z7,hz7,_,_⟩:=DataW.trod_int m0 t0;obtain ⟨z8,hz8,_,_⟩:=DataW.trod_int m1 t1;simp at hz0 hz1 hz2 hz3 KH hz7 hz8;obtain ⟨hz3,acz,aaR⟩:=hz3;refine ⟨⟨z0,z1,z2,tk,tn,tf,z7,z8⟩,ps,tO,tl,tc,o,l,c,?_,hts.aaP,hps,⟨hw1,hwt,hwf,hw2⟩,hwp⟩;subst hz0 hz1 hz2 hz3 acz aaR KH hz7 hz8;rfl
theorem Iw {te : TypeId} {f0 f1 f2 f3 f4 f5 g0 g1 q0 q1 q2 : Field} (he : P.underlying te = some (.struct #[f0, f1, f2, f3, f4, f5])) (ce : P.cellsOf te = 9)
    (o0:f0.offset=0) (o1:f1.offset=1) (o2:f2.offset=2) (o3:f3.offset=3) (o4:f4.offset=6) (o5:f5.offset=7)
    (c0:P.cellsOf f0.type=1) (c1:P.cellsOf f1.type=1) (c2:P.cellsOf f2.type=1) (c3:P.cellsOf f3.type=3) (c4:P.cellsOf f4.type=1) (c5:P.cellsOf f5.type=2)
    (k0:P.underlying f0.type=some (.int .i64)) (k1:P.underlying f1.type=some .string) (k2:P.underlying f2.type=some (.int .i64)) (k4:P.underlying f4.type=some (.slice te))
    (k5:P.underlying f5.type=some (.struct #[g0,g1])) (p0:g0.offset=0) (p1:g1.offset=1) (d0:P.cellsOf g0.type=1) (d1:P.cellsOf g1.type=1) (m0:P.underlying g0.type=some (.int .i64)) (m1:P.underlying g1.type=some (.int .i64))
    (k3:P.underlying f3.type=some (.struct #[q0,q1,q2])) (v0:q0.offset=0) (v1:q1.offset=1) (v2:q2.offset=2) (x0:P.cellsOf q0.type=1) (x1:P.cellsOf q1.type=1) (x2:P.cellsOf q2.type=1) (y0:P.underlying q0.type=some (.int .i64)) (y1:P.underlying q1.type=some (.int .i64)) (y2:P.underlying q2.type=some (.slice f3.type)) :
    ∀ (fuel:Nat) (cs:List Value) (x:DataW H × List MemPlace),DataW.trod enc P w base spare held fuel f4.type cs=some x->∃ o len cap f,cs=[.slice o len cap]/\bD (Low w) w o len f/\allT Gh f:=by
 intro fuel
 induction fuel using Nat.strongRecOn with
 | _ fuel ih =>
 intro cs x h;rcases DataW.trod_slice k4 h with ⟨rfl,_⟩ | ⟨a,len,cap,elems,rest,n,hfu,rfl,_,_,hl,hm,hlen,hel,_⟩
 ·exact ⟨_,_,_,.nil,rfl,bD.nil _ _ _,trivial⟩
 ·have one : ∀ i, i < len -> ∃ hd ps o1 l1 c1 o2 l2 c2, (∀ j, j < 9 -> w.cell? (a.add (i * 9 + j)) = (cells9 hd o1 l1 c1 o2 l2 c2).toList[j]?) /\ aB (Low w) w o1 l1 hd.tp /\ bD (Low w) w o2 l2 ps /\ Gh hd /\ allT Gh ps := by
    intro i hi;have h1:=hel i hi;rw [List.getElem?_eq_getElem (by omega)] at h1;obtain ⟨cs',h2,h3⟩:=Option.bind_eq_some_iff.1 h1;rw [ce] at h2;obtain ⟨_,hcl,hcell⟩:=World.cells?_some h2;obtain ⟨hd,ps,r1,l1,e1,r2,l2,e2,rfl,hs1,hs2,hw,hwp⟩:=Np he ce o0 o1 o2 o3 o4 o5 c0 c1 c2 c3 c4 c5 k0 k1 k2 k5 p0 p1 d0 d1 m0 m1 k3 v0 v1 v2 x0 x1 x2 y0 y1 y2 (fun m hm cs x=>ih m (by omega) cs x) h3;refine ⟨hd,ps,r1,l1,e1,r2,l2,e2,?_,hs1,hs2,hw,hwp⟩;intro j hj;rw [<-Deep.add_add];exact hcell j hj
  by_cases h0:len=0
  ·subst h0;exact ⟨_,_,_,.nil,rfl,bD.nil _ _ _,trivial⟩
  ·obtain ⟨hd,ps,r1,l1,e1,r2,l2,e2,h1,_⟩:=one 0 (by omega);have h1':=h1 0 (by omega);rw [Nat.zero_mul] at h1';obtain ⟨b,off,rfl⟩:=ER (v:=.int .i64 hd.k) h1';have hb:Low w b:=World.block_lt_of_cell? w (⟨b,off+0,none⟩:Addr) (show w.cell? ⟨b,off+0,none⟩=some (.int .i64 hd.k) from h1');obtain ⟨f,hf,hA,hwf⟩:=xH (b:=b) (off:=off) (len:=len) (w:=w) hb (fun i hi=>by
    obtain ⟨hd,ps,r1,l1,e1,r2,l2,e2,h1,h4⟩:=one i hi;refine ⟨hd,ps,r1,l1,e1,r2,l2,e2,?_,h4⟩;have g:=fun j hj=>h1 j hj
    simp only [Addr.add_lit] at g;exact ⟨g 0 (by omega),g 1 (by omega),g 2 (by omega),g 3 (by omega),g 4 (by omega),g 5 (by omega),g 6 (by omega),g 7 (by omega),g 8 (by omega)⟩) len 0 (by omega)
   rw [Nat.zero_mul,Nat.add_zero] at hA;exact ⟨_,_,_,f,rfl,⟨hf.symm,by omega,fun _=>⟨b,off,rfl,hA⟩⟩,hwf⟩
end
section
variable {H:Type} {enc:TypeId × Value->H} {w:World} {base:Nat} {spare:Nat->Bool} {held:Bool}
theorem OJ {v:Value} {d:DataW H} {p:List MemPlace} (hv:∃ cs,v=.agg cs/\cs.size=Tryz.prog.cellsOf 29) (h:DataW.Trod enc Tryz.prog w base spare held 29 v d p):∃ hd ps o1 l1 c1 o2 l2 c2,v=bI hd o1 l1 c1 o2 l2 c2/\aB (Low w) w o1 l1 hd.tp/\bD (Low w) w o2 l2 ps/\Gh hd/\allT Gh ps:=by
 obtain ⟨cs,rfl,_⟩:=hv;obtain ⟨fuel,hf⟩:=h;obtain ⟨hd,ps,o1,l1,c1,o2,l2,c2,he,h1,h2,h3,h4⟩:=Np Tryz.underlying29 (by kernel_rfl) rfl rfl rfl rfl rfl rfl (by kernel_rfl) (by kernel_rfl) (by kernel_rfl) (by kernel_rfl) (by kernel_rfl) (by kernel_rfl) Tryz.underlying3 Tryz.underlying9 Tryz.underlying3 Tryz.underlying27 rfl rfl (by kernel_rfl) (by kernel_rfl) Tryz.underlying3 Tryz.underlying3 Tryz.underlying24 rfl rfl rfl (by kernel_rfl) (by kernel_rfl) (by kernel_rfl) Tryz.underlying3 Tryz.underlying3 Tryz.underlying22
  (fun m _ cs x hh=>Iw Tryz.underlying29 (by kernel_rfl) rfl rfl rfl rfl rfl rfl (by kernel_rfl) (by kernel_rfl) (by kernel_rfl) (by kernel_rfl) (by kernel_rfl) (by kernel_rfl) Tryz.underlying3 Tryz.underlying9 Tryz.underlying3 Tryz.underlying25 Tryz.underlying27 rfl rfl (by kernel_rfl) (by kernel_rfl) Tryz.underlying3 Tryz.underlying3 Tryz.underlying24 rfl rfl rfl (by kernel_rfl) (by kernel_rfl) (by kernel_rfl) Tryz.underlying3 Tryz.underlying3 Tryz.underlying22 m cs x hh) hf
 refine ⟨hd,ps,o1,l1,c1,o2,l2,c2,?_,h1,h2,h3,h4⟩;unfold bI
 congr 1
 apply Array.toList_inj.1;simpa [Value.cells] using he
end
end
section
open Go.ChangeShapes Go.WideShapes Go.ChangeAt Go.RowKit
def ES:Nat:=48
def Iy:List (String × DataW Unit):=[("unicode.White_Space",Rows.laid_unicode_White_Space),("strings.asciiSpace",Rows.laid_strings_asciiSpace)]
theorem KI:(Rows.laid_strings_asciiSpace:DataW Unit)=Lib.tabData .u8 Lib.asciiSpaceTab:=by rfl
theorem door_met (os:Os) (args:Array Value):laidMetH Tryz.prog Iy ((World.doorLaid Tryz.prog ES os).forCall (fun _ _=>0) ⟨#[],args,[]⟩).memory :=
 laidMetH_of_parts3 (fuel:=8) (laidMet_of_run' 8 (by kernel_rfl) (by kernel_rfl)) (by kernel_rfl) (by kernel_rfl)
theorem Bg {W:World} (h:laidMetH Tryz.prog Iy W):Lx.mJ W:=by
 rw [MakeChecks.laidMetH_plain _ _ _ (by kernel_rfl)] at h;have h2:=laidMet.tail h;rw [KI] at h2;exact Lib.tabIs_of_head (g:=0) (n:=256) (by kernel_rfl) (by kernel_rfl) (t:=163) (e:=5) Tryz.underlying163 Tryz.underlying5 (by kernel_rfl) (by kernel_rfl) h2
end
end Go.Proofs.YtcninopmelmajaaGreatDoor
