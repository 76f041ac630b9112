/-
  Texts laid together (TeMem, Blk, ScNm, ScIdx, TySame, TyRight, TyRight2): laws and walks, with their conditions.
-/
import Derived.Deep.DeepCutAuto
import Derived.Deep.RegionHeld3
import Derived.Deep.AppendLies
import Derived.ArgAppend
import Derived.Deep.RegionLawGrows
import Derived.Shelf.Abstract
import Derived.Test.YtcninopmelmajaaGreatDoorCC2
set_option maxHeartbeats 8000000
set_option maxRecDepth 1000000
namespace Go.Proofs.YtcninopmelmajaaGreatDoor
open Go.Lib (hid)
section
open Go.RowKit
def bC (h:Nd) (o1:Option Addr) (l1 c1:Nat) (o2:Option Addr) (l2 c2:Nat):Value :=
 .agg #[.int .i64 h.k,.string h.nm,.int .i64 h.n,.int .i64 h.tk,.int .i64 h.tn,.slice o1 l1 c1,.slice o2 l2 c2,.int .i64 h.fr,.int .i64 h.en]
def bF (w:World) (b off:Nat) (h:Nd) (o1:Option Addr) (l1 c1:Nat) (o2:Option Addr) (l2 c2:Nat):Prop :=
 w.cell? ⟨b,off,none⟩=some (.int .i64 h.k)/\w.cell? ⟨b,off+1,none⟩=some (.string h.nm)/\w.cell? ⟨b,off+2,none⟩=some (.int .i64 h.n) /\
 w.cell? ⟨b,off+3,none⟩=some (.int .i64 h.tk)/\w.cell? ⟨b,off+4,none⟩=some (.int .i64 h.tn)/\w.cell? ⟨b,off+5,none⟩=some (.slice o1 l1 c1) /\
 w.cell? ⟨b,off+6,none⟩=some (.slice o2 l2 c2)/\w.cell? ⟨b,off+7,none⟩=some (.int .i64 h.fr)/\w.cell? ⟨b,off+8,none⟩=some (.int .i64 h.en)
theorem bF.fr {S:Nat->Prop} {w w':World} {b off:Nat} {h:Nd} {o1:Option Addr} {l1 c1:Nat} {o2:Option Addr} {l2 c2:Nat} (hc:bF w b off h o1 l1 c1 o2 l2 c2) (hf:Fr S w w') (hs:¬ S b):bF w' b off h o1 l1 c1 o2 l2 c2:=by
 obtain ⟨h0,h1,h2,h3,h4,h5,h6,h7,h8⟩:=hc
 have hb:=World.block_lt_of_cell? w _ h0
 exact ⟨(hf.bG hb hs).trans h0,(hf.bG hb hs).trans h1,(hf.bG hb hs).trans h2,(hf.bG hb hs).trans h3,(hf.bG hb hs).trans h4,(hf.bG hb hs).trans h5,(hf.bG hb hs).trans h6,(hf.bG hb hs).trans h7,(hf.bG hb hs).trans h8⟩
theorem bF.lt {w:World} {b off:Nat} {h:Nd} {o1:Option Addr} {l1 c1:Nat} {o2:Option Addr} {l2 c2:Nat} (hc:bF w b off h o1 l1 c1 o2 l2 c2):b < w.heap.size:=World.block_lt_of_cell? w _ hc.1
def JB (R:Nat->Prop) (w:World):Nat->Nat->To->Prop
 | _,_,.nil=>True
 | b,off,.cons h ps r=>R b/\(∃ o1 l1 c1 o2 l2 c2,bF w b off h o1 l1 c1 o2 l2 c2/\aC R w o1 l1 h.tp/\l2=ps.length/\l2<=maxLen/\(0 < l2->∃ b' off',o2=some ⟨b',off',none⟩/\JB R w b' off' ps))/\JB R w b (off+9) r
def aY (R:Nat->Prop) (w:World) (o:Option Addr) (len:Nat) (f:To):Prop:=len=f.length/\len<=maxLen/\(0 < len->∃ b off,o=some ⟨b,off,none⟩/\JB R w b off f)
theorem aY.nil (R:Nat->Prop) (w:World) (o:Option Addr):aY R w o 0 .nil:=⟨rfl,Nat.zero_le _,fun h=>absurd h (Nat.lt_irrefl _)⟩
theorem JB.fr {R T S:Nat->Prop} {w w':World} (hf:Fr S w w') (hR:∀ k,k < w.heap.size->R k->T k/\¬ S k):∀ (f:To) (b off:Nat),JB R w b off f->JB T w' b off f
 | .nil,_,_,_=>trivial
 | .cons h ps r,b,off,ht=>by
  obtain ⟨h0,⟨o1,l1,c1,o2,l2,c2,hc,hs,h4,h4',h5⟩,h6⟩:=ht
  obtain ⟨hT,hS⟩:=hR b hc.lt h0
  refine ⟨hT,⟨o1,l1,c1,o2,l2,c2,hc.fr hf hS,hs.fr hf hR,h4,h4',fun hl=>?_⟩,JB.fr hf hR r b (off+9) h6⟩
  obtain ⟨b',off',ho,ha⟩:=h5 hl
  exact ⟨b',off',ho,JB.fr hf hR ps b' off' ha⟩
theorem aY.fr {R T S:Nat->Prop} {w w':World} {o:Option Addr} {len:Nat} {f:To} (h:aY R w o len f) (hf:Fr S w w') (hR:∀ k,k < w.heap.size->R k->T k/\¬ S k):aY T w' o len f:=by
 refine ⟨h.1,h.2.1,fun hl=>?_⟩
 obtain ⟨b,off,ho,ha⟩:=h.2.2 hl
 exact ⟨b,off,ho,JB.fr hf hR f b off ha⟩
theorem aY.stay {R:Nat->Prop} {w w':World} {o:Option Addr} {len:Nat} {f:To} (h:aY R w o len f) (hq:ah w w'):aY R w' o len f:=h.fr hq (fun _ _ hk=>⟨hk,fun h=>h⟩)
theorem aC.stay {R:Nat->Prop} {w w':World} {o:Option Addr} {len:Nat} {f:Fo} (h:aC R w o len f) (hq:ah w w'):aC R w' o len f:=h.fr hq (fun _ _ hk=>⟨hk,fun h=>h⟩)
theorem aC.mono {R T:Nat->Prop} {w:World} {o:Option Addr} {len:Nat} {f:Fo} (h:aC R w o len f) (hk:∀ k,k < w.heap.size->R k->T k):aC T w o len f:=h.fr (Fr.refl (fun _=>False) w) (fun k hl hr=>⟨hk k hl hr,fun h=>h⟩)
theorem aY.mono {R T:Nat->Prop} {w:World} {o:Option Addr} {len:Nat} {f:To} (h:aY R w o len f) (hk:∀ k,k < w.heap.size->R k->T k):aY T w o len f:=h.fr (Fr.refl (fun _=>False) w) (fun k hl hr=>⟨hk k hl hr,fun h=>h⟩)
theorem JB.nth {R : Nat -> Prop} {w : World} : ∀ (f : To) (b off i : Nat), JB R w b off f -> i < f.length -> ∃ h ps o1 l1 c1 o2 l2 c2, f.drop i = .cons h ps (f.drop (i + 1)) /\ f.get i = some (h, ps) /\ R b /\
    bF w b (off+i * 9) h o1 l1 c1 o2 l2 c2/\aC R w o1 l1 h.tp/\aY R w o2 l2 ps
 | .nil,_,_,_,_,h=>by simp [To.length] at h
 | .cons h ps r,b,off,0,ht,_=>by
  obtain ⟨h0,⟨o1,l1,c1,o2,l2,c2,hc,hs,h4,h4',h5⟩,h6⟩:=ht
  exact ⟨h,ps,o1,l1,c1,o2,l2,c2,by simp [To.drop,To.drop_zero],rfl,h0,by simpa using hc,hs,h4,h4',h5⟩
 | .cons h ps r,b,off,i+1,ht,hi=>by
  obtain ⟨_,_,h6⟩:=ht
  obtain ⟨h',ps',o1,l1,c1,o2,l2,c2,e1,e2,hb,hc,hs⟩:=JB.nth r b (off+9) i h6 (by simp [To.length] at hi;omega)
  refine ⟨h',ps',o1,l1,c1,o2,l2,c2,by simp only [To.drop];rw [e1],e2,hb,?_,hs⟩
  rw [show off+(i+1) * 9=off+9+i * 9 from by omega];exact hc
theorem aY.nth {R : Nat -> Prop} {w : World} {o : Option Addr} {len : Nat} {f : To} (h : aY R w o len f) {i : Nat} (hi : i < len) : ∃ b off hd ps o1 l1 c1 o2 l2 c2, o = some ⟨b, off, none⟩ /\ f.drop i = .cons hd ps (f.drop (i + 1)) /\ f.get i = some (hd, ps) /\ R b /\
    bF w b (off+i * 9) hd o1 l1 c1 o2 l2 c2/\aC R w o1 l1 hd.tp/\aY R w o2 l2 ps:=by
 obtain ⟨b,off,rfl,ha⟩:=h.2.2 (by omega)
 obtain ⟨hd,ps,o1,l1,c1,o2,l2,c2,h1⟩:=JB.nth f b off i ha (by have:=h.1;omega)
 exact ⟨b,off,hd,ps,o1,l1,c1,o2,l2,c2,rfl,h1⟩
abbrev cells9 (h:Nd) (o1:Option Addr) (l1 c1:Nat) (o2:Option Addr) (l2 c2:Nat):Array Value :=
 #[.int .i64 h.k,.string h.nm,.int .i64 h.n,.int .i64 h.tk,.int .i64 h.tn,.slice o1 l1 c1,.slice o2 l2 c2,.int .i64 h.fr,.int .i64 h.en]
theorem aA {w:World} {B:Nat} {h:Nd} {o1:Option Addr} {l1 c1:Nat} {o2:Option Addr} {l2 c2:Nat} {t:TypeId} {z:Nat × Nat} (hb:w.heap[B]?=some (.cells (cells9 h o1 l1 c1 o2 l2 c2) t z)):bF w B 0 h o1 l1 c1 o2 l2 c2:=by
 refine ⟨?_,?_,?_,?_,?_,?_,?_,?_,?_⟩<;>(rw [cell_of_row _ _ _ _ _ z hb];rfl)
theorem ig (w:World) (h:Nd) (o1:Option Addr) (l1 c1:Nat) (o2:Option Addr) (l2 c2:Nat) (t:TypeId):bF (w.alloc (.cells (cells9 h o1 l1 c1 o2 l2 c2) t)) w.heap.size 0 h o1 l1 c1 o2 l2 c2:=aA (heap_alloc_new w _)
def ku (R:Nat->Prop) (w:World):List Value->To->Prop
 | xs,.nil=>xs=[]
 | xs,.cons h ps r=>∃ o1 l1 c1 o2 l2 c2 ys,xs=(cells9 h o1 l1 c1 o2 l2 c2).toList++ys/\aC R w o1 l1 h.tp/\aY R w o2 l2 ps/\ku R w ys r
theorem ku.fr {R T S:Nat->Prop} {w w':World} (hf:Fr S w w') (hR:∀ k,k < w.heap.size->R k->T k/\¬ S k):∀ (f:To) (xs:List Value),ku R w xs f->ku T w' xs f
 | .nil,_,h=>h
 | .cons h ps r,xs,ht=>by
  obtain ⟨o1,l1,c1,o2,l2,c2,ys,rfl,hs,ht,hr⟩:=ht
  exact ⟨o1,l1,c1,o2,l2,c2,ys,rfl,hs.fr hf hR,ht.fr hf hR,ku.fr hf hR r ys hr⟩
theorem ku.snoc {R:Nat->Prop} {w:World} {h:Nd} {ps:To} {o1:Option Addr} {l1 c1:Nat} {o2:Option Addr} {l2 c2:Nat} (hs:aC R w o1 l1 h.tp) (ht:aY R w o2 l2 ps):∀ (f:To) (xs:List Value),ku R w xs f->ku R w (xs++(cells9 h o1 l1 c1 o2 l2 c2).toList) (f.app (.cons h ps .nil))
 | .nil,xs,e=>by
  cases e
  exact ⟨o1,l1,c1,o2,l2,c2,[],by simp,hs,ht,rfl⟩
 | .cons h' ps' r,xs,e=>by
  obtain ⟨p1,m1,d1,p2,m2,d2,ys,rfl,hs',ht',hr⟩:=e
  exact ⟨p1,m1,d1,p2,m2,d2,_,by rw [List.append_assoc],hs',ht',ku.snoc hs ht r ys hr⟩
theorem ku.at {R:Nat->Prop} {w:World} {g:Nat} (hg:R g):∀ (f:To) (xs:List Value) (off:Nat),ku R w xs f->(∀ j u,xs[j]?=some u->w.cell? ⟨g,off+j,none⟩=some u)->JB R w g off f
 | .nil,_,_,_,_=>trivial
 | .cons h ps r,xs,off,e,hc=>by
  obtain ⟨o1,l1,c1,o2,l2,c2,ys,rfl,hs,ht,hr⟩:=e
  refine ⟨hg,⟨o1,l1,c1,o2,l2,c2,⟨hc 0 _ rfl,hc 1 _ rfl,hc 2 _ rfl,hc 3 _ rfl,hc 4 _ rfl,hc 5 _ rfl,hc 6 _ rfl,hc 7 _ rfl,hc 8 _ rfl⟩,hs,ht.1,ht.2.1,ht.2.2⟩,ku.at hg r ys (off+9) hr ?_⟩
  intro j u hj
  have:=hc (j+9) u (by simpa using hj)
  rw [<-this];congr 2;omega
structure lU (w:World) (B:Nat) (v:Value) (f:To) (xs:List Value):Prop where
 own:w.ownsRow 0 29 9 v f.length xs
 low:∀ k,v.ownBlock=some k->B<=k
 cells:ku (fun k=>B<=k/\v.ownBlock≠some k) w xs f
theorem lU.nil (w:World) (B:Nat):lU w B (.slice none 0 0) .nil []:=⟨World.ownsRow_nil _ _ _ _,fun k hk=>(by cases hk),rfl⟩
theorem lU.fr {w w':World} {B:Nat} {v:Value} {f:To} {xs:List Value} {S:Nat->Prop} (h:lU w B v f xs) (hf:Fr S w w') (hS:∀ k,S k->k < B):lU w' B v f xs:=by
 refine ⟨aZ h.own hf (fun k hk hs=>?_),h.low,ku.fr hf (fun k _ hk=>⟨hk,fun hs=>?_⟩) f xs h.cells⟩
 ·have:=h.low k hk;have:=hS k hs;omega
 ·have:=hS k hs;omega
theorem lU.stay {w w':World} {B:Nat} {v:Value} {f:To} {xs:List Value} (h:lU w B v f xs) (hf:ah w w'):lU w' B v f xs:=h.fr hf (fun _ hk=>hk.elim)
theorem lU.snoc {W w1 : World} {B : Nat} {v : Value} {f : To} {xs : List Value} {h : Nd} {ps : To} {o1 : Option Addr} {l1 c1 : Nat} {o2 : Option Addr} {l2 c2 g c : Nat} (hr : lU W B v f xs)
    (hs:aC (fun k=>B<=k/\v.ownBlock≠some k) W o1 l1 h.tp) (ht:aY (fun k=>B<=k/\v.ownBlock≠some k) W o2 l2 ps)
    (ho:w1.ownsRow 0 29 9 (.slice (some ⟨g,0,none⟩) (f.length+1) c) (f.length+1) (xs++(cells9 h o1 l1 c1 o2 l2 c2).toList)) (hf:Fr (fun k=>v.ownBlock=some k) W w1) (hg:v.ownBlock=some g∨W.heap.size<=g) (hB:B<=W.heap.size) :
    lU w1 B (.slice (some ⟨g,0,none⟩) (f.length+1) c) (f.app (.cons h ps .nil)) (xs++(cells9 h o1 l1 c1 o2 l2 c2).toList):=by
 refine ⟨by rw [To.bP];exact ho,?_,?_⟩
 ·intro k hk
  simp [Value.ownBlock] at hk
  subst hk
  rcases hg with h | h
  ·exact hr.low g h
  ·omega
 ·have hk : ∀ k, k < W.heap.size -> (B <= k /\ v.ownBlock ≠ some k) -> ((B <= k /\ (Value.slice (some ⟨g, 0, none⟩) (f.length + 1) c).ownBlock ≠ some k) /\ ¬ v.ownBlock = some k) := by
    rintro k hk ⟨h1,h2⟩
    refine ⟨⟨h1,fun h=>?_⟩,h2⟩
    simp [Value.ownBlock] at h
    subst h
    rcases hg with h | h
    ·exact h2 h
    ·omega
  exact ku.snoc (hs.fr hf hk) (ht.fr hf hk) f xs (ku.fr hf hk f xs hr.cells)
theorem lU.slc {w:World} {B:Nat} {o:Option Addr} {len cap:Nat} {f:To} {xs:List Value} (h:lU w B (.slice o len cap) f xs) (hl:len=f.length) (hm:len<=maxLen):aY (fun k=>B<=k) w o len f:=by
 refine ⟨hl,hm,fun h0=>?_⟩
 rcases h.own.2 with ⟨_,h2⟩ | ⟨g,cap',cur,he,_⟩
 ·omega
 ·injection he with h1 h2 h3
  subst h1
  refine ⟨g,0,rfl,ku.at (h.low g rfl) f xs 0 (ku.fr (Fr.refl (fun _=>False) w) (fun k _ hk=>⟨hk.1,fun h=>h⟩) f xs h.cells) ?_⟩
  intro j u hj
  have:=h.own.cells (g:=g) rfl j u hj
  simpa [Addr.add_lit] using this
theorem vU:Elem Tryz.prog 25 29 (.agg #[.int .i64 0,.string ⟨#[]⟩,.int .i64 0,.int .i64 0,.int .i64 0,.slice none 0 0,.slice none 0 0,.int .i64 0,.int .i64 0]) 9 112 :=
 ⟨Tryz.underlying25,by kernel_rfl,by decide,by decide⟩
end
section
open Go.RowKit
theorem jd {w0 W w3:World} {G:Prop} (h:ah w0 W) (hq:ah W w3) (k:ah w0 w3->G):G:=k (h.trans hq)
theorem dM (w:World) (b:Nat) (cs:Array Value) (t:TypeId) (h:b=w.heap.size):(w.alloc (.cells cs t)).heap[b]?=some (.cells cs t (0,0)):=by
 subst h;exact heap_alloc_new w _
theorem ak {w W:World} {b:Nat} {o:Obj} (hq:ah w W) (h:w.heap[b]?=some o):W.heap[b]?=some o:=by
 have hlt:b < w.heap.size:=(Array.getElem?_eq_some_iff.1 h).1
 rw [hq.block b hlt (fun h=>h)];exact h
theorem bT {w:World} {b:Nat} {o:Obj} (h:w.heap[b]?=some o):w.drew.heap[b]?=some o:=h
theorem ah.fr {S:Nat->Prop} {w w':World} (h:ah w w'):Fr S w w':=h.mono (fun _ _ h=>h.elim)
theorem Uz {S:Nat->Prop} {w0 W w3:World} {G:Prop} (h:Fr S w0 W) (hq:ah W w3) (k:Fr S w0 w3->G):G:=k (h.trans hq.fr)
theorem aB {w:World} {b i:Nat} {cs:Array Value} {u:Value} {t:TypeId} {z:Nat × Nat} (h:w.heap[b]?=some (.cells cs t z)):(w.setCell ⟨b,i,none⟩ u).heap[b]?=some (.cells (cs.setIfInBounds i u) t z):=by
 have hlt:=(Array.getElem?_eq_some_iff.1 h).1
 have h':w.heap[b]=.cells cs t z:=by simpa [Array.getElem?_eq_getElem hlt] using h
 show (w.heap.modify b _)[b]?=_
 rw [Array.getElem?_eq_getElem (by simpa using hlt),Array.getElem_modify_self,h']
 rfl
theorem ay {S:Nat->Prop} {w W:World} {b:Nat} {o:Obj} (hf:Fr S w W) (hb:¬ S b) (h:w.heap[b]?=some o):W.heap[b]?=some o:=by
 rw [hf.block b (Array.getElem?_eq_some_iff.1 h).1 hb];exact h
theorem fO {w0 W w3:World} {S:Nat->Prop} {G:Prop} (h:ah w0 W) (hf:Fr S W w3) (hS:∀ k,S k->w0.heap.size<=k) (k:ah w0 w3->w0.heap.size<=w3.heap.size->G):G :=
 have hq:ah w0 w3:=Fr.trans' h hf (fun i hi hs=>by have:=hS i hs;omega)
 k hq hq.size
end
section
open Go.RowKit
namespace Sc
def iE (T:Nat->Prop) (w:World) (o:Option Addr) (n:Nat) (e:List ByteArray):Prop :=
 n=e.length/\n<=maxLen/\(0 < n->∃ b,o=some ⟨b,0,none⟩/\T b/\∀ i s,e.reverse[i]?=some s->w.cell? ⟨b,i,none⟩=some (.string s))
theorem iE.nil (T:Nat->Prop) (w:World) (o:Option Addr):iE T w o 0 []:=⟨rfl,Nat.zero_le _,fun h=>absurd h (Nat.lt_irrefl _)⟩
theorem iE.lt {T:Nat->Prop} {w:World} {b n:Nat} {e:List ByteArray} (h:iE T w (some ⟨b,0,none⟩) n e) (hn:0 < n):b < w.heap.size/\T b:=by
 obtain ⟨b',he,ht,hc⟩:=h.2.2 hn
 injection he with he;injection he with he
 subst he
 have hl:0 < e.reverse.length:=by simp;have:=h.1;omega
 exact ⟨World.block_lt_of_cell? w _ (hc 0 _ (List.getElem?_eq_getElem hl)),ht⟩
theorem iE.fr {T T' S:Nat->Prop} {w w':World} {o:Option Addr} {n:Nat} {e:List ByteArray} (h:iE T w o n e) (hf:Fr S w w') (hT:∀ k,k < w.heap.size->T k->T' k/\¬ S k):iE T' w' o n e:=by
 refine ⟨h.1,h.2.1,fun hn=>?_⟩
 obtain ⟨b,he,ht,hc⟩:=h.2.2 hn
 subst he
 have hl:=(h.lt hn).1
 obtain ⟨h1,h2⟩:=hT b hl ht
 exact ⟨b,rfl,h1,fun i s hi=>(hf.bG hl h2).trans (hc i s hi)⟩
theorem iE.stay {T:Nat->Prop} {w w':World} {o:Option Addr} {n:Nat} {e:List ByteArray} (h:iE T w o n e) (hq:ah w w'):iE T w' o n e:=h.fr hq (fun _ _ hk=>⟨hk,fun h=>h⟩)
theorem iE.at {T:Nat->Prop} {w:World} {o:Option Addr} {n:Nat} {e:List ByteArray} (h:iE T w o n e) {i:Nat} {s:ByteArray} (hi:e[i]?=some s):∃ b,o=some ⟨b,0,none⟩/\w.cell? ⟨b,n - 1 - i,none⟩=some (.string s):=by
 have hl:=(List.getElem?_eq_some_iff.1 hi).1
 obtain ⟨b,he,_,hc⟩:=h.2.2 (by have:=h.1;omega)
 refine ⟨b,he,hc _ s ?_⟩
 rw [List.getElem?_reverse (by have:=h.1;omega),h.1]
 rw [<-hi];congr 1;omega
theorem iE.Gz {T:Nat->Prop} {w:World} {base g n c:Nat} {e:List ByteArray} {s:ByteArray} (ho:w.ownsRow base 9 1 (.slice (some ⟨g,0,none⟩) n c) n (e.reverse.map Value.string++[.string s])) (hn:n=e.length+1) (hm:n<=maxLen) (ht:T g):iE T w (some ⟨g,0,none⟩) n (s::e):=by
 refine ⟨by simpa using hn,hm,fun _=>⟨g,rfl,ht,fun i u hi=>?_⟩⟩
 have hx:(e.reverse.map Value.string++[.string s])[i]?=some (.string u):=by
  have:e.reverse.map Value.string++[Value.string s]=((s::e).reverse).map Value.string:=by simp
  rw [this,List.getElem?_map,hi];rfl
 have:=ho.cells (g:=g) rfl i (.string u) hx
 simpa [Addr.add_lit] using this
theorem mM:Elem Tryz.prog 49 9 (.string ⟨#[]⟩) 1 16 :=
 ⟨Tryz.underlying49,by kernel_rfl,by decide,by decide⟩
theorem iE.none {T:Nat->Prop} {w:World} {n:Nat} {e:List ByteArray} (h:iE T w none n e):n=0:=by
 rcases Nat.eq_zero_or_pos n with h0 | h0
 ·exact h0
 ·obtain ⟨b,he,_⟩:=h.2.2 h0;cases he
theorem Ji {T:Nat->Prop} {w:World} {o:Option Addr} {n:Nat} {e:List ByteArray} (h:iE T w o n e):∀ b,o=some b->∀ j u,(e.reverse.map Value.string)[j]?=some u->w.cell? (b.add j)=some u:=by
 rintro b rfl j u hj
 have hl:=(List.getElem?_eq_some_iff.1 hj).1
 obtain ⟨b',he,_,hc⟩:=h.2.2 (by have:=h.1;simp at hl;omega)
 injection he with he
 subst he
 rw [List.getElem?_map] at hj
 obtain ⟨s,hs,rfl⟩:=Option.map_eq_some_iff.1 hj
 rw [Addr.add_lit,Nat.zero_add]
 exact hc j s hs
theorem NK {e:List ByteArray} {s:ByteArray} {i:Nat} (hn:s ∉ e.take i) (hi:e.length<=i):ix e s=-1:=SV (by rwa [List.take_of_length_le hi] at hn)
theorem NM {e:List ByteArray} {s a:ByteArray} {i:Nat} (hn:s ∉ e.take i) (hi:e[i]?=some a) (ha:a≠s):s ∉ e.take (i+1):=by
 rw [List.take_add_one,hi]
 simp only [Option.toList_some,List.mem_append,List.mem_singleton,not_or]
 exact ⟨hn,fun h=>ha h.symm⟩
theorem str_eq {a s:ByteArray}:(a.toList == s.toList)=true↔a=s:=by
 rw [beq_iff_eq]
 constructor
 ·intro h
  rw [ByteArray.toList_eq,ByteArray.toList_eq] at h
  exact ByteArray.ext (Array.toList_inj.1 h)
 ·intro h;rw [h]
end Sc
end
section
open Go.RowKit
namespace Sc
theorem P6 (k:Int) (i:Nat) (w:World):Calls Tryz.prog 114 #[.int .i64 k,.int .i64 (i:Nat)] w fun e w'=>e=.returned (.bool (iq k i))/\w=w':=by
 unfold iq
 have e1:((i:Int) == 1)=(i == 1):=by rw [Bool.eq_iff_iff,beq_iff_eq,beq_iff_eq];omega
 generalize (i == 1)=r at *
 cases h4:(k == 4)
 ·cases h7:(k == 7)
  ·cases h6:(k == 6)
   ·go_enter Tryz.func114,Tryz.ntmps114
    go_wp2_with fail
    go_ret
    exact ⟨rfl,rfl⟩
   ·go_enter Tryz.func114,Tryz.ntmps114
    go_wp2_with fail
    go_ret
    exact ⟨by simp,rfl⟩
  ·go_enter Tryz.func114,Tryz.ntmps114
   go_wp2_with fail
   go_ret
   exact ⟨rfl,rfl⟩
 ·go_enter Tryz.func114,Tryz.ntmps114
  go_wp2_with fail
  go_ret
  exact ⟨rfl,rfl⟩
theorem UA (o:Option Addr) (n c:Nat) (w:World) (hc:n<=c) (_:o=none->n=0):Calls Tryz.prog 115 #[.slice o n c] w fun e w'=>e=.returned (.slice o n n)/\w=w':=by
 go_enter Tryz.func115,Tryz.ntmps115
 go_wp2_with fail
 go_ret
 exact ⟨rfl,rfl⟩
theorem Fe (T:Nat->Prop) (e:List ByteArray) (s:ByteArray) (o:Option Addr) (n c:Nat) (w:World) (h:iE T w o n e) (hz:n<=1000000):Calls Tryz.prog 94 #[.slice o n c,.string s] w fun x w'=>x=.returned (.int .i64 (ix e s))/\w=w':=by
 have H:=hid h
 have HN:=hid h.1
 clear h
 go_enter Tryz.func94,Tryz.ntmps94
 go_wp2_with fail
 go_loopw [8] (fun t wr=>∃ i:Nat,t=.int .i64 i/\i<=n/\s ∉ e.take i/\w=wr) (fun t _=>n - (intOf t).toNat)
 case atStart=>exact ⟨0,rfl,Nat.zero_le _,by simp,rfl⟩
 case round =>
  obtain ⟨i,rfl,hi,hns,rfl⟩:=hrel
  by_cases hlt:i < n
  ·have hlt':(i:Int) < n:=by omega
   obtain ⟨a,ha⟩:∃ a,e[i]?=some a:=⟨_,List.getElem?_eq_getElem (by have:=HN.out;omega)⟩
   obtain ⟨b,rfl,c0⟩:=H.out.at ha
   have hidx:((n:Int) - 1 - i)=((n - 1 - i:Nat):Int):=by omega
   have hb1:(0:Int)<=(n:Int) - 1 - i:=by omega
   have hb2:(n:Int) - 1 - i < n:=by omega
   have HNS:=hid hns
   have HA:=hid ha
   clear hns ha
   cases hx:(a.toList == s.toList)
   ·go_wp2_with fail
    go_roundw
    case rel=>exact ⟨i+1,by go_num,by omega,NM HNS.out HA.out (fun e=>by rw [str_eq.2 e] at hx;cases hx),trivial⟩
    case measure=>simp [intOf];omega
   ·have HR:Hid (ix e s=i):=MW (by rw [<-str_eq.1 hx];exact HA.out) HNS.out
    go_wp2_with fail
    go_ret
    exact ⟨by first | (rw [HR.out];done) | (rw [HR.out];rfl),rfl⟩
  ·have hlt':¬ (i:Int) < n:=by omega
   have HR:Hid (ix e s=-1):=NK hns (by have:=HN.out;omega)
   clear hns
   go_wp2_with fail
   go_ret
   exact ⟨by first | (rw [HR.out];done) | (rw [HR.out];rfl),rfl⟩
theorem wP (T:Nat->Prop) (e:List ByteArray) (s:ByteArray) (o:Option Addr) (n c:Nat) (w:World) (h:iE T w o n e) (hz:n<=1000000):Calls Tryz.prog 35 #[.slice o n c,.string s] w fun x w'=>x=.returned (.int .i64 (ix e s))/\w=w':=by
 have H:=hid h
 have HN:=hid h.1
 clear h
 go_enter Tryz.func35,Tryz.ntmps35
 go_wp2_with fail
 go_loopw [5] (fun t wr=>∃ (i:Nat) (p:Int),t=.int .i64 p/\p=(n:Int) - 1 - i/\i<=n/\s ∉ e.take i/\w=wr) (fun t _=>(intOf t+1).toNat)
 case atStart=>exact ⟨0,(n:Int) - 1,rfl,by omega,Nat.zero_le _,by simp,rfl⟩
 case round =>
  obtain ⟨i,p,rfl,hp,hi,hns,rfl⟩:=hrel
  by_cases hlt:i < n
  ·have hp0:(0:Int)<=p:=by omega
   have ac6:p≥0:=hp0
   have hpn:p < n:=by omega
   obtain ⟨q,hq⟩:∃ q:Nat,p=q:=⟨p.toNat,by omega⟩
   subst hq
   obtain ⟨a,ha⟩:∃ a,e[i]?=some a:=⟨_,List.getElem?_eq_getElem (by have:=HN.out;omega)⟩
   obtain ⟨b,rfl,c0⟩:=H.out.at ha
   rw [show n - 1 - i=q from by omega] at c0
   have hidx:(n:Int) - 1 - q=i:=by omega
   have HNS:=hid hns
   have HA:=hid ha
   have HP:=hid hp
   clear hns ha hp
   cases hx:(a.toList == s.toList)
   ·go_wp2_with fail
    go_roundw
    case rel=>exact ⟨i+1,(q:Int) - 1,rfl,by have:=HP.out;omega,by omega,NM HNS.out HA.out (fun e=>by rw [str_eq.2 e] at hx;cases hx),trivial⟩
    case measure=>simp [intOf]<;>omega
   ·have HR:Hid (ix e s=i):=MW (by rw [<-str_eq.1 hx];exact HA.out) HNS.out
    go_wp2_with fail
    go_ret
    exact ⟨by first | (rw [HR.out];done) | (rw [HR.out];rfl),rfl⟩
  ·have hp0:¬ (0:Int)<=p:=by omega
   have ac6:¬ p≥0:=hp0
   have HR:Hid (ix e s=-1):=NK hns (by have:=HN.out;omega)
   clear hns hp
   go_wp2_with fail
   go_ret
   exact ⟨by first | (rw [HR.out];done) | (rw [HR.out];rfl),rfl⟩
end Sc
end
section
open Go.RowKit
def gJ (k n:Int) (ps:Fo) (k' n':Int) (ps':Fo):Bool:=(k == k') && (n == n') && ps.same ps'
theorem Fg (k n:Int) (ps r:Fo) (k' n':Int) (ps' r':Fo):(Fo.cons k n ps r).same (Fo.cons k' n' ps' r')=(gJ k n ps k' n' ps' && r.same r'):=by simp [Fo.same,gJ]
def Yc (k n:Int) (ps:Fo):Prop:=∀ (k' n':Int) (ps':Fo) (w:World) (o:Option Addr) (len cap:Nat) (o':Option Addr) (len' cap':Nat),qm w o len ps->qm w o' len' ps' ->
 Calls Tryz.prog 38 #[kL k n o len cap,kL k' n' o' len' cap'] w fun e w'=>e=.returned (.bool (gJ k n ps k' n' ps'))/\ah w w'
theorem Ls (w : World) (k n : Int) (o : Option Addr) (len cap : Nat) (k' n' : Int) (o' : Option Addr) (len' cap' : Nat) (t : TypeId) (W : World) (hW : ah ((w.alloc (.cells #[.int .i64 k, .int .i64 n, .slice o len cap] t)).alloc (.cells #[.int .i64 k', .int .i64 n', .slice o' len' cap'] t)) W) :
    (W.cell? ⟨w.heap.size,0,none⟩=some (.int .i64 k)/\W.cell? ⟨w.heap.size,1,none⟩=some (.int .i64 n)/\W.cell? ⟨w.heap.size,2,none⟩=some (.slice o len cap)) /\
    (W.cell? ⟨w.heap.size+1,0,none⟩=some (.int .i64 k')/\W.cell? ⟨w.heap.size+1,1,none⟩=some (.int .i64 n')/\W.cell? ⟨w.heap.size+1,2,none⟩=some (.slice o' len' cap')):=by
 refine ⟨gG w k n o len cap t W ((ah.alloc _ _).trans hW),?_⟩
 have h:=gG (w.alloc (.cells #[.int .i64 k,.int .i64 n,.slice o len cap] t)) k' n' o' len' cap' t W hW
 have e:(w.alloc (.cells #[.int .i64 k,.int .i64 n,.slice o len cap] t)).heap.size=w.heap.size+1:=by simp
 rw [e] at h
 exact h
theorem Hf (k n:Int) (ps:Fo):Yc k n ps:=by
 refine Fo.qE (T:=Yc) ?_ k n ps
 intro k n ps ih k' n' ps' w o len cap o' len' cap' hs hs'
 have HS:=hid hs
 have HS':=hid hs'
 have IH:=hid ih
 have HL:=hid hs.1
 have HL':=hid hs'.1
 have hmx:=hs.2.1
 unfold maxLen at hmx
 clear hs hs' ih
 obtain ⟨res,hres⟩:∃ res,res=gJ k n ps k' n' ps':=⟨_,rfl⟩
 have aW:=hid hres
 rw [<-hres]
 clear hres
 by_cases hk:k=k'
 ·by_cases hn:n=n'
  ·by_cases hlen:len=len'
   ·have HR2:Hid (res=ps.same ps'):=by show _=_;rw [aW.out];simp [gJ,hk,hn]
    subst hk hn hlen
    have b1:(k != k)=false:=by simp
    have b2:(n != n)=false:=by simp
    have b3:((len:Int) != (len:Int))=false:=by simp
    unfold kL
    go_enter Tryz.func38,Tryz.ntmps38
    go_wp2_with fail
    obtain ⟨W0,hW0⟩:∃ W0,W0=(w.alloc (.cells #[.int .i64 k,.int .i64 n,.slice o len cap] 24)).alloc (.cells #[.int .i64 k,.int .i64 n,.slice o' len cap'] 24):=⟨_,rfl⟩
    have uZ:Hid (∀ W,ah W0 W->W.cell? ⟨w.heap.size,2,none⟩=some (.slice o len cap)/\W.cell? ⟨w.heap.size+1,2,none⟩=some (.slice o' len cap')):=by
     intro W hq;rw [hW0] at hq
     have:=Ls w k n o len cap k n o' len cap' _ W hq
     exact ⟨this.1.2.2,this.2.2.2⟩
    have aK:Hid (ah w W0):=by rw [hW0];exact (ah.alloc _ _).trans (ah.alloc _ _)
    change Code.wp _ _ _ _ ((w.alloc (.cells #[.int .i64 k,.int .i64 n,.slice o len cap] 24)).alloc (.cells #[.int .i64 k,.int .i64 n,.slice o' len cap'] 24))
    rw [<-hW0]
    clear hW0
    generalize w.heap.size=nb at *
    go_loopw [5] (fun t wr=>∃ (i:Nat),t=.int .i64 i/\i<=len/\res=(ps.drop i).same (ps'.drop i)/\ah W0 wr) (fun t _=>len - (intOf t).toNat)
    case atStart=>exact ⟨0,rfl,Nat.zero_le _,by rw [Fo.drop_zero,Fo.drop_zero];exact HR2.out,ah.refl _⟩
    case round =>
     obtain ⟨i,rfl,hi,hr,hq⟩:=hrel
     have HR:=hid hr
     have HQ:=hid hq
     obtain ⟨c1,c2⟩:=uZ.out wr hq
     clear hr hq
     by_cases hlt:i < len
     ·have hlt':(i:Int) < len:=by omega
      obtain ⟨b,off,k1,n1,ZU,o1,len1,cap1,rfl,hd1,hg1,e0,e1,e2,hs1⟩:=(HS.out.stay (aK.out.trans HQ.out)).nth hlt
      obtain ⟨b2,off2,k2,n2,rX,o2,len2,cap2,rfl,hd2,hg2,f0,f1,f2,hs2⟩:=(HS'.out.stay (aK.out.trans HQ.out)).nth hlt
      have HC:=hid (fun (W:World) (hq:ah wr W)=>IH.out i k1 n1 ZU hg1 k2 n2 rX W o1 len1 cap1 o2 len2 cap2 (hs1.stay hq) (hs2.stay hq))
      have HN:Hid (res=(gJ k1 n1 ZU k2 n2 rX && (ps.drop (i+1)).same (ps'.drop (i+1)))):=by
       show _=_
       rw [HR.out,hd1,hd2,Fg]
      unfold kL at HC
      clear hd1 hg1 hs1 hd2 hg2 hs2
      cases hb:gJ k1 n1 ZU k2 n2 rX
      all_goals
       have Lu:=hid hb
       clear hb
       go_wp2_with fail
       refine wp_region_still_tail 10 (by kernel_rfl) (by kernel_rfl) ?_
       simp only [List.take_succ_cons,List.take_zero,List.drop_succ_cons,List.drop_zero]
       change wpStill _ _ (World.drew wr) _ _ _
       repeat still_step
       refine wpStill_nil ?_
       change wpList _ _ _ _ _ (World.drew wr)
       go_wp2_with fail
       refine (HC.out _ (ah.drew _)).mono ?_;rintro e w1 ⟨rfl,hq1⟩
       rw [Lu.out]
       have bI:=hid ((HQ.out.trans (ah.drew _)).trans hq1)
       clear hq1
       go_wp2_with fail
      ·go_ret
       exact ⟨by rw [HN.out,Lu.out];rfl,aK.out.trans bI.out⟩
      ·go_roundw
       case rel=>exact ⟨i+1,by go_num,by omega,by rw [HN.out,Lu.out];rfl,bI.out⟩
       case measure=>simp [intOf];omega
     ·have hlt':¬ (i:Int) < len:=by omega
      have HY:Hid (res=true):=by
       show _=_
       rw [HR.out,Fo.drop_end ps i (by have:=HL.out;omega),Fo.drop_end ps' i (by have:=HL'.out;omega)];rfl
      go_wp2_with fail
      go_ret
      exact ⟨by rw [HY.out];rfl,aK.out.trans HQ.out⟩
   ·have HF : Hid (res = false) := by
      show _=_
      rw [aW.out]
      have:ps.same ps'=false:=by
       cases h:ps.same ps'
       ·rfl
       ·exact absurd (Fo.same_length _ _ h) (by have:=HL.out;have:=HL'.out;omega)
      simp [gJ,this]
    subst hk hn
    have b1:(k != k)=false:=by simp
    have b2:(n != n)=false:=by simp
    have b3:((len:Int) != (len':Int))=true:=by simp;omega
    unfold kL
    go_enter Tryz.func38,Tryz.ntmps38
    go_wp2_with fail
    go_ret
    exact ⟨by rw [HF.out];rfl,(ah.alloc _ _).trans (ah.alloc _ _)⟩
  ·have HF:Hid (res=false):=by show _=_;rw [aW.out];simp [gJ,hn]
   subst hk
   have b1:(k != k)=false:=by simp
   have b2:(n != n')=true:=by simpa using hn
   clear hn
   unfold kL
   go_enter Tryz.func38,Tryz.ntmps38
   go_wp2_with fail
   go_ret
   exact ⟨by rw [HF.out];rfl,(ah.alloc _ _).trans (ah.alloc _ _)⟩
 ·have HF:Hid (res=false):=by show _=_;rw [aW.out];simp [gJ,hk]
  have b1:(k != k')=true:=by simpa using hk
  clear hk
  unfold kL
  go_enter Tryz.func38,Tryz.ntmps38
  go_wp2_with fail
  go_ret
  exact ⟨by rw [HF.out];rfl,(ah.alloc _ _).trans (ah.alloc _ _)⟩
end
section
open Go.RowKit
def iH (k n:Int) (ps:Fo):Bool:=Fo.plain k n ps.length && ps.right
theorem pG (k n:Int) (ps r:Fo):(Fo.cons k n ps r).right=(iH k n ps && r.right):=by simp [Fo.right,iH]
def Ec (p:Int->Int->Fo->Bool):Fo->Nat->Int
 | .nil,_=>-1
 | .cons k n ps r,i=>if p k n ps then (i:Int) else Ec p r (i+1)
def LC (p:Int->Int->Fo->Bool):Fo->Bool
 | .nil=>false
 | .cons k n ps r=>p k n ps || LC p r
theorem NP (p:Int->Int->Fo->Bool):∀ (f:Fo) (i:Nat),decide (0<=Ec p f i)=LC p f
 | .nil,i=>by simp [Ec,LC]
 | .cons k n ps r,i=>by
  unfold Ec LC
  cases h:p k n ps
  ·simp only [Bool.false_eq_true,if_false,Bool.false_or];exact NP p r (i+1)
  ·simp
theorem vH:∀ f:Fo,LC (fun k n ps=>!iH k n ps) f=!f.right
 | .nil=>rfl
 | .cons k n ps r=>by unfold LC;rw [pG,vH r,Bool.not_and]
theorem Fh (n:Int) (w:World):Calls Tryz.prog 126 #[.int .i64 n] w fun e w'=>e=.returned (.bool (decide (0<=n) && decide (n < 1073741824)))/\w=w':=by
 by_cases h:0<=n
 ·go_enter Tryz.func126,Tryz.ntmps126
  go_wp2_with fail
  go_ret
  exact ⟨by first | (simp [h];done) | (simp;omega),rfl⟩
 ·go_enter Tryz.func126,Tryz.ntmps126
  go_wp2_with fail
  go_ret
  exact ⟨by first | (simp;done) | (simp;omega),rfl⟩
theorem P7 (k n:Int) (len:Nat) (o:Option Addr) (cap:Nat) (w:World):Calls Tryz.prog 111 #[kL k n o len cap] w fun e w'=>e=.returned (.bool (Fo.plain k n len))/\ah w w':=by
 obtain ⟨res,hres⟩:∃ res,res=Fo.plain k n len:=⟨_,rfl⟩
 have HR:=hid hres
 rw [<-hres]
 clear hres
 unfold kL
 by_cases k1:k=1
 ·subst k1
  cases hkn:(decide (0<=n) && decide (n < 1073741824))
  ·have HK:=hid (Fh n)
   rw [hkn] at HK
   have HF:Hid (res=false):=by show _=_;rw [HR.out];unfold Fo.plain;simp only [beq_self_eq_true,if_true];rw [hkn];rfl
   clear hkn
   go_enter Tryz.func111,Tryz.ntmps111
   go_wp2_with fail
   refine (HK.out _).mono ?_;rintro e w1 ⟨rfl,rfl⟩
   go_wp2_with fail
   go_ret
   exact ⟨by rw [HF.out];rfl,ah.alloc _ _⟩
  ·have HK:=hid (Fh n)
   rw [hkn] at HK
   have HF:Hid (res=((len:Int) == 0)):=by
    show _=_
    rw [HR.out];unfold Fo.plain;simp only [beq_self_eq_true,if_true];rw [hkn,Bool.eq_iff_iff];simp
   clear hkn
   go_enter Tryz.func111,Tryz.ntmps111
   go_wp2_with fail
   refine (HK.out _).mono ?_;rintro e w1 ⟨rfl,rfl⟩
   go_wp2_with fail
   all_goals
    go_ret
    exact ⟨by rw [HF.out];first | rfl | simp_all,ah.alloc _ _⟩
 have b1:(k == 1)=false:=by simpa using k1
 by_cases hn:n=0
 ·subst hn
  by_cases k2:k=2
  ·subst k2
   have HF:Hid (res=((len:Int) == 0)):=by show _=_;rw [HR.out,Bool.eq_iff_iff];simp [Fo.plain]
   go_enter Tryz.func111,Tryz.ntmps111
   go_wp2_with fail
   all_goals
    go_ret
    exact ⟨by rw [HF.out];first | rfl | simp_all,ah.alloc _ _⟩
  have b2:(k == 2)=false:=by simpa using k2
  by_cases k3:k=3
  ·subst k3
   have HF:Hid (res=((len:Int) == 0)):=by show _=_;rw [HR.out,Bool.eq_iff_iff];simp [Fo.plain]
   go_enter Tryz.func111,Tryz.ntmps111
   go_wp2_with fail
   all_goals
    go_ret
    exact ⟨by rw [HF.out];first | rfl | simp_all,ah.alloc _ _⟩
  have b3:(k == 3)=false:=by simpa using k3
  by_cases k4:k=4
  ·subst k4
   have HF:Hid (res=((len:Int) == 2)):=by show _=_;rw [HR.out,Bool.eq_iff_iff];simp [Fo.plain];omega
   go_enter Tryz.func111,Tryz.ntmps111
   go_wp2_with fail
   all_goals
    go_ret
    exact ⟨by rw [HF.out];first | rfl | simp_all,ah.alloc _ _⟩
  have b4:(k == 4)=false:=by simpa using k4
  by_cases k5:k=5
  ·subst k5
   by_cases h2:2<=len
   ·have h2':(2:Int)<=(len:Int):=by omega
    by_cases h8:len<=8
    ·have h8':(len:Int)<=8:=by omega
     have HF:Hid (res=true):=by show _=_;rw [HR.out];simp [Fo.plain,h2,h8]
     go_enter Tryz.func111,Tryz.ntmps111
     go_wp2_with fail
     go_ret
     exact ⟨by rw [HF.out];rfl,ah.alloc _ _⟩
    ·have h8':¬ (len:Int)<=8:=by omega
     have HF:Hid (res=false):=by show _=_;rw [HR.out];simp [Fo.plain,h8]
     go_enter Tryz.func111,Tryz.ntmps111
     go_wp2_with fail
     go_ret
     exact ⟨by rw [HF.out];rfl,ah.alloc _ _⟩
   ·have h2':¬ (2:Int)<=(len:Int):=by omega
    have HF:Hid (res=false):=by show _=_;rw [HR.out];simp [Fo.plain,h2]
    go_enter Tryz.func111,Tryz.ntmps111
    go_wp2_with fail
    go_ret
    exact ⟨by rw [HF.out];rfl,ah.alloc _ _⟩
  have b5:(k == 5)=false:=by simpa using k5
  have HF:Hid (res=false):=by show _=_;rw [HR.out];unfold Fo.plain;simp only [b1,b2,b3,b4,b5];rfl
  clear k1 k2 k3 k4 k5
  go_enter Tryz.func111,Tryz.ntmps111
  go_wp2_with fail
  go_ret
  exact ⟨by rw [HF.out];rfl,ah.alloc _ _⟩
 ·have HF : Hid (res = false) := by
    show _=_
    rw [HR.out]
    have hn':(n == 0)=false:=by simpa using hn
    unfold Fo.plain
    simp only [b1,hn',Bool.false_and]
    repeat' split
    all_goals first | rfl | simp_all
  have hn':(n == 0)=false:=by simpa using hn
  clear k1 hn
  go_enter Tryz.func111,Tryz.ntmps111
  go_wp2_with fail
  all_goals
   go_ret
   exact ⟨by rw [HF.out];rfl,ah.alloc _ _⟩
def UC (g:Nat) (lb:Array Value) (w0:World) (f:Fo) (p:Int->Int->Fo->Bool):Prop:=∀ i k n ps,f.get i=some (k,n,ps)->∀ (W:World) (o:Option Addr) (len cap:Nat),ah w0 W->qm W o len ps ->
 Calls Tryz.prog g (#[kL k n o len cap]++lb) W fun e W'=>e=.returned (.bool (p k n ps))/\ah W W'
theorem Ed (g : Nat) (lb : Array Value) (p : Int -> Int -> Fo -> Bool) (eg : ∀ args w, (callFunc g args).run Tryz.prog w = .ok (.enter g args) w) (f : Fo) (o : Option Addr) (len cap : Nat) (w : World) (hs : qm w o len f) (hp : UC g lb w f p) :
    Calls Tryz.prog 127 #[.slice o len cap,.func (.func g) #[] lb] w fun e w'=>e=.returned (.int .i64 (Ec p f 0))/\ah w w':=by
 have HS:=hid hs
 have HP:=hid hp
 have HL:=hid hs.1
 have hmx:=hs.2.1
 unfold maxLen at hmx
 clear hs hp
 obtain ⟨res,hres⟩:∃ res,res=Ec p f 0:=⟨_,rfl⟩
 have HR:=hid hres
 rw [<-hres]
 clear hres
 go_enter Tryz.func127,Tryz.ntmps127
 go_wp2_with fail
 go_loopw [8] (fun t wr=>∃ i:Nat,t=.int .i64 i/\i<=len/\res=Ec p (f.drop i) i/\ah w wr) (fun t _=>len - (intOf t).toNat)
 case atStart=>exact ⟨0,rfl,Nat.zero_le _,by rw [Fo.drop_zero];exact HR.out,ah.refl _⟩
 case round =>
  obtain ⟨i,rfl,hi,hr,hq⟩:=hrel
  have HRR:=hid hr
  have HQ:=hid hq
  clear hr hq
  by_cases hlt:i < len
  ·have hlt':(i:Int) < len:=by omega
   obtain ⟨b,off,k1,n1,qs,o1,len1,cap1,rfl,hd,hg,e0,e1,e2,hs1⟩:=(HS.out.stay HQ.out).nth hlt
   have HD:=hid hd
   have HC:=hid (HP.out i k1 n1 qs hg wr o1 len1 cap1 HQ.out hs1)
   unfold kL at HC
   clear hd hg hs1
   cases hb:p k1 n1 qs
   all_goals
    have Lu:=hid hb
    rw [hb] at HC
    clear hb
    go_wp2_with fail
    refine HC.out.mono ?_;rintro e w1 ⟨rfl,hq1⟩
    have bI:=hid (HQ.out.trans hq1)
    clear hq1
    go_wp2_with fail
   ·go_roundw
    case rel=>exact ⟨i+1,by go_num,by omega,by rw [HRR.out,HD.out,Ec,Lu.out];rfl,bI.out⟩
    case measure=>simp [intOf];omega
   ·go_ret
    exact ⟨by rw [HRR.out,HD.out,Ec,Lu.out];rfl,bI.out⟩
  ·have hlt':¬ (i:Int) < len:=by omega
   go_wp2_with fail
   go_ret
   exact ⟨by rw [HRR.out,Fo.drop_end f i (by have:=HL.out;omega)];rfl,HQ.out⟩
theorem zn (g : Nat) (lb : Array Value) (p : Int -> Int -> Fo -> Bool) (eg : ∀ args w, (callFunc g args).run Tryz.prog w = .ok (.enter g args) w) (f : Fo) (o : Option Addr) (len cap : Nat) (w : World) (hs : qm w o len f) (hp : UC g lb w f p) :
    Calls Tryz.prog 112 #[.slice o len cap,.func (.func g) #[] lb] w fun e w'=>e=.returned (.bool (LC p f))/\ah w w':=by
 have HC:=hid (Ed g lb p eg f o len cap w hs hp)
 rw [<-NP p f 0]
 clear hs hp eg
 generalize Ec p f 0=r at *
 go_enter Tryz.func112,Tryz.ntmps112
 go_wp2_with fail
 refine HC.out.mono ?_;rintro e w1 ⟨rfl,hq⟩
 go_wp2_with fail
 go_ret
 exact ⟨rfl,hq⟩
end
section
open Go.RowKit Go.Shelf
theorem UD:∀ args w,(callFunc 113 args).run Tryz.prog w=.ok (.enter 113 args) w:=enters_of Tryz.func113 (by kernel_rfl) rfl
def LD (k n:Int) (ps:Fo):Prop:=∀ (w:World) (o:Option Addr) (len cap:Nat),qm w o len ps ->
 Calls Tryz.prog 88 #[kL k n o len cap] w fun e w'=>e=.returned (.bool (iH k n ps))/\ah w w'
theorem P8 (k n : Int) (ps : Fo) (h : LD k n ps) (w : World) (o : Option Addr) (len cap : Nat) (hs : qm w o len ps) :
    Calls Tryz.prog 113 #[kL k n o len cap] w fun e w'=>e=.returned (.bool (!iH k n ps))/\ah w w':=by
 have HC:=hid (fun (W:World) (hq:ah w W)=>h W o len cap (hs.stay hq))
 clear h hs
 generalize iH k n ps=r at *
 unfold kL at *
 go_enter Tryz.func113,Tryz.ntmps113
 go_wp2_with fail
 refine (HC.out _ (ah.alloc _ _)).mono ?_;rintro e w1 ⟨rfl,hq⟩
 go_wp2_with fail
 go_ret
 exact ⟨rfl,(ah.alloc _ _).trans hq⟩
theorem P9 (k n:Int) (ps:Fo):LD k n ps:=by
 refine Fo.qE (T:=LD) ?_ k n ps
 intro k n ps ih w o len cap hs
 have hl:=hs.1
 have HP:=hid (P7 k n len o cap)
 have HC:Hid (∀ W,ah w W->Calls Tryz.prog 112 #[.slice o len cap,.func (.func 113) #[] #[]] W fun e w'=>e=.returned (.bool (!ps.right))/\ah W w'):=by
  intro W hq
  have:=zn 113 #[] (fun k n ps=>!iH k n ps) UD ps o len cap W (hs.stay hq) (fun i k1 n1 qs hg W1 o1 len1 cap1 _ hs1=>P8 k1 n1 qs (ih i k1 n1 qs hg) W1 o1 len1 cap1 hs1)
  rw [vH] at this
  exact this
 have HR:Hid (iH k n ps=(Fo.plain k n len && ps.right)):=by show _=_;unfold iH;rw [hl]
 rw [HR.out]
 clear hs ih hl HR
 cases hp:Fo.plain k n len
 ·have HPV:=hid hp
  rw [hp] at HP
  clear hp
  unfold kL at *
  go_enter Tryz.func88,Tryz.ntmps88
  go_wp2_with fail
  refine (HP.out _).mono ?_;rintro e w1 ⟨rfl,hq⟩
  go_wp2_with fail
  go_ret
  exact ⟨rfl,(ah.alloc _ _).trans hq⟩
 ·have HPV:=hid hp
  rw [hp] at HP
  clear hp
  generalize ps.right=r at *
  unfold kL at *
  go_enter Tryz.func88,Tryz.ntmps88
  go_wp2_with fail
  refine (HP.out _).mono ?_;rintro e w1 ⟨rfl,hq⟩
  have HQ:=hid ((ah.alloc w (.cells #[.int .i64 k,.int .i64 n,.slice o len cap] 24)).trans hq)
  have c2:=(gG w k n o len cap 24 w1 hq).2.2
  clear hq
  go_wp2_with fail
  refine (HC.out _ HQ.out).mono ?_;rintro e w2 ⟨rfl,hq2⟩
  go_wp2_with fail
  go_ret
  exact ⟨by simp,HQ.out.trans hq2⟩
def UE (k n:Int) (ps:Fo):Prop:=∀ (w:World) (o:Option Addr) (len cap:Nat),qm w o len ps ->
 Calls Tryz.prog 56 #[kL k n o len cap] w fun e w'=>e=.returned (.bool (iH k n ps))/\ah w w'
theorem Qa {k n:Int} {m:Nat} (h:Fo.plain k n m=false):(k=1/\(n < 0∨1073741824<=n∨0 < m))∨(k≠1/\n≠0)∨(n=0/\(k=2∨k=3)/\0 < m)∨(n=0/\k=4/\m≠2)∨(n=0/\k=5/\(m < 2∨8 < m))∨(n=0/\(k < 1∨5 < k)):=by
 unfold Fo.plain at h
 by_cases k1:k=1
 ·subst k1;simp at h;omega
 by_cases hn:n=0
 ·subst hn
  by_cases k2:k=2
  ·subst k2;simp at h;omega
  by_cases k3:k=3
  ·subst k3;simp at h;omega
  by_cases k4:k=4
  ·subst k4;simp at h;omega
  by_cases k5:k=5
  ·subst k5;simp at h;omega
  omega
 ·omega
theorem UF {k n:Int} {m:Nat} (h:Fo.plain k n m=true):(k=1/\0<=n/\n < 1073741824/\m=0)∨(n=0/\k=2/\m=0)∨(n=0/\k=3/\m=0)∨(n=0/\k=4/\m=2)∨(n=0/\k=5/\2<=m/\m<=8):=by
 unfold Fo.plain at h
 by_cases k1:k=1
 ·subst k1;simp at h;omega
 by_cases k2:k=2
 ·subst k2;simp at h;omega
 by_cases k3:k=3
 ·subst k3;simp at h;omega
 by_cases k4:k=4
 ·subst k4;simp at h;omega
 by_cases k5:k=5
 ·subst k5;simp at h;omega
 ·simp [k1,k2,k3,k4,k5] at h
theorem FT (k n:Int) (ps:Fo):UE k n ps:=by
 refine Fo.qE (T:=UE) ?_ k n ps
 intro k n ps ih w o len cap hs
 have HS:=hid hs
 have IH:=hid ih
 have HL:=hid hs.1
 have hmx:=hs.2.1
 unfold maxLen at hmx
 have HR:Hid (iH k n ps=(Fo.plain k n len && ps.right)):=by show _=_;unfold iH;rw [hs.1]
 rw [HR.out]
 clear hs ih HR
 cases hp:Fo.plain k n len
 ·simp only [Bool.false_and]
  have hw:=Qa hp
  clear hp HS IH HL
  unfold kL
  rcases hw with ⟨rfl,h | h | h⟩ | ⟨h1,h2⟩ | ⟨rfl,rfl | rfl,h⟩ | ⟨rfl,rfl,h⟩ | ⟨rfl,rfl,h | h⟩ | ⟨rfl,h | h⟩
  ·go_enter Tryz.func56,Tryz.ntmps56
   go_wp2_with fail
   all_goals
    go_ret
    exact ⟨rfl,ah.alloc _ _⟩
  ·go_enter Tryz.func56,Tryz.ntmps56
   go_wp2_with fail
   all_goals
    go_ret
    exact ⟨rfl,ah.alloc _ _⟩
  ·have h':(0:Int) < (len:Int):=by omega
   go_enter Tryz.func56,Tryz.ntmps56
   go_wp2_with fail
   all_goals
    go_ret
    exact ⟨rfl,ah.alloc _ _⟩
  ·have b1:(k == 1)=false:=by simpa using h1
   have b2:(k != 1)=true:=by simpa using h1
   have b3:(n != 0)=true:=by simpa using h2
   clear h1 h2
   go_enter Tryz.func56,Tryz.ntmps56
   go_wp2_with fail
   all_goals
    go_ret
    exact ⟨rfl,ah.alloc _ _⟩
  ·have h':(0:Int) < (len:Int):=by omega
   go_enter Tryz.func56,Tryz.ntmps56
   go_wp2_with fail
   all_goals
    go_ret
    exact ⟨rfl,ah.alloc _ _⟩
  ·have h':(0:Int) < (len:Int):=by omega
   go_enter Tryz.func56,Tryz.ntmps56
   go_wp2_with fail
   all_goals
    go_ret
    exact ⟨rfl,ah.alloc _ _⟩
  ·have h':((len:Int) != 2)=true:=by simp;omega
   go_enter Tryz.func56,Tryz.ntmps56
   go_wp2_with fail
   all_goals
    go_ret
    exact ⟨rfl,ah.alloc _ _⟩
  ·have h':(len:Int) < 2:=by omega
   go_enter Tryz.func56,Tryz.ntmps56
   go_wp2_with fail
   all_goals
    go_ret
    exact ⟨rfl,ah.alloc _ _⟩
  ·have h':(8:Int) < (len:Int):=by omega
   have h2:¬ (len:Int) < 2:=by omega
   go_enter Tryz.func56,Tryz.ntmps56
   go_wp2_with fail
   all_goals
    go_ret
    exact ⟨rfl,ah.alloc _ _⟩
  ·have b1:(k == 1)=false:=by simp;omega
   have b1':(k != 1)=true:=by simp;omega
   have b2:(k == 2)=false:=by simp;omega
   have b3:(k == 3)=false:=by simp;omega
   have b4:(k == 4)=false:=by simp;omega
   have b5:(k == 5)=false:=by simp;omega
   go_enter Tryz.func56,Tryz.ntmps56
   go_wp2_with fail
   all_goals
    go_ret
    exact ⟨rfl,ah.alloc _ _⟩
  ·have b1:(k == 1)=false:=by simp;omega
   have b1':(k != 1)=true:=by simp;omega
   have b2:(k == 2)=false:=by simp;omega
   have b3:(k == 3)=false:=by simp;omega
   have b4:(k == 4)=false:=by simp;omega
   have b5:(k == 5)=false:=by simp;omega
   have h':¬ k < 1:=by omega
   go_enter Tryz.func56,Tryz.ntmps56
   go_wp2_with fail
   all_goals
    go_ret
    exact ⟨rfl,ah.alloc _ _⟩
 ·simp only [Bool.true_and]
  obtain ⟨res,hres⟩:∃ res,res=ps.right:=⟨_,rfl⟩
  have aW:=hid hres
  rw [<-hres]
  have hw:=UF hp
  clear hp hres
  rcases hw with ⟨rfl,h1,h2,h3⟩ | ⟨rfl,rfl,h3⟩ | ⟨rfl,rfl,h3⟩ | ⟨rfl,rfl,h3⟩ | ⟨rfl,rfl,h3,h4⟩
  ·have h3':¬ (0:Int) < (len:Int):=by omega
   clear h3
   unfold kL
   obtain ⟨W0,hW0⟩:∃ W0,W0=w.alloc (.cells #[.int .i64 1,.int .i64 n,.slice o len cap] 24):=⟨_,rfl⟩
   have HB:Hid (∀ W,ah W0 W->W.cell? ⟨w.heap.size,2,none⟩=some (.slice o len cap)):=by
    intro W hq;rw [hW0] at hq;exact (gG w _ _ o len cap _ W hq).2.2
   have aK:Hid (ah w W0):=by rw [hW0];exact ah.alloc _ _
   go_enter Tryz.func56,Tryz.ntmps56
   go_wp2_with fail
   change Code.wp _ _ _ _ (w.alloc (.cells #[.int .i64 1,.int .i64 n,.slice o len cap] 24))
   rw [<-hW0]
   clear hW0
   generalize w.heap.size=nb at *
   go_loopw [4] (fun t wr=>∃ i:Nat,t=.int .i64 i/\i<=len/\res=(ps.drop i).right/\ah W0 wr) (fun t _=>len - (intOf t).toNat)
   case atStart=>exact ⟨0,rfl,Nat.zero_le _,by rw [Fo.drop_zero];exact aW.out,ah.refl _⟩
   case round =>
    obtain ⟨i,rfl,hi,hr,hq⟩:=hrel
    have HRR:=hid hr
    have HQ:=hid hq
    have c2:=HB.out wr hq
    clear hr hq
    by_cases hlt:i < len
    ·exact absurd hlt (by omega)
    ·have hlt':¬ (i:Int) < len:=by omega
     go_wp2_with fail
     go_ret
     exact ⟨by rw [HRR.out,Fo.drop_end ps i (by have:=HL.out;omega)];rfl,aK.out.trans HQ.out⟩
  ·have h3':¬ (0:Int) < (len:Int):=by omega
   clear h3
   unfold kL
   obtain ⟨W0,hW0⟩:∃ W0,W0=w.alloc (.cells #[.int .i64 2,.int .i64 0,.slice o len cap] 24):=⟨_,rfl⟩
   have HB:Hid (∀ W,ah W0 W->W.cell? ⟨w.heap.size,2,none⟩=some (.slice o len cap)):=by
    intro W hq;rw [hW0] at hq;exact (gG w _ _ o len cap _ W hq).2.2
   have aK:Hid (ah w W0):=by rw [hW0];exact ah.alloc _ _
   go_enter Tryz.func56,Tryz.ntmps56
   go_wp2_with fail
   change Code.wp _ _ _ _ (w.alloc (.cells #[.int .i64 2,.int .i64 0,.slice o len cap] 24))
   rw [<-hW0]
   clear hW0
   generalize w.heap.size=nb at *
   go_loopw [4] (fun t wr=>∃ i:Nat,t=.int .i64 i/\i<=len/\res=(ps.drop i).right/\ah W0 wr) (fun t _=>len - (intOf t).toNat)
   case atStart=>exact ⟨0,rfl,Nat.zero_le _,by rw [Fo.drop_zero];exact aW.out,ah.refl _⟩
   case round =>
    obtain ⟨i,rfl,hi,hr,hq⟩:=hrel
    have HRR:=hid hr
    have HQ:=hid hq
    have c2:=HB.out wr hq
    clear hr hq
    by_cases hlt:i < len
    ·exact absurd hlt (by omega)
    ·have hlt':¬ (i:Int) < len:=by omega
     go_wp2_with fail
     go_ret
     exact ⟨by rw [HRR.out,Fo.drop_end ps i (by have:=HL.out;omega)];rfl,aK.out.trans HQ.out⟩
  ·have h3':¬ (0:Int) < (len:Int):=by omega
   clear h3
   unfold kL
   obtain ⟨W0,hW0⟩:∃ W0,W0=w.alloc (.cells #[.int .i64 3,.int .i64 0,.slice o len cap] 24):=⟨_,rfl⟩
   have HB:Hid (∀ W,ah W0 W->W.cell? ⟨w.heap.size,2,none⟩=some (.slice o len cap)):=by
    intro W hq;rw [hW0] at hq;exact (gG w _ _ o len cap _ W hq).2.2
   have aK:Hid (ah w W0):=by rw [hW0];exact ah.alloc _ _
   go_enter Tryz.func56,Tryz.ntmps56
   go_wp2_with fail
   change Code.wp _ _ _ _ (w.alloc (.cells #[.int .i64 3,.int .i64 0,.slice o len cap] 24))
   rw [<-hW0]
   clear hW0
   generalize w.heap.size=nb at *
   go_loopw [4] (fun t wr=>∃ i:Nat,t=.int .i64 i/\i<=len/\res=(ps.drop i).right/\ah W0 wr) (fun t _=>len - (intOf t).toNat)
   case atStart=>exact ⟨0,rfl,Nat.zero_le _,by rw [Fo.drop_zero];exact aW.out,ah.refl _⟩
   case round =>
    obtain ⟨i,rfl,hi,hr,hq⟩:=hrel
    have HRR:=hid hr
    have HQ:=hid hq
    have c2:=HB.out wr hq
    clear hr hq
    by_cases hlt:i < len
    ·exact absurd hlt (by omega)
    ·have hlt':¬ (i:Int) < len:=by omega
     go_wp2_with fail
     go_ret
     exact ⟨by rw [HRR.out,Fo.drop_end ps i (by have:=HL.out;omega)];rfl,aK.out.trans HQ.out⟩
  ·have h3':((len:Int) != 2)=false:=by simp;omega
   clear h3
   unfold kL
   obtain ⟨W0,hW0⟩:∃ W0,W0=w.alloc (.cells #[.int .i64 4,.int .i64 0,.slice o len cap] 24):=⟨_,rfl⟩
   have HB:Hid (∀ W,ah W0 W->W.cell? ⟨w.heap.size,2,none⟩=some (.slice o len cap)):=by
    intro W hq;rw [hW0] at hq;exact (gG w _ _ o len cap _ W hq).2.2
   have aK:Hid (ah w W0):=by rw [hW0];exact ah.alloc _ _
   go_enter Tryz.func56,Tryz.ntmps56
   go_wp2_with fail
   change Code.wp _ _ _ _ (w.alloc (.cells #[.int .i64 4,.int .i64 0,.slice o len cap] 24))
   rw [<-hW0]
   clear hW0
   generalize w.heap.size=nb at *
   go_loopw [4] (fun t wr=>∃ i:Nat,t=.int .i64 i/\i<=len/\res=(ps.drop i).right/\ah W0 wr) (fun t _=>len - (intOf t).toNat)
   case atStart=>exact ⟨0,rfl,Nat.zero_le _,by rw [Fo.drop_zero];exact aW.out,ah.refl _⟩
   case round =>
    obtain ⟨i,rfl,hi,hr,hq⟩:=hrel
    have HRR:=hid hr
    have HQ:=hid hq
    have c2:=HB.out wr hq
    clear hr hq
    by_cases hlt:i < len
    ·have hlt':(i:Int) < len:=by omega
     obtain ⟨b,off,k1,n1,qs,o1,len1,cap1,rfl,hd,hg,e0,e1,e2,hs1⟩:=(HS.out.stay (aK.out.trans HQ.out)).nth hlt
     have HD:=hid hd
     have HC:=hid (IH.out i k1 n1 qs hg wr o1 len1 cap1 hs1)
     unfold kL at HC
     clear hd hg hs1
     cases hb:iH k1 n1 qs
     all_goals
      have Lu:=hid hb
      rw [hb] at HC
      clear hb
      go_wp2_with fail
      refine HC.out.mono ?_;rintro e w1 ⟨rfl,hq1⟩
      have bI:=hid (HQ.out.trans hq1)
      clear hq1
      go_wp2_with fail
     ·go_ret
      exact ⟨by rw [HRR.out,HD.out,pG,Lu.out];rfl,aK.out.trans bI.out⟩
     ·go_roundw
      case rel=>exact ⟨i+1,by go_num,by omega,by rw [HRR.out,HD.out,pG,Lu.out];rfl,bI.out⟩
      case measure=>simp [intOf];omega
    ·have hlt':¬ (i:Int) < len:=by omega
     go_wp2_with fail
     go_ret
     exact ⟨by rw [HRR.out,Fo.drop_end ps i (by have:=HL.out;omega)];rfl,aK.out.trans HQ.out⟩
  ·have h3':¬ (len:Int) < 2:=by omega
   have h4':¬ (8:Int) < (len:Int):=by omega
   unfold kL
   obtain ⟨W0,hW0⟩:∃ W0,W0=w.alloc (.cells #[.int .i64 5,.int .i64 0,.slice o len cap] 24):=⟨_,rfl⟩
   have HB:Hid (∀ W,ah W0 W->W.cell? ⟨w.heap.size,2,none⟩=some (.slice o len cap)):=by
    intro W hq;rw [hW0] at hq;exact (gG w _ _ o len cap _ W hq).2.2
   have aK:Hid (ah w W0):=by rw [hW0];exact ah.alloc _ _
   go_enter Tryz.func56,Tryz.ntmps56
   go_wp2_with fail
   change Code.wp _ _ _ _ (w.alloc (.cells #[.int .i64 5,.int .i64 0,.slice o len cap] 24))
   rw [<-hW0]
   clear hW0
   generalize w.heap.size=nb at *
   go_loopw [4] (fun t wr=>∃ i:Nat,t=.int .i64 i/\i<=len/\res=(ps.drop i).right/\ah W0 wr) (fun t _=>len - (intOf t).toNat)
   case atStart=>exact ⟨0,rfl,Nat.zero_le _,by rw [Fo.drop_zero];exact aW.out,ah.refl _⟩
   case round =>
    obtain ⟨i,rfl,hi,hr,hq⟩:=hrel
    have HRR:=hid hr
    have HQ:=hid hq
    have c2:=HB.out wr hq
    clear hr hq
    by_cases hlt:i < len
    ·have hlt':(i:Int) < len:=by omega
     obtain ⟨b,off,k1,n1,qs,o1,len1,cap1,rfl,hd,hg,e0,e1,e2,hs1⟩:=(HS.out.stay (aK.out.trans HQ.out)).nth hlt
     have HD:=hid hd
     have HC:=hid (IH.out i k1 n1 qs hg wr o1 len1 cap1 hs1)
     unfold kL at HC
     clear hd hg hs1
     cases hb:iH k1 n1 qs
     all_goals
      have Lu:=hid hb
      rw [hb] at HC
      clear hb
      go_wp2_with fail
      refine HC.out.mono ?_;rintro e w1 ⟨rfl,hq1⟩
      have bI:=hid (HQ.out.trans hq1)
      clear hq1
      go_wp2_with fail
     ·go_ret
      exact ⟨by rw [HRR.out,HD.out,pG,Lu.out];rfl,aK.out.trans bI.out⟩
     ·go_roundw
      case rel=>exact ⟨i+1,by go_num,by omega,by rw [HRR.out,HD.out,pG,Lu.out];rfl,bI.out⟩
      case measure=>simp [intOf];omega
    ·have hlt':¬ (i:Int) < len:=by omega
     go_wp2_with fail
     go_ret
     exact ⟨by rw [HRR.out,Fo.drop_end ps i (by have:=HL.out;omega)];rfl,aK.out.trans HQ.out⟩
end
end Go.Proofs.YtcninopmelmajaaGreatDoor
