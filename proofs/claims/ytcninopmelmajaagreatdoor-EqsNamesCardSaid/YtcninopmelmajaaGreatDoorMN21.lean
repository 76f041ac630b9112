/-
  Texts laid together (PaBr): laws and walks, with their conditions.
-/
import Derived.Test.YtcninopmelmajaaGreatDoorMN20
set_option maxHeartbeats 8000000
set_option maxRecDepth 1000000
namespace Go.Proofs.YtcninopmelmajaaGreatDoor
open Go.Lib (hid)
section
namespace Pa
open Go.RowKit Lx
structure BrW (B rb tb : Nat) (h : Nd) (qs : To) (o1 : Option Addr) (l1 c1 : Nat) (o2 : Option Addr) (l2 c2 : Nat) (x : Pt) (j0 : Nat) (w : World) (k tk tn fr en : Int) (tp : Fo) (po : Option Addr) (pl pc : Nat) (ps : To) (g c : Nat) (xs : List Value) (wx : World) : Prop where
 b : wx.heap[B]? = some (.cells (z13 0 0) 129 (0, 0))
 r : wx.heap[rb]? = some (.cells (c13 h o1 l1 c1 o2 l2 c2 x (j0 : Nat) 0) 129 (0, 0))
 t : wx.heap[tb]? = some (.cells #[.int .i64 k, .string ⟨#[]⟩, .int .i64 0, .int .i64 tk, .int .i64 tn, .slice po pl pc, .slice (some ⟨g, 0, none⟩) ps.length c, .int .i64 fr, .int .i64 en] 29 (0, 0))
 s1 : SlcIn (fun b => B + 1 <= b /\ b < rb) wx o1 l1 h.tp
 s2 : TSlc (fun b => B + 1 <= b /\ b < rb) wx o2 l2 qs
 s3 : SlcIn (fun b => B + 1 <= b /\ b ≠ rb /\ b ≠ tb) wx po pl tp
 row : TmRowT wx (fun b => B + 1 <= b /\ b ≠ rb /\ b ≠ tb) (.slice (some ⟨g, 0, none⟩) ps.length c) ps xs
 few : ps.length <= 9
 gr : rb < g
 q : Quiet0 w wx
theorem BrW.stay {B rb tb : Nat} {h : Nd} {qs : To} {o1 : Option Addr} {l1 c1 : Nat} {o2 : Option Addr} {l2 c2 : Nat} {x : Pt} {j0 : Nat} {w : World} {k tk tn fr en : Int} {tp : Fo} {po : Option Addr} {pl pc : Nat} {ps : To} {g c : Nat} {xs : List Value} {wx wy : World} (s : BrW B rb tb h qs o1 l1 c1 o2 l2 c2 x j0 w k tk tn fr en tp po pl pc ps g c xs wx) (hq : Quiet0 wx wy) : BrW B rb tb h qs o1 l1 c1 o2 l2 c2 x j0 w k tk tn fr en tp po pl pc ps g c xs wy :=
 ⟨blk_after hq s.b, blk_after hq s.r, blk_after hq s.t, s.s1.stay hq, s.s2.stay hq, s.s3.stay hq, s.row.stay hq, s.few, s.gr, s.q.trans hq⟩
theorem BrW.tset {B rb tb : Nat} {h : Nd} {qs : To} {o1 : Option Addr} {l1 c1 : Nat} {o2 : Option Addr} {l2 c2 : Nat} {x : Pt} {j0 : Nat} {w : World} {k tk tn fr en : Int} {tp : Fo} {po : Option Addr} {pl pc : Nat} {ps : To} {g c : Nat} {xs : List Value} {wx wy : World} {k' tk' tn' fr' en' : Int} {tp' : Fo} {po' : Option Addr} {pl' pc' : Nat} (s : BrW B rb tb h qs o1 l1 c1 o2 l2 c2 x j0 w k tk tn fr en tp po pl pc ps g c xs wx) (hf : Fr (fun b => b = tb) wx wy) (hB : B < rb) (hrt : rb < tb) (hw : w.heap.size <= tb)
    (ht : wy.heap[tb]? = some (.cells #[.int .i64 k', .string ⟨#[]⟩, .int .i64 0, .int .i64 tk', .int .i64 tn', .slice po' pl' pc', .slice (some ⟨g, 0, none⟩) ps.length c, .int .i64 fr', .int .i64 en'] 29 (0, 0))) (h3 : SlcIn (fun b => B + 1 <= b /\ b ≠ rb /\ b ≠ tb) wy po' pl' tp') : BrW B rb tb h qs o1 l1 c1 o2 l2 c2 x j0 w k' tk' tn' fr' en' tp' po' pl' pc' ps g c xs wy :=
 ⟨blk_fr hf (by omega) s.b, blk_fr hf (by omega) s.r, ht, s.s1.fr hf (fun b _ k => ⟨k, by omega⟩), s.s2.fr hf (fun b _ k => ⟨k, by omega⟩), h3, s.row.fr hf (fun b k => k.2.2), s.few, s.gr, s.q.trans' hf (fun b hb e => by omega)⟩
theorem BrW.next {B rb tb : Nat} {h : Nd} {qs : To} {o1 : Option Addr} {l1 c1 : Nat} {o2 : Option Addr} {l2 c2 : Nat} {x : Pt} {j0 : Nat} {w : World} {ps : To} {g c : Nat} {xs : List Value} {wx wy : World} {h2 : Nd} {qs2 : To} {p1 : Option Addr} {m1 d1 : Nat} {p2 : Option Addr} {m2 d2 g3 c3 : Nat} {v : Value} (s : BrW B rb tb h qs o1 l1 c1 o2 l2 c2 x j0 w 9 0 0 0 0 .nil none 0 0 ps g c xs wx) (hB : B < rb) (hrt : rb < tb) (hw : w.heap.size <= rb)
    (hs1 : SlcIn (fun b => (B + 1 <= b /\ b ≠ rb /\ b ≠ tb) /\ (Value.slice (some ⟨g, 0, none⟩) ps.length c).ownBlock ≠ some b) wx p1 m1 h2.tp) (hs2 : TSlc (fun b => (B + 1 <= b /\ b ≠ rb /\ b ≠ tb) /\ (Value.slice (some ⟨g, 0, none⟩) ps.length c).ownBlock ≠ some b) wx p2 m2 qs2)
    (ho : wy.ownsRow 0 29 9 (.slice (some ⟨g3, 0, none⟩) (ps.length + 1) c3) (ps.length + 1) (xs ++ (cells9 h2 p1 m1 d1 p2 m2 d2).toList)) (hf : Fr (fun k => (Value.slice (some ⟨g, 0, none⟩) ps.length c).ownBlock = some k) wx wy) (hg : (Value.slice (some ⟨g, 0, none⟩) ps.length c).ownBlock = some g3 ∨ wx.heap.size <= g3) (hfew : ps.length <= 8)
    (hv : v = .slice (some ⟨g3, 0, none⟩) (ps.length + 1) c3) : BrW B rb tb h qs o1 l1 c1 o2 l2 c2 x j0 w 9 0 0 0 0 .nil none 0 0 (ps.app (.cons h2 qs2 .nil)) g3 c3 (xs ++ (cells9 h2 p1 m1 d1 p2 m2 d2).toList) (wy.setCell ⟨tb, 6, none⟩ v) := by
 subst hv
 have hlow := s.row.low g rfl
 have hgr := s.gr
 have hrl := lt_of_block s.r
 have htl := lt_of_block s.t
 have hg' : ∀ b, (Value.slice (some ⟨g, 0, none⟩) ps.length c).ownBlock = some b -> b = g := fun b e => by simp [Value.ownBlock] at e; exact e.symm
 have hfs := Fr.setCell (fun b => b = tb) wy ⟨tb, 6, none⟩ (.slice (some ⟨g3, 0, none⟩) (ps.length + 1) c3) rfl
 have hlen : (ps.app (.cons h2 qs2 .nil)).length = ps.length + 1 := by rw [To.app_length]; simp [To.length]
 have ht := blk_fr hf (fun e => hlow.2.2 (hg' _ e).symm) s.t
 refine ⟨blk_fr hfs (by omega) (blk_fr hf (fun e => by have := hg' _ e; omega) s.b), blk_fr hfs (by omega) (blk_fr hf (fun e => hlow.2.1 (hg' _ e).symm) s.r), ?_, (s.s1.fr hf (fun b _ k => ⟨k, fun e => by have := hg' _ e; omega⟩)).fr hfs (fun b _ k => ⟨k, by omega⟩), (s.s2.fr hf (fun b _ k => ⟨k, fun e => by have := hg' _ e; omega⟩)).fr hfs (fun b _ k => ⟨k, by omega⟩), SlcIn.nil _ _ _, ?_, by rw [hlen]; omega, ?_, (s.q.trans' hf (fun b hb e => by have := hg' _ e; omega)).trans' hfs (fun b hb e => by omega)⟩
 ·rw [hlen]; exact set_block (i := 6) (u := .slice (some ⟨g3, 0, none⟩) (ps.length + 1) c3) ht
 ·rw [hlen]; exact (TmRowT.snoc s.row hs1 hs2 ho hf hg (fun b hb => ⟨by omega, by omega, by omega⟩)).fr hfs (fun b k => k.2.2)
 ·rcases hg with h | h
  ·have := hg' _ h; omega
  ·omega
def MidRel (ts : List Tok) (i0 B rb tb : Nat) (h : Nd) (qs : To) (o1 : Option Addr) (l1 c1 : Nat) (o2 : Option Addr) (l2 c2 : Nat) (x : Pt) (j0 : Nat) (fin : TmR) (w : World) (t : Value) (wx : World) : Prop :=
 ∃ (k tk tn : Int) (tp : Fo) (po : Option Addr) (pl pc : Nat) (ps : To) (g c : Nat) (xs : List Value) (j : Nat), t = .int .i64 (j : Nat) /\ j < ts.length /\ BrW B rb tb h qs o1 l1 c1 o2 l2 c2 x j0 w k tk tn 0 0 tp po pl pc ps g c xs wx /\ fin = tailQ ts i0 h qs k tk tn tp ps j
def ComRel (E : Nat -> TmR) (ts : List Tok) (i0 B rb tb : Nat) (h : Nd) (qs : To) (o1 : Option Addr) (l1 c1 : Nat) (o2 : Option Addr) (l2 c2 : Nat) (x : Pt) (j0 : Nat) (fin : TmR) (w : World) (t : Value) (wx : World) : Prop :=
 ∃ (ps : To) (g c : Nat) (xs : List Value) (j n : Nat), t = .int .i64 (j : Nat) /\ j < ts.length /\ BrW B rb tb h qs o1 l1 c1 o2 l2 c2 x j0 w 9 0 0 0 0 .nil none 0 0 ps g c xs wx /\ ps.length + n = 9 /\ 1 <= ps.length /\ 1 <= n /\ (ps.length = 1 -> ps = .cons h qs .nil) /\ fin = shutQ ts i0 (comQ E ts n ps j)
theorem at_tok {ts : List Tok} {i : Nat} {t : Tok} (h : ts[i]? = some t) : at' ts i = (((t.fr : Nat) : Int), ((t.to : Nat) : Int)) := by unfold at'; rw [h]
theorem brackets_any (ts : List Tok) (g c : Nat) (E : Nat -> TmR) (T : Nat -> TyR) (i : Nat) (lv mo : Int) (w : World) (hsh : Shut ts) (hop : isT ts i 4 sOpen = true) (hin : ∀ j, j < ts.length -> TmIn' ts.length j (E j)) (hint : ∀ j, j < ts.length -> TyIn' ts.length j (T j)) (ht : TkAt w g ts) (hlv1 : -1000000 <= lv) (hlv2 : lv <= 900000)
    (hE : ∀ (j : Nat) (aj : Int) (W : World), aj = j -> j < ts.length -> Quiet0 w W -> Calls Tryz.prog 79 #[tks g ts c, .int .i64 aj, .int .i64 (lv + 1), .int .i64 mo] W (TmPost W (E j)))
    (hT : ∀ (j : Nat) (aj : Int) (W : World), aj = j -> j < ts.length -> Quiet0 w W -> Calls Tryz.prog 129 #[tks g ts c, .int .i64 aj, .int .i64 (lv + 2), .int .i64 mo] W (TyPost W (T j))) :
    Calls Tryz.prog 122 #[tks g ts c, .int .i64 i, .int .i64 lv, .int .i64 mo] w (TmPost w (brQ E T ts i (E (i + 1)))) := by
 have hlt := isT_lt hsh hop (by decide)
 obtain ⟨t9, ht9, _, _⟩ := isT_some hop
 have hfew := ht.few
 obtain ⟨W0, hW0⟩ : ∃ W0, W0 = w.alloc zRd := ⟨_, rfl⟩
 have HQ0 : Hid (Quiet0 w W0) := by rw [hW0]; exact Quiet0.alloc _ _
 have HB0 : Hid (W0.heap[w.heap.size]? = some (.cells (z13 0 0) 129 (0, 0))) := by show _ = _; rw [hW0]; exact heap_alloc_new w _
 have hz0 : W0.heap.size = w.heap.size + 1 := by rw [hW0]; simp
 have HC := hE (i + 1) ((i : Int) + 1) W0 (by omega) hlt HQ0.out
 have HI1 := hin (i + 1) hlt
 have HET := hid hE
 have HTT := hid hT
 have HIN := hid hin
 have HINT := hid hint
 have HSH := hid hsh
 have HSG : Hid (∀ (j : Nat) (s : ByteArray) (W : World), Quiet0 w W -> Calls Tryz.prog 121 #[tks g ts c, .int .i64 j, .string s] W fun e w' => e = .returned (.bool (isT ts j 4 s.data.toList)) /\ W = w') := fun j s W hq => sign_any ts g c j s W (ht.stay hq)
 have HCol : Hid (∀ (j : Nat) (W : World), Quiet0 w W -> Calls Tryz.prog 121 #[tks g ts c, .int .i64 j, .string ⟨#[58]⟩] W fun e w' => e = .returned (.bool (isT ts j 4 sColon)) /\ W = w') := fun j W hq => HSG.out j _ W hq
 have HCom : Hid (∀ (j : Nat) (W : World), Quiet0 w W -> Calls Tryz.prog 121 #[tks g ts c, .int .i64 j, .string ⟨#[44]⟩] W fun e w' => e = .returned (.bool (isT ts j 4 sComma)) /\ W = w') := fun j W hq => HSG.out j _ W hq
 have HClo : Hid (∀ (j : Nat) (W : World), Quiet0 w W -> Calls Tryz.prog 121 #[tks g ts c, .int .i64 j, .string ⟨#[41]⟩] W fun e w' => e = .returned (.bool (isT ts j 4 sClose)) /\ W = w') := fun j W hq => HSG.out j _ W hq
 have HCE : Hid (∀ (j : Nat) (t : Tok), ts[j]? = some t -> ∀ W, Quiet0 w W -> W.cell? ⟨g, j * 4, none⟩ = some (.int .i64 (t.kind : Nat)) /\ W.cell? ⟨g, j * 4 + 1, none⟩ = some (.string (toBA t.text)) /\ W.cell? ⟨g, j * 4 + 2, none⟩ = some (.int .i64 (t.fr : Nat)) /\ W.cell? ⟨g, j * 4 + 3, none⟩ = some (.int .i64 (t.to : Nat))) := fun j t h W hq => (ht.stay hq).cells j t h
 have HT9 := hid ht9
 obtain ⟨res, hres⟩ : ∃ res, brQ E T ts i (E (i + 1)) = res := ⟨_, rfl⟩
 have HRES := hid hres
 rw [hres]
 clear ht hE hT hin hint hsh hop ht9 hres
 go_enter Tryz.func122, Tryz.ntmps122
 go_wp2_with fail
 rw [<- hW0]
 clear hW0
 generalize hB : w.heap.size = B at *
 have HBE := hid hB
 clear hB
 cases hr : E (i + 1) with
 | inr y =>
  obtain ⟨j, er⟩ := y
  rw [hr] at HC HI1
  have hne : er ≠ 0 := HI1.2
  have hne2 : ((er : Int) != 0) = true := by simp [hne]
  refine HC.mono ?_; rintro e w2 ⟨rfl, hq2⟩
  obtain ⟨W3, hW3⟩ : ∃ W3, W3 = w2.alloc (.cells (z13 (j : Nat) (er : Nat)) 129) := ⟨_, rfl⟩
  have hqa : Quiet0 w2 W3 := by rw [hW3]; exact Quiet0.alloc _ _
  have hr3 : W3.heap[w2.heap.size]? = some (.cells (z13 (j : Nat) (er : Nat)) 129 (0, 0)) := by rw [hW3]; exact heap_alloc_new w2 _
  have hb3 := blk_fr (hq2.trans hqa) (fun h => h) HB0.out
  have HB3 := hid hb3
  have HQ3 := hid (HQ0.out.trans (hq2.trans hqa))
  go_upto_region 2 with fail
  change Code.wp _ _ _ _ (w2.alloc (.cells (z13 (j : Nat) (er : Nat)) 129))
  rw [<- hW3]
  clear hW3 hqa hq2 HI1
  generalize w2.heap.size = rb at *
  obtain ⟨x0, x1, x2, x3, x4, x5, x6, x7, x8, x9, x10, x11, x12⟩ := cells13 hb3
  have y0 := free13 hb3 0
  have y1 := free13 hb3 1
  have y2 := free13 hb3 2
  have y3 := free13 hb3 3
  have y4 := free13 hb3 4
  have y5 := free13 hb3 5
  have y6 := free13 hb3 6
  have y7 := free13 hb3 7
  have y8 := free13 hb3 8
  have y9 := free13 hb3 9
  have y10 := free13 hb3 10
  have y11 := free13 hb3 11
  have y12 := free13 hb3 12
  obtain ⟨r0, r1, r2, r3, r4, r5, r6, r7, r8, r9, r10, r11, r12⟩ := cells13 hr3
  clear hb3 hr3
  go_wp2_with fail
  have hf := put13_fr W3 B (.int .i64 0) (.string ⟨#[]⟩) (.int .i64 0) (.int .i64 0) (.int .i64 0) (.slice none 0 0) (.slice none 0 0) (.int .i64 0) (.int .i64 0) (.int .i64 0) (.int .i64 0) (.int .i64 (j : Nat)) (.int .i64 (er : Nat))
  have hqf : Quiet0 w (put13 W3 B (.int .i64 0) (.string ⟨#[]⟩) (.int .i64 0) (.int .i64 0) (.int .i64 0) (.slice none 0 0) (.slice none 0 0) (.int .i64 0) (.int .i64 0) (.int .i64 0) (.int .i64 0) (.int .i64 (j : Nat)) (.int .i64 (er : Nat))) := (HQ3.out).trans' hf (fun k hk e => by have := HBE.out; omega)
  obtain ⟨f0, f1, f2, f3, f4, f5, f6, f7, f8, f9, f10, f11, f12⟩ := cells13 (put13_block (a0 := .int .i64 0) (a1 := .string ⟨#[]⟩) (a2 := .int .i64 0) (a3 := .int .i64 0) (a4 := .int .i64 0) (a5 := .slice none 0 0) (a6 := .slice none 0 0) (a7 := .int .i64 0) (a8 := .int .i64 0) (a9 := .int .i64 0) (a10 := .int .i64 0) (a11 := .int .i64 (j : Nat)) (a12 := .int .i64 (er : Nat)) HB3.out)
  change bodyPost _ _ _ _ _ (put13 W3 B (.int .i64 0) (.string ⟨#[]⟩) (.int .i64 0) (.int .i64 0) (.int .i64 0) (.slice none 0 0) (.slice none 0 0) (.int .i64 0) (.int .i64 0) (.int .i64 0) (.int .i64 0) (.int .i64 (j : Nat)) (.int .i64 (er : Nat)))
  generalize put13 W3 B (.int .i64 0) (.string ⟨#[]⟩) (.int .i64 0) (.int .i64 0) (.int .i64 0) (.slice none 0 0) (.slice none 0 0) (.int .i64 0) (.int .i64 0) (.int .i64 0) (.int .i64 0) (.int .i64 (j : Nat)) (.int .i64 (er : Nat)) = wf at *
  refine bodyPost_ret (by simp [results, Tryz.results122, go_sem, f0, f1, f2, f3, f4, f5, f6, f7, f8, f9, f10, f11, f12]; rfl) rfl ?_
  rw [show res = .inr (j, er) from by rw [<- HRES.out, hr]; rfl]
  exact ⟨rfl, hqf⟩
 | inl y =>
  obtain ⟨⟨h, qs⟩, x, j0⟩ := y
  rw [hr] at HC HI1
  have hj1 : i + 1 < j0 /\ j0 < ts.length := HI1
  obtain ⟨fin, hfin⟩ : ∃ fin, midQ E T ts i h qs j0 = fin := ⟨_, rfl⟩
  have HBR : Hid (res = fin) := by show _ = _; rw [<- HRES.out, hr]; exact (br_mid E T ts i h qs x j0).trans hfin
  have HFIN := hid hfin
  refine HC.mono ?_; rintro e w2 ⟨o1, l1, c1, o2, l2, c2, rfl, hs1, hs2, hq2⟩
  obtain ⟨W3, hW3⟩ : ∃ W3, W3 = w2.alloc (.cells (c13 h o1 l1 c1 o2 l2 c2 x (j0 : Nat) 0) 129) := ⟨_, rfl⟩
  have hqa : Quiet0 w2 W3 := by rw [hW3]; exact Quiet0.alloc _ _
  have hr3 : W3.heap[w2.heap.size]? = some (.cells (c13 h o1 l1 c1 o2 l2 c2 x (j0 : Nat) 0) 129 (0, 0)) := by rw [hW3]; exact heap_alloc_new w2 _
  have hz3 : W3.heap.size = w2.heap.size + 1 := by rw [hW3]; simp
  have hw2 : B + 1 <= w2.heap.size := by have := hq2.size; omega
  go_upto_region 2 with fail
  change Code.wp _ _ _ _ (w2.alloc (.cells (c13 h o1 l1 c1 o2 l2 c2 x (j0 : Nat) 0) 129))
  rw [<- hW3]
  have HQ3 := hid (HQ0.out.trans (hq2.trans hqa))
  have HB3 := hid (blk_fr (hq2.trans hqa) (fun h => h) HB0.out)
  have HS1 : Hid (SlcIn (fun b => W0.heap.size <= b /\ b < w2.heap.size) W3 o1 l1 h.tp) := hs1.fr hqa (fun b hb k => ⟨⟨k, hb⟩, fun h => h⟩)
  have HS2 : Hid (TSlc (fun b => W0.heap.size <= b /\ b < w2.heap.size) W3 o2 l2 qs) := hs2.fr hqa (fun b hb k => ⟨⟨k, hb⟩, fun h => h⟩)
  clear hW3 hqa hq2 hs1 hs2 HC HI1 hfin hr
  generalize w2.heap.size = rb at *
  have HR3 := hid hr3
  obtain ⟨r0, r1, r2, r3, r4, r5, r6, r7, r8, r9, r10, r11, r12⟩ := cells13 hr3
  obtain ⟨W4, hW4⟩ : ∃ W4, W4 = W3.alloc (.cells (cells9 h o1 l1 c1 o2 l2 c2) 29) := ⟨_, rfl⟩
  obtain ⟨W5, hW5⟩ : ∃ W5, W5 = W4.alloc (.cells #[.int .i64 9, .string ⟨#[]⟩, .int .i64 0, .int .i64 0, .int .i64 0, .slice none 0 0, .slice (some ⟨rb + 1, 0, none⟩) 1 1, .int .i64 0, .int .i64 0] 29) := ⟨_, rfl⟩
  have hq4 : Quiet0 W3 W4 := by rw [hW4]; exact Quiet0.alloc _ _
  have hq5 : Quiet0 W4 W5 := by rw [hW5]; exact Quiet0.alloc _ _
  have hz4 : W4.heap.size = rb + 1 + 1 := by rw [hW4]; simp [hz3]
  have hb4 : W4.heap[rb + 1]? = some (.cells (cells9 h o1 l1 c1 o2 l2 c2) 29 (0, 0)) := by rw [hW4, <- hz3]; exact heap_alloc_new W3 _
  have hb5 : W5.heap[rb + 1 + 1]? = some (.cells #[.int .i64 9, .string ⟨#[]⟩, .int .i64 0, .int .i64 0, .int .i64 0, .slice none 0 0, .slice (some ⟨rb + 1, 0, none⟩) 1 1, .int .i64 0, .int .i64 0] 29 (0, 0)) := by rw [hW5, <- hz4]; exact heap_alloc_new W4 _
  have HBW : Hid (BrW B rb (rb + 1 + 1) h qs o1 l1 c1 o2 l2 c2 x j0 w 9 0 0 0 0 .nil none 0 0 (.cons h qs .nil) (rb + 1) 1 (cells9 h o1 l1 c1 o2 l2 c2).toList W5) := by
   have hq35 := hq4.trans hq5
   refine ⟨blk_after hq35 HB3.out, blk_after hq35 HR3.out, hb5, HS1.out.fr hq35 (fun b _ k => ⟨⟨by omega, by omega⟩, fun h => h⟩), HS2.out.fr hq35 (fun b _ k => ⟨⟨by omega, by omega⟩, fun h => h⟩), SlcIn.nil _ _ _, ?_, by simp [To.length], by omega, HQ3.out.trans hq35⟩
   refine ⟨⟨rfl, .inr ⟨rb + 1, 1, _, rfl, Nat.zero_le _, blk_after hq5 hb4, Nat.le_refl _, by decide, rfl, rfl⟩⟩, fun b hb => ?_, ⟨o1, l1, c1, o2, l2, c2, [], by simp, HS1.out.fr hq35 (fun b hb k => ⟨⟨⟨by omega, by omega, by omega⟩, fun e => by simp [Value.ownBlock] at e; omega⟩, fun h => h⟩), HS2.out.fr hq35 (fun b hb k => ⟨⟨⟨by omega, by omega, by omega⟩, fun e => by simp [Value.ownBlock] at e; omega⟩, fun h => h⟩), rfl⟩⟩
   simp [Value.ownBlock] at hb; subst hb; exact ⟨by omega, by omega, by omega⟩
  go_upto_region 5 with fail
  change Code.wp _ _ _ _ ((W3.alloc (.cells (cells9 h o1 l1 c1 o2 l2 c2) 29)).alloc (.cells #[.int .i64 9, .string ⟨#[]⟩, .int .i64 0, .int .i64 0, .int .i64 0, .slice none 0 0, .slice (some ⟨rb + 1, 0, none⟩) 1 1, .int .i64 0, .int .i64 0] 29))
  rw [<- hW4, <- hW5]
  have hr5 := HBW.out.r
  clear hW4 hW5 hq4 hq5 hb4 hb5 hr3 r0 r1 r2 r3 r4 r5 r6 r7 r8 r9 r10 r11 r12 hz4 HB3 HR3 HS1 HS2 HQ3
  have hrt : rb < rb + 1 + 1 := by omega
  have hBr : B < rb := by omega
  have hwr : w.heap.size <= rb := by have := HBE.out; omega
  generalize rb + 1 + 1 = tb at *
  generalize rb + 1 = g3 at *
  obtain ⟨r0, r1, r2, r3, r4, r5, r6, r7, r8, r9, r10, r11, r12⟩ := cells13 hr5
  clear hr5
  go_wp2_with fail
  refine (HCol.out j0 W5 HBW.out.q).mono ?_; rintro e w4 ⟨rfl, rfl⟩
  go_upto_if 35 with fail
  clear r0 r1 r2 r3 r4 r5 r6 r7 r8 r9 r10 r11 r12
  go_cut [11] (fun t wx => MidRel ts i B rb tb h qs o1 l1 c1 o2 l2 c2 x j0 fin w t wx)
  case first =>
   cases hcol : isT ts j0 4 sColon
   case true =>
    have hlt2 := isT_lt HSH.out hcol (by decide)
    have HFA : Hid (fin = annQ ts i h qs (T (j0 + 1))) := by show _ = _; rw [<- HFIN.out]; unfold midQ; rw [if_pos hcol]
    have HC := HTT.out (j0 + 1) ((j0 : Int) + 1) W5 (by omega) hlt2 HBW.out.q
    have HI2 := HINT.out (j0 + 1) hlt2
    cases hr2 : T (j0 + 1) with
    | inr y =>
     obtain ⟨j, er⟩ := y
     rw [hr2] at HC HI2
     have hne : er ≠ 0 := HI2.2
     have hne2 : ((er : Int) != 0) = true := by simp [hne]
     have HC2 := hid HC
     clear HC HI2
     go_wp2_with fail
     refine HC2.out.mono ?_; rintro e w6 ⟨rfl, hq6⟩
     obtain ⟨W7, hW7⟩ : ∃ W7, W7 = w6.alloc zTy := ⟨_, rfl⟩
     have hq7 : Quiet0 W5 W7 := by rw [hW7]; exact hq6.trans (Quiet0.alloc _ _)
     go_upto_region 8 with fail
     change Code.wp _ _ _ _ (w6.alloc zTy)
     rw [<- hW7]
     have HW7 := hid hq7
     have HWR := hid (wrong_any (j : Int) (er : Int) W7)
     clear hW7 hq6 hq7 HC2
     go_wp2_with fail
     refine HWR.out.mono ?_; rintro e w8 ⟨rfl, hq8⟩
     have HB8 := hid (HBW.out.stay (HW7.out.trans hq8))
     have hb8 := HB8.out.b
     clear hq8
     obtain ⟨x0, x1, x2, x3, x4, x5, x6, x7, x8, x9, x10, x11, x12⟩ := cells13 hb8
     have y0 := free13 hb8 0
     have y1 := free13 hb8 1
     have y2 := free13 hb8 2
     have y3 := free13 hb8 3
     have y4 := free13 hb8 4
     have y5 := free13 hb8 5
     have y6 := free13 hb8 6
     have y7 := free13 hb8 7
     have y8 := free13 hb8 8
     have y9 := free13 hb8 9
     have y10 := free13 hb8 10
     have y11 := free13 hb8 11
     have y12 := free13 hb8 12
     clear hb8
     go_wp2_with fail
     have hf := put13_fr w8 B (.int .i64 0) (.string ⟨#[]⟩) (.int .i64 0) (.int .i64 0) (.int .i64 0) (.slice none 0 0) (.slice none 0 0) (.int .i64 0) (.int .i64 0) (.int .i64 0) (.int .i64 0) (.int .i64 (j : Nat)) (.int .i64 (er : Nat))
     have hqf : Quiet0 w (put13 w8 B (.int .i64 0) (.string ⟨#[]⟩) (.int .i64 0) (.int .i64 0) (.int .i64 0) (.slice none 0 0) (.slice none 0 0) (.int .i64 0) (.int .i64 0) (.int .i64 0) (.int .i64 0) (.int .i64 (j : Nat)) (.int .i64 (er : Nat))) := (HB8.out.q).trans' hf (fun k hk e => by have := HBE.out; omega)
     obtain ⟨f0, f1, f2, f3, f4, f5, f6, f7, f8, f9, f10, f11, f12⟩ := cells13 (put13_block (a0 := .int .i64 0) (a1 := .string ⟨#[]⟩) (a2 := .int .i64 0) (a3 := .int .i64 0) (a4 := .int .i64 0) (a5 := .slice none 0 0) (a6 := .slice none 0 0) (a7 := .int .i64 0) (a8 := .int .i64 0) (a9 := .int .i64 0) (a10 := .int .i64 0) (a11 := .int .i64 (j : Nat)) (a12 := .int .i64 (er : Nat)) HB8.out.b)
     change bodyPost _ _ _ _ _ (put13 w8 B (.int .i64 0) (.string ⟨#[]⟩) (.int .i64 0) (.int .i64 0) (.int .i64 0) (.slice none 0 0) (.slice none 0 0) (.int .i64 0) (.int .i64 0) (.int .i64 0) (.int .i64 0) (.int .i64 (j : Nat)) (.int .i64 (er : Nat)))
     generalize put13 w8 B (.int .i64 0) (.string ⟨#[]⟩) (.int .i64 0) (.int .i64 0) (.int .i64 0) (.slice none 0 0) (.slice none 0 0) (.int .i64 0) (.int .i64 0) (.int .i64 0) (.int .i64 0) (.int .i64 (j : Nat)) (.int .i64 (er : Nat)) = wf at *
     refine bodyPost_ret (by simp [results, Tryz.results122, go_sem, f0, f1, f2, f3, f4, f5, f6, f7, f8, f9, f10, f11, f12]; rfl) rfl ?_
     rw [HBR.out, HFA.out, hr2, show annQ ts i h qs (.inr (j, er)) = .inr (j, er) from rfl]
     exact ⟨rfl, hqf⟩
    | inl y =>
     obtain ⟨⟨k, m, us⟩, j⟩ := y
     rw [hr2] at HC HI2
     have hj2 : j0 + 1 < j /\ j < ts.length := HI2
     have HC2 := hid HC
     have HR2 := hid hr2
     clear HC HI2 hr2
     go_wp2_with fail
     refine HC2.out.mono ?_; rintro e w6 ⟨po, pl, pc, rfl, hs6, hq6⟩
     obtain ⟨W7, hW7⟩ : ∃ W7, W7 = w6.alloc (.cells #[.int .i64 k, .int .i64 m, .slice po pl pc] 24) := ⟨_, rfl⟩
     have hqa : Quiet0 w6 W7 := by rw [hW7]; exact Quiet0.alloc _ _
     have hy7 : W7.heap[w6.heap.size]? = some (.cells #[.int .i64 k, .int .i64 m, .slice po pl pc] 24 (0, 0)) := by rw [hW7]; exact heap_alloc_new w6 _
     have HB7 := hid (HBW.out.stay (hq6.trans hqa))
     have ht5 := lt_of_block HBW.out.t
     have HS7 : Hid (SlcIn (fun b => B + 1 <= b /\ b ≠ rb /\ b ≠ tb) W7 po pl us) := hs6.fr hqa (fun b _ k => ⟨by have k' : W5.heap.size <= b := k; exact ⟨by omega, by omega, by omega⟩, fun h => h⟩)
     go_upto_region 10 with fail
     change Code.wp _ _ _ _ (w6.alloc (.cells #[.int .i64 k, .int .i64 m, .slice po pl pc] 24))
     rw [<- hW7]
     have hz6 := hq6.size
     have hyt : tb < w6.heap.size := by omega
     clear hW7 hqa hq6 hs6 HC2 ht5 hz6
     generalize w6.heap.size = yb at *
     have hn1 : ¬ tb = yb := by omega
     have hn2 : ¬ yb = tb := by omega
     have ht7 := HB7.out.t
     obtain ⟨⟨t0, t1, t2, t3, t4, t5, t6, t7, t8⟩, u0, u1, u2, u3, u4, u5, u6, u7, u8⟩ := block9 ht7
     obtain ⟨z0, z1, z2, _, _, _⟩ := box_cells3 hy7
     clear ht7 hy7
     go_region
     have hf8 : Fr (fun b => b = tb) W7 (((((W7.setCell ⟨tb, 0, none⟩ (.int .i64 10)).setCell ⟨tb, 3, none⟩ (.int .i64 k)).setCell ⟨tb, 4, none⟩ (.int .i64 m)).setCell ⟨tb, 5, none⟩ (.slice po pl pc)).drew) := ((((Fr.setCell (fun b => b = tb) _ ⟨tb, 0, none⟩ _ rfl).trans (Fr.setCell (fun b => b = tb) _ ⟨tb, 3, none⟩ _ rfl)).trans (Fr.setCell (fun b => b = tb) _ ⟨tb, 4, none⟩ _ rfl)).trans (Fr.setCell (fun b => b = tb) _ ⟨tb, 5, none⟩ _ rfl)).trans (Fr.drew _ _)
     have HB8 : Hid (BrW B rb tb h qs o1 l1 c1 o2 l2 c2 x j0 w 10 k m 0 0 us po pl pc (.cons h qs .nil) g3 1 (cells9 h o1 l1 c1 o2 l2 c2).toList (((((W7.setCell ⟨tb, 0, none⟩ (.int .i64 10)).setCell ⟨tb, 3, none⟩ (.int .i64 k)).setCell ⟨tb, 4, none⟩ (.int .i64 m)).setCell ⟨tb, 5, none⟩ (.slice po pl pc)).drew)) :=
      HB7.out.tset hf8 hBr hrt (by omega) (blk_drew (set_block (i := 5) (u := .slice po pl pc) (set_block (i := 4) (u := .int .i64 m) (set_block (i := 3) (u := .int .i64 k) (set_block (i := 0) (u := .int .i64 10) HB7.out.t))))) (HS7.out.fr hf8 (fun b _ k => ⟨k, k.2.2⟩))
     go_wp2_with fail
     go_meet
     exact ⟨10, k, m, us, po, pl, pc, .cons h qs .nil, g3, 1, _, j, rfl, hj2.2, HB8.out, by rw [HFA.out, HR2.out]; exact ann_tail ts i h qs k m us j⟩
   case false =>
    have HFA : Hid (fin = shutQ ts i (comQ E ts 8 (.cons h qs .nil) j0)) := by show _ = _; rw [<- HFIN.out]; unfold midQ; rw [if_neg (by rw [hcol]; simp)]
    go_wp2_with fail
    go_loopw [11] (fun t wr => ComRel E ts i B rb tb h qs o1 l1 c1 o2 l2 c2 x j0 fin w t wr) (fun t _ => ts.length - (intOf t).toNat)
    case atStart => exact ⟨.cons h qs .nil, g3, 1, _, j0, 8, rfl, hj1.2, HBW.out, rfl, Nat.le_refl _, by omega, fun _ => rfl, HFA.out⟩
    case round =>
     obtain ⟨ps, g4, c4, xs, j, n, rfl, hj, hbw, hn9, hp1, hn1, hone, hfe⟩ := hrel
     have HBR2 := hid hbw
     have HONE := hid hone
     have HFE := hid hfe
     clear hbw hone hfe
     go_wp2_with fail
     refine (HCom.out j wr HBR2.out.q).mono ?_; rintro e w4 ⟨rfl, rfl⟩
     cases cs : isT ts j 4 sComma
     case false =>
      go_wp2_with fail
      go_meet
      exact ⟨9, 0, 0, .nil, none, 0, 0, ps, g4, c4, xs, j, rfl, hj, HBR2.out, by rw [HFE.out, com_no cs]; exact com_tail ts i h qs ps j HONE.out⟩
     case true =>
      have hlt3 := isT_lt HSH.out cs (by decide)
      have ht4 := HBR2.out.t
      obtain ⟨⟨t0, t1, t2, t3, t4, t5, t6, t7, t8⟩, u0, u1, u2, u3, u4, u5, u6, u7, u8⟩ := block9 ht4
      clear ht4
      by_cases h8 : 8 <= ps.length
      ·have h8' : (8 : Int) <= (ps.length : Int) := by omega
       have h8'' : (ps.length : Int) ≥ 8 := h8'
       have HWR := hid (wrong_any (j : Int) 6 wr)
       go_wp2_with fail
       refine HWR.out.mono ?_; rintro e w8 ⟨rfl, hq8⟩
       have HB8 := hid (HBR2.out.stay hq8)
       have hb8 := HB8.out.b
       clear hq8 t0 t1 t2 t3 t4 t5 t6 t7 t8 u0 u1 u2 u3 u4 u5 u6 u7 u8
       obtain ⟨x0, x1, x2, x3, x4, x5, x6, x7, x8, x9, x10, x11, x12⟩ := cells13 hb8
       have y0 := free13 hb8 0
       have y1 := free13 hb8 1
       have y2 := free13 hb8 2
       have y3 := free13 hb8 3
       have y4 := free13 hb8 4
       have y5 := free13 hb8 5
       have y6 := free13 hb8 6
       have y7 := free13 hb8 7
       have y8 := free13 hb8 8
       have y9 := free13 hb8 9
       have y10 := free13 hb8 10
       have y11 := free13 hb8 11
       have y12 := free13 hb8 12
       clear hb8
       go_wp2_with fail
       have hf := put13_fr w8 B (.int .i64 0) (.string ⟨#[]⟩) (.int .i64 0) (.int .i64 0) (.int .i64 0) (.slice none 0 0) (.slice none 0 0) (.int .i64 0) (.int .i64 0) (.int .i64 0) (.int .i64 0) (.int .i64 (j : Nat)) (.int .i64 6)
       have hqf : Quiet0 w (put13 w8 B (.int .i64 0) (.string ⟨#[]⟩) (.int .i64 0) (.int .i64 0) (.int .i64 0) (.slice none 0 0) (.slice none 0 0) (.int .i64 0) (.int .i64 0) (.int .i64 0) (.int .i64 0) (.int .i64 (j : Nat)) (.int .i64 6)) := (HB8.out.q).trans' hf (fun k hk e => by have := HBE.out; omega)
       obtain ⟨f0, f1, f2, f3, f4, f5, f6, f7, f8, f9, f10, f11, f12⟩ := cells13 (put13_block (a0 := .int .i64 0) (a1 := .string ⟨#[]⟩) (a2 := .int .i64 0) (a3 := .int .i64 0) (a4 := .int .i64 0) (a5 := .slice none 0 0) (a6 := .slice none 0 0) (a7 := .int .i64 0) (a8 := .int .i64 0) (a9 := .int .i64 0) (a10 := .int .i64 0) (a11 := .int .i64 (j : Nat)) (a12 := .int .i64 6) HB8.out.b)
       change bodyPost _ _ _ _ _ (put13 w8 B (.int .i64 0) (.string ⟨#[]⟩) (.int .i64 0) (.int .i64 0) (.int .i64 0) (.slice none 0 0) (.slice none 0 0) (.int .i64 0) (.int .i64 0) (.int .i64 0) (.int .i64 0) (.int .i64 (j : Nat)) (.int .i64 6))
       generalize put13 w8 B (.int .i64 0) (.string ⟨#[]⟩) (.int .i64 0) (.int .i64 0) (.int .i64 0) (.slice none 0 0) (.slice none 0 0) (.int .i64 0) (.int .i64 0) (.int .i64 0) (.int .i64 0) (.int .i64 (j : Nat)) (.int .i64 6) = wf at *
       refine bodyPost_ret (by simp [results, Tryz.results122, go_sem, f0, f1, f2, f3, f4, f5, f6, f7, f8, f9, f10, f11, f12]; rfl) rfl ?_
       rw [HBR.out, HFE.out, com_many cs h8 hn1, show shutQ ts i (.inr (j, 6)) = .inr (j, 6) from rfl]
       exact ⟨rfl, hqf⟩
      ·have h8' : ¬ (8 : Int) <= (ps.length : Int) := by omega
       have h8'' : ¬ (ps.length : Int) ≥ 8 := h8'
       have HC := HET.out (j + 1) ((j : Int) + 1) wr (by omega) hlt3 HBR2.out.q
       have HI2 := HIN.out (j + 1) hlt3
       cases hr2 : E (j + 1) with
       | inr y =>
        obtain ⟨j2, er⟩ := y
        rw [hr2] at HC HI2
        have hne : er ≠ 0 := HI2.2
        have hne2 : ((er : Int) != 0) = true := by simp [hne]
        have HC2 := hid HC
        clear HC HI2
        go_wp2_with fail
        refine HC2.out.mono ?_; rintro e w6 ⟨rfl, hq6⟩
        obtain ⟨W7, hW7⟩ : ∃ W7, W7 = w6.alloc (.cells (z13 (j2 : Nat) (er : Nat)) 129) := ⟨_, rfl⟩
        have hqa : Quiet0 w6 W7 := by rw [hW7]; exact Quiet0.alloc _ _
        have hr7 : W7.heap[w6.heap.size]? = some (.cells (z13 (j2 : Nat) (er : Nat)) 129 (0, 0)) := by rw [hW7]; exact heap_alloc_new w6 _
        have HB7 := hid (HBR2.out.stay (hq6.trans hqa))
        go_upto_region 16 with fail
        change Code.wp _ _ _ _ (w6.alloc (.cells (z13 (j2 : Nat) (er : Nat)) 129))
        rw [<- hW7]
        clear hW7 hqa hq6 HC2 t0 t1 t2 t3 t4 t5 t6 t7 t8 u0 u1 u2 u3 u4 u5 u6 u7 u8
        generalize w6.heap.size = qb at *
        have hb7 := HB7.out.b
        obtain ⟨x0, x1, x2, x3, x4, x5, x6, x7, x8, x9, x10, x11, x12⟩ := cells13 hb7
        have y0 := free13 hb7 0
        have y1 := free13 hb7 1
        have y2 := free13 hb7 2
        have y3 := free13 hb7 3
        have y4 := free13 hb7 4
        have y5 := free13 hb7 5
        have y6 := free13 hb7 6
        have y7 := free13 hb7 7
        have y8 := free13 hb7 8
        have y9 := free13 hb7 9
        have y10 := free13 hb7 10
        have y11 := free13 hb7 11
        have y12 := free13 hb7 12
        obtain ⟨q0, q1, q2, q3, q4, q5, q6, q7, q8, q9, q10, q11, q12⟩ := cells13 hr7
        clear hb7 hr7
        go_wp2_with fail
        have hf := put13_fr W7 B (.int .i64 0) (.string ⟨#[]⟩) (.int .i64 0) (.int .i64 0) (.int .i64 0) (.slice none 0 0) (.slice none 0 0) (.int .i64 0) (.int .i64 0) (.int .i64 0) (.int .i64 0) (.int .i64 (j2 : Nat)) (.int .i64 (er : Nat))
        have hqf : Quiet0 w (put13 W7 B (.int .i64 0) (.string ⟨#[]⟩) (.int .i64 0) (.int .i64 0) (.int .i64 0) (.slice none 0 0) (.slice none 0 0) (.int .i64 0) (.int .i64 0) (.int .i64 0) (.int .i64 0) (.int .i64 (j2 : Nat)) (.int .i64 (er : Nat))) := (HB7.out.q).trans' hf (fun k hk e => by have := HBE.out; omega)
        obtain ⟨f0, f1, f2, f3, f4, f5, f6, f7, f8, f9, f10, f11, f12⟩ := cells13 (put13_block (a0 := .int .i64 0) (a1 := .string ⟨#[]⟩) (a2 := .int .i64 0) (a3 := .int .i64 0) (a4 := .int .i64 0) (a5 := .slice none 0 0) (a6 := .slice none 0 0) (a7 := .int .i64 0) (a8 := .int .i64 0) (a9 := .int .i64 0) (a10 := .int .i64 0) (a11 := .int .i64 (j2 : Nat)) (a12 := .int .i64 (er : Nat)) HB7.out.b)
        change bodyPost _ _ _ _ _ (put13 W7 B (.int .i64 0) (.string ⟨#[]⟩) (.int .i64 0) (.int .i64 0) (.int .i64 0) (.slice none 0 0) (.slice none 0 0) (.int .i64 0) (.int .i64 0) (.int .i64 0) (.int .i64 0) (.int .i64 (j2 : Nat)) (.int .i64 (er : Nat)))
        generalize put13 W7 B (.int .i64 0) (.string ⟨#[]⟩) (.int .i64 0) (.int .i64 0) (.int .i64 0) (.slice none 0 0) (.slice none 0 0) (.int .i64 0) (.int .i64 0) (.int .i64 0) (.int .i64 0) (.int .i64 (j2 : Nat)) (.int .i64 (er : Nat)) = wf at *
        refine bodyPost_ret (by simp [results, Tryz.results122, go_sem, f0, f1, f2, f3, f4, f5, f6, f7, f8, f9, f10, f11, f12]; rfl) rfl ?_
        rw [HBR.out, HFE.out, com_bad cs h8 hn1 hr2, show shutQ ts i (.inr (j2, er)) = .inr (j2, er) from rfl]
        exact ⟨rfl, hqf⟩
       | inl y =>
        obtain ⟨⟨h2, qs2⟩, x2, j2⟩ := y
        rw [hr2] at HC HI2
        have hj2 : j + 1 < j2 /\ j2 < ts.length := HI2
        have HC2 := hid HC
        clear HC HI2
        go_wp2_with fail
        refine HC2.out.mono ?_; rintro e w6 ⟨p1, m1, d1, p2, m2, d2, rfl, hs3, hs4, hq6⟩
        obtain ⟨W7, hW7⟩ : ∃ W7, W7 = w6.alloc (.cells (c13 h2 p1 m1 d1 p2 m2 d2 x2 (j2 : Nat) 0) 129) := ⟨_, rfl⟩
        have hqa : Quiet0 w6 W7 := by rw [hW7]; exact Quiet0.alloc _ _
        have hr7 : W7.heap[w6.heap.size]? = some (.cells (c13 h2 p1 m1 d1 p2 m2 d2 x2 (j2 : Nat) 0) 129 (0, 0)) := by rw [hW7]; exact heap_alloc_new w6 _
        have HB7 := hid (HBR2.out.stay (hq6.trans hqa))
        have ht5 := lt_of_block HBR2.out.t
        have hr5 := lt_of_block HBR2.out.r
        have hg5 : g4 < wr.heap.size := (HBR2.out.row.own.lt g4 rfl).2
        have HS3 : Hid (SlcIn (fun b => (B + 1 <= b /\ b ≠ rb /\ b ≠ tb) /\ (Value.slice (some ⟨g4, 0, none⟩) ps.length c4).ownBlock ≠ some b) W7 p1 m1 h2.tp) := hs3.fr hqa (fun b _ k => ⟨by have k' : wr.heap.size <= b := k; exact ⟨⟨by omega, by omega, by omega⟩, fun e => by simp [Value.ownBlock] at e; omega⟩, fun h => h⟩)
        have HS4 : Hid (TSlc (fun b => (B + 1 <= b /\ b ≠ rb /\ b ≠ tb) /\ (Value.slice (some ⟨g4, 0, none⟩) ps.length c4).ownBlock ≠ some b) W7 p2 m2 qs2) := hs4.fr hqa (fun b _ k => ⟨by have k' : wr.heap.size <= b := k; exact ⟨⟨by omega, by omega, by omega⟩, fun e => by simp [Value.ownBlock] at e; omega⟩, fun h => h⟩)
        go_upto_region 18 with fail
        change Code.wp _ _ _ _ (w6.alloc (.cells (c13 h2 p1 m1 d1 p2 m2 d2 x2 (j2 : Nat) 0) 129))
        rw [<- hW7]
        have hz6 := hq6.size
        have hqt : tb < w6.heap.size := by omega
        have hqg : g4 < w6.heap.size := by omega
        clear hW7 hqa hq6 HC2 hs3 hs4 ht5 hr5 hg5 hz6 t0 t1 t2 t3 t4 t5 t6 t7 t8 u0 u1 u2 u3 u4 u5 u6 u7 u8
        generalize w6.heap.size = qb at *
        have ht7 := HB7.out.t
        have HR7 := hid hr7
        obtain ⟨⟨t0, t1, t2, t3, t4, t5, t6, t7, t8⟩, u0, u1, u2, u3, u4, u5, u6, u7, u8⟩ := block9 ht7
        obtain ⟨q0, q1, q2, q3, q4, q5, q6, q7, q8, q9, q10, q11, q12⟩ := cells13 hr7
        clear ht7 hr7
        go_wp2_with (at_builtin; go_must (refine wpList_append_one W7 rfl (.tmp 77) (.tmp 80) 25 rfl 29 _ 9 112 elemTm (.slice (some ⟨g4, 0, none⟩) ps.length c4) ps.length xs rfl HB7.out.row.own (cells9 h2 p1 m1 d1 p2 m2 d2) rfl rfl (by simp [Value.oneCell']) (by unfold maxLen; omega) (by omega) ?_))
        intro g5 c5 w8 ho hf8 hg8
        have hlow := HB7.out.row.low g4 rfl
        have hg8' : ∀ b, (Value.slice (some ⟨g4, 0, none⟩) ps.length c4).ownBlock = some b -> b = g4 := fun b e => by simp [Value.ownBlock] at e; exact e.symm
        have ht8 := blk_fr hf8 (fun e => hlow.2.2 (hg8' _ e).symm) HB7.out.t
        have hr8 := blk_fr hf8 (fun e => by have := hg8' _ e; omega) HR7.out
        clear t0 t1 t2 t3 t4 t5 t6 t7 t8 u0 u1 u2 u3 u4 u5 u6 u7 u8 q0 q1 q2 q3 q4 q5 q6 q7 q8 q9 q10 q11 q12
        obtain ⟨⟨t0, t1, t2, t3, t4, t5, t6, t7, t8⟩, u0, u1, u2, u3, u4, u5, u6, u7, u8⟩ := block9 ht8
        go_upto_region 19 with fail
        have HB9 := hid (HB7.out.next hBr hrt hwr HS3.out HS4.out ho hf8 hg8 (by omega) rfl)
        have hr9 := blk_fr (Fr.setCell (fun b => b = tb) w8 ⟨tb, 6, none⟩ (.slice (some ⟨g5, 0, none⟩) (ps.length + 1) c5) rfl) (by omega) hr8
        clear t0 t1 t2 t3 t4 t5 t6 t7 t8 u0 u1 u2 u3 u4 u5 u6 u7 u8 ht8 hr8 ho hf8 hg8 hg8'
        change Code.wp _ _ _ _ (w8.setCell ⟨tb, 6, none⟩ (.slice (some ⟨g5, 0, none⟩) (ps.length + 1) c5))
        generalize w8.setCell ⟨tb, 6, none⟩ (.slice (some ⟨g5, 0, none⟩) (ps.length + 1) c5) = W9 at *
        obtain ⟨q0, q1, q2, q3, q4, q5, q6, q7, q8, q9, q10, q11, q12⟩ := cells13 hr9
        clear hr9
        have hlen : (ps.app (.cons h2 qs2 .nil)).length = ps.length + 1 := by rw [To.app_length]; simp [To.length]
        go_wp2_with fail
        go_roundw
        case rel => exact ⟨_, g5, c5, _, j2, n - 1, rfl, hj2.2, HB9.out, by omega, by omega, by omega, fun e => by omega, by rw [HFE.out, com_more cs h8 hn1 hr2]⟩
        case measure => simp [intOf]; omega
  case rest =>
   rename World => wx
   obtain ⟨k, tk, tn, tp, po, pl, pc, ps, g4, c4, xs, j, rfl, hj, hbw, hfe⟩ := hcut
   have HB := hid hbw
   have HFE := hid hfe
   clear hbw hfe HBW HFIN
   go_wp2_with fail
   refine (HClo.out j wx HB.out.q).mono ?_; rintro e w4 ⟨rfl, rfl⟩
   cases cc : isT ts j 4 sClose
   case false =>
    have HWR := hid (wrong_any (j : Int) 3 wx)
    go_wp2_with fail
    refine HWR.out.mono ?_; rintro e w8 ⟨rfl, hq8⟩
    have HB8 := hid (HB.out.stay hq8)
    have hb8 := HB8.out.b
    clear hq8
    obtain ⟨x0, x1, x2, x3, x4, x5, x6, x7, x8, x9, x10, x11, x12⟩ := cells13 hb8
    have y0 := free13 hb8 0
    have y1 := free13 hb8 1
    have y2 := free13 hb8 2
    have y3 := free13 hb8 3
    have y4 := free13 hb8 4
    have y5 := free13 hb8 5
    have y6 := free13 hb8 6
    have y7 := free13 hb8 7
    have y8 := free13 hb8 8
    have y9 := free13 hb8 9
    have y10 := free13 hb8 10
    have y11 := free13 hb8 11
    have y12 := free13 hb8 12
    clear hb8
    go_wp2_with fail
    have hf := put13_fr w8 B (.int .i64 0) (.string ⟨#[]⟩) (.int .i64 0) (.int .i64 0) (.int .i64 0) (.slice none 0 0) (.slice none 0 0) (.int .i64 0) (.int .i64 0) (.int .i64 0) (.int .i64 0) (.int .i64 (j : Nat)) (.int .i64 3)
    have hqf : Quiet0 w (put13 w8 B (.int .i64 0) (.string ⟨#[]⟩) (.int .i64 0) (.int .i64 0) (.int .i64 0) (.slice none 0 0) (.slice none 0 0) (.int .i64 0) (.int .i64 0) (.int .i64 0) (.int .i64 0) (.int .i64 (j : Nat)) (.int .i64 3)) := (HB8.out.q).trans' hf (fun k hk e => by have := HBE.out; omega)
    obtain ⟨f0, f1, f2, f3, f4, f5, f6, f7, f8, f9, f10, f11, f12⟩ := cells13 (put13_block (a0 := .int .i64 0) (a1 := .string ⟨#[]⟩) (a2 := .int .i64 0) (a3 := .int .i64 0) (a4 := .int .i64 0) (a5 := .slice none 0 0) (a6 := .slice none 0 0) (a7 := .int .i64 0) (a8 := .int .i64 0) (a9 := .int .i64 0) (a10 := .int .i64 0) (a11 := .int .i64 (j : Nat)) (a12 := .int .i64 3) HB8.out.b)
    change bodyPost _ _ _ _ _ (put13 w8 B (.int .i64 0) (.string ⟨#[]⟩) (.int .i64 0) (.int .i64 0) (.int .i64 0) (.slice none 0 0) (.slice none 0 0) (.int .i64 0) (.int .i64 0) (.int .i64 0) (.int .i64 0) (.int .i64 (j : Nat)) (.int .i64 3))
    generalize put13 w8 B (.int .i64 0) (.string ⟨#[]⟩) (.int .i64 0) (.int .i64 0) (.int .i64 0) (.slice none 0 0) (.slice none 0 0) (.int .i64 0) (.int .i64 0) (.int .i64 0) (.int .i64 0) (.int .i64 (j : Nat)) (.int .i64 3) = wf at *
    refine bodyPost_ret (by simp [results, Tryz.results122, go_sem, f0, f1, f2, f3, f4, f5, f6, f7, f8, f9, f10, f11, f12]; rfl) rfl ?_
    rw [HBR.out, HFE.out, show tailQ ts i h qs k tk tn tp ps j = .inr (j, 3) from by unfold tailQ; rw [if_neg (by rw [cc]; simp)]]
    exact ⟨rfl, hqf⟩
   case true =>
    obtain ⟨t8, ht8, _, _⟩ := isT_some cc
    have hji := (List.getElem?_eq_some_iff.1 HT9.out).1
    have HE : Hid (joinP (at' ts i) (at' ts j) = joinP (((t9.fr : Nat) : Int), ((t9.to : Nat) : Int)) (((t8.fr : Nat) : Int), ((t8.to : Nat) : Int))) := by show _ = _; rw [at_tok HT9.out, at_tok ht8]
    have HJ : Hid (∀ W, Calls Tryz.prog 105 #[.agg #[.int .i64 (t9.fr : Nat), .int .i64 (t9.to : Nat)], .agg #[.int .i64 (t8.fr : Nat), .int .i64 (t8.to : Nat)]] W fun e w' => e = .returned (.agg #[.int .i64 (joinP (at' ts i) (at' ts j)).1, .int .i64 (joinP (at' ts i) (at' ts j)).2]) /\ Quiet0 W w') := fun W => by rw [HE.out]; exact join_any _ _ _ _ W
    obtain ⟨k0, k1, k2, k3⟩ := HCE.out i t9 HT9.out wx HB.out.q
    obtain ⟨l0, l1', l2', l3⟩ := HCE.out j t8 ht8 wx HB.out.q
    have hi' : (i : Int) < ts.length := by omega
    have hi0 : (0 : Int) <= i := by omega
    have hj' : (j : Int) < ts.length := by omega
    have hj0 : (0 : Int) <= j := by omega
    have HTJ : Hid (∀ r, tailQ ts i h qs k tk tn tp ps j = r ↔ (if k = 9 /\ ps.length = 1 then .inl ((h, qs), joinP (at' ts i) (at' ts j), j + 1) else .inl ((⟨k, ⟨#[]⟩, 0, tk, tn, tp, (joinP (at' ts i) (at' ts j)).1, (joinP (at' ts i) (at' ts j)).2⟩, ps), joinP (at' ts i) (at' ts j), j + 1)) = r) := by intro r; unfold tailQ; rw [if_pos cc]
    clear ht8 HT9 cc HE
    generalize joinP (at' ts i) (at' ts j) = jp at *
    have hqc := Quiet0.refl wx
    go_upto_region 22 with fail
    go_cut [101] (fun _ wx9 => BrW B rb tb h qs o1 l1 c1 o2 l2 c2 x j0 w k tk tn jp.1 jp.2 tp po pl pc ps g4 c4 xs wx9)
    case first =>
     go_region_law (first
      | (go_simp; go_at_call 105; (with_reducible refine Calls.mono (HJ.out _) ?_); rintro e w7 ⟨rfl, hq7⟩; have hqw : Quiet0 wx w7 := Quiet0.trans (by (repeat with_reducible first | exact hqc | exact Quiet0.refl _ | refine jq ?_ | refine jr ?_)) hq7; have HB7 := hid (HB.out.stay hqw); have ht7 := HB7.out.t; obtain ⟨⟨t0, t1, t2, t3, t4, t5, t6, t7, t8⟩, u0, u1, u2, u3, u4, u5, u6, u7, u8⟩ := block9 ht7; clear hqw hq7 ht7)
      | fail)
     all_goals
      have hf8 : Fr (fun b => b = tb) w7 ((w7.setCell ⟨tb, 7, none⟩ (.int .i64 jp.1)).setCell ⟨tb, 8, none⟩ (.int .i64 jp.2)) := (Fr.setCell (fun b => b = tb) w7 ⟨tb, 7, none⟩ (.int .i64 jp.1) rfl).trans (Fr.setCell (fun b => b = tb) _ ⟨tb, 8, none⟩ (.int .i64 jp.2) rfl)
      have HX := hid (HB7.out.tset (tk' := tk) (tn' := tn) (tp' := tp) (k' := k) (fr' := jp.1) (en' := jp.2) (po' := po) (pl' := pl) (pc' := pc) hf8 hBr hrt (by omega) (set_block (i := 8) (u := .int .i64 jp.2) (set_block (i := 7) (u := .int .i64 jp.1) HB7.out.t)) (HB7.out.s3.fr hf8 (fun b _ k => ⟨k, k.2.2⟩)))
      clear hf8 t0 t1 t2 t3 t4 t5 t6 t7 t8 u0 u1 u2 u3 u4 u5 u6 u7 u8
      go_wp2_with fail
      go_meet
      first
       | with_reducible exact HX.out
       | with_reducible exact HX.out.stay (Quiet0.drew _)
       | exact HX.out
    case rest =>
     rename World => W8
     have HX := hid hcut
     clear hcut
     have hx8 := HX.out.t
     have hb8 := HX.out.b
     obtain ⟨⟨t0, t1, t2, t3, t4, t5, t6, t7, t8⟩, u0, u1, u2, u3, u4, u5, u6, u7, u8⟩ := block9 hx8
     obtain ⟨x0, x1, x2, x3, x4, x5, x6, x7, x8, x9, x10, x11, x12⟩ := cells13 hb8
     have y0 := free13 hb8 0
     have y1 := free13 hb8 1
     have y2 := free13 hb8 2
     have y3 := free13 hb8 3
     have y4 := free13 hb8 4
     have y5 := free13 hb8 5
     have y6 := free13 hb8 6
     have y7 := free13 hb8 7
     have y8 := free13 hb8 8
     have y9 := free13 hb8 9
     have y10 := free13 hb8 10
     have y11 := free13 hb8 11
     have y12 := free13 hb8 12
     clear hx8 hb8
     by_cases h91 : k = 9 /\ ps.length = 1
     ·have hk9 : (k == 9) = true := by simp [h91.1]
      have hl1 : ((ps.length : Int) == 1) = true := by simp [h91.2]
      have HRT : Hid (res = .inl ((h, qs), jp, j + 1)) := by show _ = _; rw [HBR.out, HFE.out, HTJ.out, if_pos h91]
      have hr8 := HX.out.r
      obtain ⟨r0, r1, r2, r3, r4, r5, r6, r7, r8, r9, r10, r11, r12⟩ := cells13 hr8
      clear hr8 h91
      go_wp2_with fail
      have hf := put13_fr W8 B (.int .i64 h.k) (.string h.nm) (.int .i64 h.n) (.int .i64 h.tk) (.int .i64 h.tn) (.slice o1 l1 c1) (.slice o2 l2 c2) (.int .i64 h.fr) (.int .i64 h.en) (.int .i64 jp.1) (.int .i64 jp.2) (.int .i64 ((j : Int) + 1)) (.int .i64 0)
      have hqf : Quiet0 w (put13 W8 B (.int .i64 h.k) (.string h.nm) (.int .i64 h.n) (.int .i64 h.tk) (.int .i64 h.tn) (.slice o1 l1 c1) (.slice o2 l2 c2) (.int .i64 h.fr) (.int .i64 h.en) (.int .i64 jp.1) (.int .i64 jp.2) (.int .i64 ((j : Int) + 1)) (.int .i64 0)) := (HX.out.q).trans' hf (fun k hk e => by have := HBE.out; omega)
      obtain ⟨f0, f1, f2, f3, f4, f5, f6, f7, f8, f9, f10, f11, f12⟩ := cells13 (put13_block (a0 := .int .i64 h.k) (a1 := .string h.nm) (a2 := .int .i64 h.n) (a3 := .int .i64 h.tk) (a4 := .int .i64 h.tn) (a5 := .slice o1 l1 c1) (a6 := .slice o2 l2 c2) (a7 := .int .i64 h.fr) (a8 := .int .i64 h.en) (a9 := .int .i64 jp.1) (a10 := .int .i64 jp.2) (a11 := .int .i64 ((j : Int) + 1)) (a12 := .int .i64 0) HX.out.b)
      change bodyPost _ _ _ _ _ (put13 W8 B (.int .i64 h.k) (.string h.nm) (.int .i64 h.n) (.int .i64 h.tk) (.int .i64 h.tn) (.slice o1 l1 c1) (.slice o2 l2 c2) (.int .i64 h.fr) (.int .i64 h.en) (.int .i64 jp.1) (.int .i64 jp.2) (.int .i64 ((j : Int) + 1)) (.int .i64 0))
      generalize put13 W8 B (.int .i64 h.k) (.string h.nm) (.int .i64 h.n) (.int .i64 h.tk) (.int .i64 h.tn) (.slice o1 l1 c1) (.slice o2 l2 c2) (.int .i64 h.fr) (.int .i64 h.en) (.int .i64 jp.1) (.int .i64 jp.2) (.int .i64 ((j : Int) + 1)) (.int .i64 0) = wf at *
      refine bodyPost_ret (by simp [results, Tryz.results122, go_sem, f0, f1, f2, f3, f4, f5, f6, f7, f8, f9, f10, f11, f12]; rfl) rfl ?_
      rw [HRT.out]
      exact ⟨o1, l1, c1, o2, l2, c2, rfl, HX.out.s1.fr hf (fun b _ k => ⟨by have := HBE.out; have := k.1; show w.heap.size <= b; omega, by have := k.1; omega⟩), HX.out.s2.fr hf (fun b _ k => ⟨by have := HBE.out; have := k.1; show w.heap.size <= b; omega, by have := k.1; omega⟩), hqf⟩
     ·have HRT : Hid (res = .inl ((⟨k, ⟨#[]⟩, 0, tk, tn, tp, jp.1, jp.2⟩, ps), jp, j + 1)) := by show _ = _; rw [HBR.out, HFE.out, HTJ.out, if_neg h91]
      have HSP := hid (HX.out.row.slc rfl (by have := HX.out.few; unfold maxLen; omega))
      cases hk9 : (k == 9)
      case' false => skip
      case' true => have hl1 : ((ps.length : Int) == 1) = false := by (have hk : k = 9 := by simpa using hk9); simp; intro e; exact h91 ⟨hk, by omega⟩
      all_goals
       clear h91
       go_wp2_with fail
       have hf := put13_fr W8 B (.int .i64 k) (.string ⟨#[]⟩) (.int .i64 0) (.int .i64 tk) (.int .i64 tn) (.slice po pl pc) (.slice (some ⟨g4, 0, none⟩) ps.length c4) (.int .i64 jp.1) (.int .i64 jp.2) (.int .i64 jp.1) (.int .i64 jp.2) (.int .i64 ((j : Int) + 1)) (.int .i64 0)
       have hqf : Quiet0 w (put13 W8 B (.int .i64 k) (.string ⟨#[]⟩) (.int .i64 0) (.int .i64 tk) (.int .i64 tn) (.slice po pl pc) (.slice (some ⟨g4, 0, none⟩) ps.length c4) (.int .i64 jp.1) (.int .i64 jp.2) (.int .i64 jp.1) (.int .i64 jp.2) (.int .i64 ((j : Int) + 1)) (.int .i64 0)) := (HX.out.q).trans' hf (fun k hk e => by have := HBE.out; omega)
       obtain ⟨f0, f1, f2, f3, f4, f5, f6, f7, f8, f9, f10, f11, f12⟩ := cells13 (put13_block (a0 := .int .i64 k) (a1 := .string ⟨#[]⟩) (a2 := .int .i64 0) (a3 := .int .i64 tk) (a4 := .int .i64 tn) (a5 := .slice po pl pc) (a6 := .slice (some ⟨g4, 0, none⟩) ps.length c4) (a7 := .int .i64 jp.1) (a8 := .int .i64 jp.2) (a9 := .int .i64 jp.1) (a10 := .int .i64 jp.2) (a11 := .int .i64 ((j : Int) + 1)) (a12 := .int .i64 0) HX.out.b)
       change bodyPost _ _ _ _ _ (put13 W8 B (.int .i64 k) (.string ⟨#[]⟩) (.int .i64 0) (.int .i64 tk) (.int .i64 tn) (.slice po pl pc) (.slice (some ⟨g4, 0, none⟩) ps.length c4) (.int .i64 jp.1) (.int .i64 jp.2) (.int .i64 jp.1) (.int .i64 jp.2) (.int .i64 ((j : Int) + 1)) (.int .i64 0))
       generalize put13 W8 B (.int .i64 k) (.string ⟨#[]⟩) (.int .i64 0) (.int .i64 tk) (.int .i64 tn) (.slice po pl pc) (.slice (some ⟨g4, 0, none⟩) ps.length c4) (.int .i64 jp.1) (.int .i64 jp.2) (.int .i64 jp.1) (.int .i64 jp.2) (.int .i64 ((j : Int) + 1)) (.int .i64 0) = wf at *
       refine bodyPost_ret (by simp [results, Tryz.results122, go_sem, f0, f1, f2, f3, f4, f5, f6, f7, f8, f9, f10, f11, f12]; rfl) rfl ?_
       rw [HRT.out]
       exact ⟨po, pl, pc, some ⟨g4, 0, none⟩, ps.length, c4, rfl, HX.out.s3.fr hf (fun b _ k => ⟨by have := HBE.out; have := k.1; show w.heap.size <= b; omega, by have := k.1; omega⟩), HSP.out.fr hf (fun b _ k => ⟨by have := HBE.out; have := k.1; show w.heap.size <= b; omega, by have := k.1; omega⟩), hqf⟩
end Pa
end
end Go.Proofs.YtcninopmelmajaaGreatDoor
