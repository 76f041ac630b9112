/-
  Texts laid together (EqMean, TyShift, EqShift, EqCopy, EqRun, EmLk, EmOk, EqMany0): laws and walks, with their conditions.
-/
import Derived.WalkMore
import Derived.Test.YtcninopmelmajaaGreatDoorMN11
set_option maxHeartbeats 8000000
set_option maxRecDepth 1000000
namespace Go.Proofs.YtcninopmelmajaaGreatDoor
open Go.Lib (hid)
section
open Go.RowKit
namespace Em
abbrev NBd : Nat := 500000000
def MeanT (most : Int) (pb lo : Nat) (W0 : World) (v : Value) (f : Pm Ty) : Prop := ∃ (F : Nat) (lb : Array Value), v = .func (.func F) #[] lb /\ (∀ args w, (callFunc F args).run Tryz.prog w = .ok (.enter F args) w) /\
 ∀ (W : World) (X : Nat -> Prop) (mk : Mk) (a b : Int), Later pb W0 W -> MkE X most pb W mk -> lo <= mk.next -> (f mk).2.next <= NBd -> Calls Tryz.prog F (#[.pointer (some ⟨pb, 0, none⟩), .agg #[.int .i64 a, .int .i64 b]] ++ lb) W (MkQ X most pb W (f mk))
theorem MeanT.later {most : Int} {pb lo lo' : Nat} {W0 W1 : World} {v : Value} {f : Pm Ty} (h : MeanT most pb lo W0 v f) (hl : Later pb W0 W1) (hlo : lo <= lo') : MeanT most pb lo' W1 v f := by
 obtain ⟨F, lb, h1, h2, h3⟩ := h
 exact ⟨F, lb, h1, h2, fun W X mk a b hw hm hn => h3 W X mk a b (hl.trans hw) hm (by omega)⟩
inductive EnvM (most : Int) (pb lo : Nat) (W0 : World) : FEnv -> Env -> Prop
 | nil : EnvM most pb lo W0 [] []
 | cons {s : ByteArray} {v : Value} {f : Pm Ty} {e : FEnv} {E : Env} : MeanT most pb lo W0 v f -> NM f -> EnvM most pb lo W0 e E -> EnvM most pb lo W0 ((s, v) :: e) ((s, f) :: E)
theorem EnvM.later {most : Int} {pb lo lo' : Nat} {W0 W1 : World} {e : FEnv} {E : Env} (h : EnvM most pb lo W0 e E) (hl : Later pb W0 W1) (hlo : lo <= lo') : EnvM most pb lo' W1 e E := by
 induction h with
 | nil => exact .nil
 | cons h1 h2 _ ih => exact .cons (h1.later hl hlo) h2 ih
theorem EnvM.ne {most : Int} {pb lo : Nat} {W0 : World} {e : FEnv} {E : Env} (h : EnvM most pb lo W0 e E) : NE E := by
 induction h with
 | nil => exact NE.nil
 | cons _ h2 _ ih => exact ih.cons h2
def lookF : FEnv -> ByteArray -> Option Value
 | [], _ => none
 | x :: r, s => if x.1 = s then some x.2 else lookF r s
theorem EnvM.look {most : Int} {pb lo : Nat} {W0 : World} {e : FEnv} {E : Env} (h : EnvM most pb lo W0 e E) {s : ByteArray} {v : Value} (hv : lookF e s = some v) : MeanT most pb lo W0 v (lookE E s) := by
 induction h with
 | nil => cases hv
 | cons h1 _ _ ih =>
  unfold lookF at hv
  unfold lookE
  split at hv
  ·next hs =>
   cases hv
   rw [if_pos hs]; exact h1
  ·next hs => rw [if_neg hs]; exact ih hv
theorem lookF_some : ∀ (e : FEnv) (s : ByteArray), s ∈ e.map Prod.fst -> ∃ v, lookF e s = some v
 | [], s, h => by cases h
 | x :: r, s, h => by
  unfold lookF
  by_cases hs : x.1 = s
  ·exact ⟨x.2, by rw [if_pos hs]⟩
  ·rw [if_neg hs]
   refine lookF_some r s ?_
   rcases List.mem_cons.1 h with h | h
   ·exact absurd h.symm hs
   ·exact h
def lookAt (e : FEnv) (s : ByteArray) (i : Nat) : Option Value := lookF (e.drop (e.length - i)) s
theorem lookAt_succ {e : FEnv} {s : ByteArray} {i : Nat} {x : ByteArray × Value} (hi : e.reverse[i]? = some x) : lookAt e s (i + 1) = if x.1 = s then some x.2 else lookAt e s i := by
 have hl := (List.getElem?_eq_some_iff.1 hi).1
 simp at hl
 have hx : e[e.length - (i + 1)]? = some x := by
  rw [List.getElem?_reverse (by simpa using hl)] at hi
  rw [<- hi]; congr 1
  omega
 have hd : e.drop (e.length - (i + 1)) = x :: e.drop (e.length - i) := by
  obtain ⟨h1, h2⟩ := List.getElem?_eq_some_iff.1 hx
  rw [List.drop_eq_getElem_cons h1, h2]
  congr 2; omega
 unfold lookAt
 rw [hd]; rfl
theorem lookAt_all (e : FEnv) (s : ByteArray) : lookAt e s e.length = lookF e s := by unfold lookAt; simp
theorem look_any (T : Nat -> Prop) (e : FEnv) (s : ByteArray) (v : Value) (o : Option Addr) (n c : Nat) (w : World) (h : BfIn T w o n e) (hn : n <= 1000000) (hv : lookF e s = some v) :
    Calls Tryz.prog 67 #[.slice o n c, .string s] w fun x w' => x = .returned v /\ w = w' := by
 have HN := hid h
 have HL := hid h.1
 have HV : Hid (lookAt e s n = some v) := by show _ = _; rw [h.1, lookAt_all]; exact hv
 clear h hv
 go_enter Tryz.func67, Tryz.ntmps67
 go_wp2_with fail
 go_step3
 go_wp2_with fail
 go_step3
 go_wp2_with fail
 go_loopw [5, 6] (fun f t wr => ∃ i : Nat, t = .int .i64 ((i : Int) - 1) /\ f = .nilFunc /\ i <= n /\ lookAt e s i = some v /\ w = wr) (fun _ t _ => (intOf t + 1).toNat)
 case atStart => exact ⟨n, rfl, rfl, Nat.le_refl _, HV.out, rfl⟩
 case round =>
  obtain ⟨i, rfl, rfl, hi, ha, rfl⟩ := hrel
  have HA := hid ha
  clear ha
  cases i with
  | zero => exact absurd HA.out (by unfold lookAt; simp [lookF])
  | succ i =>
   obtain ⟨x, hx⟩ : ∃ x, e.reverse[i]? = some x := ⟨_, List.getElem?_eq_getElem (by rw [List.length_reverse]; have := HL.out; omega)⟩
   obtain ⟨b, rfl, c0, c1⟩ := HN.out.at hx
   have HS := hid (lookAt_succ (s := s) hx)
   have hlt : i < n := by omega
   rw [show ((i + 1 : Nat) : Int) - 1 = (i : Int) by omega]
   by_cases hxs : x.1 = s
   ·have he : (x.1.toList == s.toList) = true := by simp [hxs]
    have HV2 : Hid (x.2 = v) := by
     show _ = _
     have h1 := HS.out
     rw [HA.out, if_pos hxs] at h1
     exact (Option.some.inj h1).symm
    clear hx
    go_wp2_with fail
    try rw [Exit.noGoto_ret]
    go_ret
    exact ⟨congrArg Ending.returned HV2.out, rfl⟩
   ·have he : (x.1.toList == s.toList) = false := by
      cases hc : (x.1.toList == s.toList)
      ·rfl
      ·exact absurd (Sc.str_eq.1 hc) hxs
    have HV2 : Hid (lookAt e s i = some v) := by
     show _ = _
     have h1 := HS.out
     rw [HA.out, if_neg hxs] at h1
     exact h1.symm
    clear hx
    go_wp2_with fail
    go_roundw
    case rel => exact ⟨i, rfl, rfl, by omega, HV2.out, trivial⟩
    case measure => first | (simp [intOf]; done) | (simp [intOf]; omega)
theorem eg_single : ∀ args w, (callFunc 98 args).run Tryz.prog w = .ok (.enter 98 args) w := enters_of Tryz.func98 (by kernel_rfl) rfl
theorem single1_any {X : Nat -> Prop} {most : Int} {pb n cb : Nat} {W : World} {mk : Mk} {o : Option Addr} {cap : Nat} (a b : Int) (hb : W.heap[cb]? = some (.cells #[.int .i64 1, .int .i64 n, .slice o 0 cap] 24 (0, 0))) (h : MkE X most pb W mk) :
    Calls Tryz.prog 98 #[.pointer (some ⟨pb, 0, none⟩), .agg #[.int .i64 a, .int .i64 b], .pointer (some ⟨cb, 0, none⟩)] W (MkQ X most pb W (tv n, mk)) := by
 obtain ⟨W1, hW1⟩ : ∃ W1, W1 = (W.alloc (.cells #[.int .i64 a, .int .i64 b] 27)).alloc (.cells #[.int .i64 0, .int .i64 0, .slice none 0 0] 24) := ⟨_, rfl⟩
 have HQ1 : Hid (Quiet0 W W1) := by rw [hW1]; exact (Quiet0.alloc _ _).trans (Quiet0.alloc _ _)
 have HB1 : Hid (W1.heap[W.heap.size + 1]? = some (.cells #[.int .i64 0, .int .i64 0, .slice none 0 0] 24 (0, 0))) := by
  show _ = _; rw [hW1]
  have := heap_alloc_new (W.alloc (.cells #[.int .i64 a, .int .i64 b] 27)) (.cells #[.int .i64 0, .int .i64 0, .slice none 0 0] 24)
  simpa using this
 have hz1 : W1.heap.size = W.heap.size + 2 := by rw [hW1]; simp
 obtain ⟨a0, a1, a2, _, _, _⟩ := box_cells3 (box_after hb HQ1.out)
 obtain ⟨d0, d1, d2, y0, y1, y2⟩ := box_cells3 HB1.out
 have HH := hid (h.more HQ1.out (fun i => i = W.heap.size + 1) (fun i hi => by subst hi; omega))
 have HP := hid h.lt
 clear h hb hz1
 unfold MkQ
 unfold tyv
 go_enter Tryz.func98, Tryz.ntmps98
 generalize hB : W.heap.size = B at *
 go_upto_region 1 with fail
 rw [<- hW1]
 clear hW1
 go_wp2_with fail
 have hf := put3_fr W1 (B + 1) (.int .i64 1) (.int .i64 n) (.slice o 0 cap)
 obtain ⟨f0, f1, f2⟩ := put3_cells (a := .int .i64 1) (b := .int .i64 n) (c := .slice o 0 cap) HB1.out
 change bodyPost _ _ _ _ _ (put3 W1 (B + 1) (.int .i64 1) (.int .i64 n) (.slice o 0 cap))
 generalize put3 W1 (B + 1) (.int .i64 1) (.int .i64 n) (.slice o 0 cap) = wf at *
 refine bodyPost_ret (by simp [results, Tryz.results98, go_sem, f0, f1, f2]; rfl) rfl ?_
 have hp : pb < W.heap.size := by rw [hB]; exact HP.out
 exact ⟨n, o, cap, rfl, rfl, (HH.out.put (hf.mono (fun i _ e => .inr e))).less (fun i hi => .inl hi), (Later.of_quiet HQ1.out hp).put hf hp (fun i hi => by omega)⟩
theorem single_any {X : Nat -> Prop} {most : Int} {pb n lo : Nat} {W : World} {mk : Mk} {o : Option Addr} {cap : Nat} (h : MkE X most pb W mk) :
    Calls Tryz.prog 69 #[tyv 1 n o 0 cap] W fun x w' => ∃ bs ls, x = .returned (.func bs #[] ls) /\ MeanT most pb lo w' (.func bs #[] ls) (pu (tv n)) /\ Quiet0 W w' := by
 have hb := heap_alloc_new W (.cells #[.int .i64 1, .int .i64 n, .slice o 0 cap] 24)
 have hq := Quiet0.alloc W (.cells #[.int .i64 1, .int .i64 n, .slice o 0 cap] 24)
 have htf := h.fresh hq (Nat.le_refl _)
 have HF : Hid (MeanT most pb lo (W.alloc (.cells #[.int .i64 1, .int .i64 n, .slice o 0 cap] 24)) (.func (.func 98) #[] #[.pointer (some ⟨W.heap.size, 0, none⟩)]) (pu (tv n))) :=
  ⟨_, _, rfl, eg_single, fun W' X' mk' a b hl hm _ _ => single1_any a b (blk_fr hl.fr (fun e => e.elim htf.1 htf.2.1) hb) hm⟩
 have HQ := hid hq
 clear h hb hq htf
 unfold tyv
 go_enter Tryz.func69, Tryz.ntmps69
 go_wp2_with fail
 go_ret
 exact ⟨_, _, rfl, HF.out, HQ.out⟩
end Em
end
section
open Go.RowKit Go.Maps
theorem eg_shift : ∀ args w, (callFunc 128 args).run Tryz.prog w = .ok (.enter 128 args) w := enters_of Tryz.func128 (by kernel_rfl) rfl
end
section
open Go.RowKit Go.Maps
namespace Em
theorem shift1F_any (w0 : World) (ca cb cc : Nat) (fr tt by' : Nat) (h1 : Box1 w0 ca (.int .i64 fr) 3) (h2 : Box1 w0 cb (.int .i64 tt) 3) (h3 : Box1 w0 cc (.int .i64 by') 3) (hb : tt + by' <= 1000000000) :
    DoK 128 #[.pointer (some ⟨ca, 0, none⟩), .pointer (some ⟨cb, 0, none⟩), .pointer (some ⟨cc, 0, none⟩)] w0 (fun _ => True) (shN fr tt by') := by
 intro n W _ hq
 have c1 := cell_of_one (h1.fr hq (fun h => h))
 have c2 := cell_of_one (h2.fr hq (fun h => h))
 have c3 := cell_of_one (h3.fr hq (fun h => h))
 clear h1 h2 h3 hq
 unfold shN
 by_cases p1 : n < (fr : Int)
 ·rw [if_neg (by omega)]
  go_enter Tryz.func128, Tryz.ntmps128
  go_wp2_with fail
  go_ret
  exact ⟨rfl, Quiet0.refl _⟩
 ·by_cases p2 : (tt : Int) <= n
  ·rw [if_neg (by omega)]
   go_enter Tryz.func128, Tryz.ntmps128
   go_wp2_with fail
   go_ret
   exact ⟨rfl, Quiet0.refl _⟩
  ·rw [if_pos (by omega)]
   have q3 : ¬ (1073741824 : Int) <= (by' : Int) := by omega
   have q4 : ¬ (by' : Int) <= -1073741824 := by omega
   have hw : IntKind.i64.wrap (n + by') = n + by' := IntWalk.i64_in _ (by omega)
   have HK1 := hid (known_any n)
   rw [show (decide ((0 : Int) <= n) && decide (n < 1073741824)) = true from by simp; omega] at HK1
   have HK2 := hid (known_any (n + by'))
   rw [show (decide ((0 : Int) <= n + by') && decide (n + by' < 1073741824)) = true from by simp; omega] at HK2
   go_enter Tryz.func128, Tryz.ntmps128
   go_wp2_with fail
   refine (HK1.out _).mono ?_; rintro e w1 ⟨rfl, rfl⟩
   go_wp2_with fail
   refine (HK2.out _).mono ?_; rintro e w1 ⟨rfl, rfl⟩
   go_wp2_with fail
   go_ret
   exact ⟨rfl, Quiet0.refl _⟩
theorem shiftF_any (k n : Int) (fr tt by' : Nat) (ps : Fo) (w : World) (o : Option Addr) (len cap : Nat) (hs : Slc w o len ps) (hb : tt + by' <= 1000000000) (hsz : ps.size <= 100000) :
    Calls Tryz.prog 118 #[tyv k n o len cap, .int .i64 fr, .int .i64 tt, .int .i64 by'] w fun e w' => ∃ o' cap', e = .returned (tyv k (newN (shN fr tt by') k n) o' len cap') /\ SlcIn (fun b => w.heap.size <= b) w' o' len (ps.change (shN fr tt by')) /\ Quiet0 w w' := by
 obtain ⟨W1, hW1⟩ : ∃ W1, W1 = ((((w.alloc (.cells #[.int .i64 k, .int .i64 n, .slice o len cap] 24)).alloc (.cells #[.int .i64 fr] 3)).alloc (.cells #[.int .i64 tt] 3)).alloc (.cells #[.int .i64 by'] 3)).alloc (.cells #[.int .i64 0, .int .i64 0, .slice none 0 0] 24) := ⟨_, rfl⟩
 have HQ1 : Hid (Quiet0 w W1) := by rw [hW1]; exact ((((Quiet0.alloc _ _).trans (Quiet0.alloc _ _)).trans (Quiet0.alloc _ _)).trans (Quiet0.alloc _ _)).trans (Quiet0.alloc _ _)
 have s1 : (w.alloc (.cells #[.int .i64 k, .int .i64 n, .slice o len cap] 24)).heap.size = w.heap.size + 1 := by simp
 have s2 : ((w.alloc (.cells #[.int .i64 k, .int .i64 n, .slice o len cap] 24)).alloc (.cells #[.int .i64 fr] 3)).heap.size = w.heap.size + 1 + 1 := by simp
 have s3 : (((w.alloc (.cells #[.int .i64 k, .int .i64 n, .slice o len cap] 24)).alloc (.cells #[.int .i64 fr] 3)).alloc (.cells #[.int .i64 tt] 3)).heap.size = w.heap.size + 1 + 1 + 1 := by simp
 have s4 : ((((w.alloc (.cells #[.int .i64 k, .int .i64 n, .slice o len cap] 24)).alloc (.cells #[.int .i64 fr] 3)).alloc (.cells #[.int .i64 tt] 3)).alloc (.cells #[.int .i64 by'] 3)).heap.size = w.heap.size + 1 + 1 + 1 + 1 := by simp
 have hb0' : W1.heap[w.heap.size]? = some (.cells #[.int .i64 k, .int .i64 n, .slice o len cap] 24 (0, 0)) := by
  rw [hW1]; exact box_after (heap_alloc_new w _) ((((Quiet0.alloc _ _).trans (Quiet0.alloc _ _)).trans (Quiet0.alloc _ _)).trans (Quiet0.alloc _ _))
 have HB1 : Hid (W1.heap[w.heap.size + 1 + 1 + 1 + 1]? = some (.cells #[.int .i64 0, .int .i64 0, .slice none 0 0] 24 (0, 0))) := by
  rw [hW1, <- s4]; exact heap_alloc_new _ _
 have x1 : Box1 W1 (w.heap.size + 1) (.int .i64 fr) 3 := by
  rw [hW1, <- s1]; exact (Box1.new _ _ _).fr (((Quiet0.alloc _ _).trans (Quiet0.alloc _ _)).trans (Quiet0.alloc _ _)) (fun h => h)
 have x2 : Box1 W1 (w.heap.size + 1 + 1) (.int .i64 tt) 3 := by
  rw [hW1, <- s2]; exact (Box1.new _ _ _).fr ((Quiet0.alloc _ _).trans (Quiet0.alloc _ _)) (fun h => h)
 have x3 : Box1 W1 (w.heap.size + 1 + 1 + 1) (.int .i64 by') 3 := by
  rw [hW1, <- s3]; exact (Box1.new _ _ _).fr (Quiet0.alloc _ _) (fun h => h)
 have HD := hid (change_any eg_shift (shift1F_any W1 (w.heap.size + 1) (w.heap.size + 1 + 1) (w.heap.size + 1 + 1 + 1) fr tt by' x1 x2 x3 hb) k n ps W1 o len cap (Quiet0.refl _) (hs.stay HQ1.out) (by omega) trivial (allF_true (fun _ => trivial) ps))
 obtain ⟨a0, a1, a2, _, _, _⟩ := box_cells3 hb0'
 have hz1 : w.heap.size + 1 + 1 + 1 + 1 < W1.heap.size := by rw [hW1]; simp
 obtain ⟨P, hP⟩ : ∃ P, P = shN fr tt by' := ⟨_, rfl⟩
 rw [<- hP] at HD ⊢
 generalize newN P k n = n' at *
 clear hs s1 s2 s3 s4 x1 x2 x3 hb0' hP
 unfold tyv at *
 go_enter Tryz.func118, Tryz.ntmps118
 generalize hB : w.heap.size = B at *
 go_upto_region 1 with fail
 rw [<- hW1]
 clear hW1
 go_wp2_with fail
 refine HD.out.mono ?_; rintro e w4 ⟨o2, cap2, rfl, hs4, hq4⟩
 have hbb := box_after HB1.out hq4
 have HB4 := hid hbb
 obtain ⟨d0, d1, d2, y0, y1, y2⟩ := box_cells3 hbb
 have HS4 := hid hs4
 have HQ4 := hid hq4
 clear hs4 hq4 hbb a0 a1 a2
 go_wp2_with fail
 clear d0 d1 d2 y0 y1 y2
 have hf := put3_fr w4 (B + 1 + 1 + 1 + 1) (.int .i64 k) (.int .i64 n') (.slice o2 len cap2)
 obtain ⟨f0, f1, f2⟩ := put3_cells (a := .int .i64 k) (b := .int .i64 n') (c := .slice o2 len cap2) HB4.out
 change bodyPost _ _ _ _ _ (put3 w4 (B + 1 + 1 + 1 + 1) (.int .i64 k) (.int .i64 n') (.slice o2 len cap2))
 generalize put3 w4 (B + 1 + 1 + 1 + 1) (.int .i64 k) (.int .i64 n') (.slice o2 len cap2) = wf at *
 refine bodyPost_ret (by simp [results, Tryz.results118, go_sem, f0, f1, f2]; rfl) rfl ?_
 refine ⟨o2, cap2, rfl, HS4.out.fr hf ?_, ?_⟩
 ·intro j _ hj
  have hj' : W1.heap.size <= j := hj
  exact ⟨by have := HQ1.out.size; omega, by omega⟩
 ·exact Fr.trans' (Fr.trans' HQ1.out HQ4.out (fun _ _ h => h)) hf (fun i hi h => by have h' : i = B + 1 + 1 + 1 + 1 := h; omega)
theorem shift11_any (k n : Int) (fr tt by' : Nat) (ps : Fo) (w : World) (o : Option Addr) (len cap : Nat) (ca cb cc : Nat) (h1 : Box1 w ca (.int .i64 fr) 3) (h2 : Box1 w cb (.int .i64 tt) 3) (h3 : Box1 w cc (.int .i64 by') 3) (hs : Slc w o len ps) (hb : tt + by' <= 1000000000) (hsz : ps.size <= 100000) :
    Calls Tryz.prog 117 #[tyv k n o len cap, .pointer (some ⟨ca, 0, none⟩), .pointer (some ⟨cb, 0, none⟩), .pointer (some ⟨cc, 0, none⟩)] w fun e w' => ∃ o' cap', e = .returned (tyv k (newN (shN fr tt by') k n) o' len cap') /\ SlcIn (fun b => w.heap.size <= b) w' o' len (ps.change (shN fr tt by')) /\ Quiet0 w w' := by
 obtain ⟨W1, hW1⟩ : ∃ W1, W1 = (w.alloc (.cells #[.int .i64 k, .int .i64 n, .slice o len cap] 24)).alloc (.cells #[.int .i64 0, .int .i64 0, .slice none 0 0] 24) := ⟨_, rfl⟩
 have HQ1 : Hid (Quiet0 w W1) := by rw [hW1]; exact (Quiet0.alloc _ _).trans (Quiet0.alloc _ _)
 have hb0 : W1.heap[w.heap.size]? = some (.cells #[.int .i64 k, .int .i64 n, .slice o len cap] 24 (0, 0)) := by
  rw [hW1]; exact box_after (heap_alloc_new w _) (Quiet0.alloc _ _)
 have HB1 : Hid (W1.heap[w.heap.size + 1]? = some (.cells #[.int .i64 0, .int .i64 0, .slice none 0 0] 24 (0, 0))) := by
  show _ = _; rw [hW1]
  have := heap_alloc_new (w.alloc (.cells #[.int .i64 k, .int .i64 n, .slice o len cap] 24)) (.cells #[.int .i64 0, .int .i64 0, .slice none 0 0] 24)
  simpa using this
 have HC := hid (shiftF_any k n fr tt by' ps W1 o len cap (hs.stay HQ1.out) hb hsz)
 have c1 := cell_of_one (h1.fr HQ1.out (fun h => h))
 have c2 := cell_of_one (h2.fr HQ1.out (fun h => h))
 have c3 := cell_of_one (h3.fr HQ1.out (fun h => h))
 obtain ⟨a0, a1, a2, _, _, _⟩ := box_cells3 hb0
 have hz1 : w.heap.size + 1 < W1.heap.size := by rw [hW1]; simp
 generalize newN (shN fr tt by') k n = n' at *
 obtain ⟨P, hP⟩ : ∃ P, P = shN fr tt by' := ⟨_, rfl⟩
 rw [<- hP] at HC ⊢
 clear h1 h2 h3 hs hb0 hP
 unfold tyv at *
 go_enter Tryz.func117, Tryz.ntmps117
 generalize hB : w.heap.size = B at *
 go_upto_region 1 with fail
 rw [<- hW1]
 clear hW1
 go_wp2_with fail
 refine HC.out.mono ?_; rintro e w4 ⟨o2, cap2, rfl, hs4, hq4⟩
 have hbb := box_after HB1.out hq4
 have HB4 := hid hbb
 obtain ⟨d0, d1, d2, y0, y1, y2⟩ := box_cells3 hbb
 have HS4 := hid hs4
 have HQ4 := hid hq4
 clear hs4 hq4 hbb a0 a1 a2 c1 c2 c3
 go_wp2_with fail
 clear d0 d1 d2 y0 y1 y2
 have hf := put3_fr w4 (B + 1) (.int .i64 k) (.int .i64 n') (.slice o2 len cap2)
 obtain ⟨f0, f1, f2⟩ := put3_cells (a := .int .i64 k) (b := .int .i64 n') (c := .slice o2 len cap2) HB4.out
 change bodyPost _ _ _ _ _ (put3 w4 (B + 1) (.int .i64 k) (.int .i64 n') (.slice o2 len cap2))
 generalize put3 w4 (B + 1) (.int .i64 k) (.int .i64 n') (.slice o2 len cap2) = wf at *
 refine bodyPost_ret (by simp [results, Tryz.results117, go_sem, f0, f1, f2]; rfl) rfl ?_
 refine ⟨o2, cap2, rfl, HS4.out.fr hf ?_, ?_⟩
 ·intro j _ hj
  have hj' : W1.heap.size <= j := hj
  exact ⟨by have := HQ1.out.size; omega, by omega⟩
 ·exact Fr.trans' (Fr.trans' HQ1.out HQ4.out (fun _ _ h => h)) hf (fun i hi h => by have h' : i = B + 1 := h; omega)
end Em
end
section
open Go.RowKit
namespace Em
theorem with_ml {X : Nat -> Prop} {most : Int} {pb : Nat} {w0 W w3 : World} {k : Mk} {G : Prop} (hl : Later pb w0 W) (hm : MkE X most pb W k) (hq : Quiet0 W w3) (g : Later pb w0 w3 -> MkE X most pb w3 k -> G) : G := g (hl.trans (Later.of_quiet hq hm.lt)) (hm.stay hq)
theorem with_lt {pb : Nat} {w0 W w3 : World} {G : Prop} (hl : Later pb w0 W) (hq : Later pb W w3) (g : Later pb w0 w3 -> G) : G := g (hl.trans hq)
theorem slc_st {X : Nat -> Prop} {most : Int} {pb : Nat} {W W' : World} {k : Mk} {o : Option Addr} {len : Nat} {f : Fo} (hm : MkE X most pb W k) (hq : Quiet0 W W') (h : SlcIn (TF X pb W) W o len f) : SlcIn (TF X pb W') W' o len f := slc_later h (Later.of_quiet hq hm.lt)
def Bx (pb : Nat) (W : World) (b : Nat) (cs : Array Value) (t : TypeId) : Prop := W.heap[b]? = some (.cells cs t (0, 0)) /\ ¬ (b = pb ∨ Rw pb W b)
theorem Bx.later {pb : Nat} {W W' : World} {b : Nat} {cs : Array Value} {t : TypeId} (h : Bx pb W b cs t) (hl : Later pb W W') : Bx pb W' b cs t := by
 have hb := lt_of_block h.1
 exact ⟨blk_fr hl.fr h.2 h.1, fun e => e.elim (fun e => h.2 (.inl e)) (fun e => (hl.row b e).elim (fun e => h.2 (.inr e)) (fun e => by omega))⟩
theorem Bx.new {X : Nat -> Prop} {most : Int} {pb : Nat} {W W' : World} {k : Mk} (h : MkE X most pb W k) (hq : Quiet0 W W') {b : Nat} {cs : Array Value} {t : TypeId} (hi : W.heap.size <= b) (hb : W'.heap[b]? = some (.cells cs t (0, 0))) : Bx pb W' b cs t := by
 have := h.fresh hq hi
 exact ⟨hb, fun e => e.elim this.1 this.2.1⟩
def KeptAt (pb : Nat) (W : World) (o : Option Addr) (l : List Eqn) : Prop := l = [] ∨ ∃ g off, o = some ⟨g, off, none⟩ /\ ∀ W', Later pb W W' -> QAt (TF (fun _ => False) pb W') W' g off l
theorem KeptAt.later {pb : Nat} {W W' : World} {o : Option Addr} {l : List Eqn} (h : KeptAt pb W o l) (hl : Later pb W W') : KeptAt pb W' o l := by
 rcases h with h | ⟨g, off, h1, h2⟩
 ·exact .inl h
 ·exact .inr ⟨g, off, h1, fun W2 hl2 => h2 W2 (hl.trans hl2)⟩
def ShQ (W : World) (t : Ty) (len : Nat) (e : Ending) (w' : World) : Prop := ∃ o' cap', e = .returned (.agg #[.int .i64 t.1, .int .i64 t.2.1, .slice o' len cap']) /\ SlcIn (fun b => W.heap.size <= b) w' o' len t.2.2 /\ Quiet0 W w'
def ShV (W : World) (n : Nat) (e : Ending) (w' : World) : Prop := ∃ o' cap', e = .returned (.agg #[.int .i64 1, .int .i64 n, .slice o' 0 cap']) /\ Quiet0 W w'
theorem sh_any (t : Ty) (fr tt by' : Nat) (w : World) (o : Option Addr) (len cap : Nat) (ca cb cc : Nat) (h1 : Box1 w ca (.int .i64 fr) 3) (h2 : Box1 w cb (.int .i64 tt) 3) (h3 : Box1 w cc (.int .i64 by') 3) (hs : Slc w o len t.2.2) (hb : tt + by' <= 1000000000) (hsz : t.2.2.size <= 100000) :
    Calls Tryz.prog 117 #[tyv t.1 t.2.1 o len cap, .pointer (some ⟨ca, 0, none⟩), .pointer (some ⟨cb, 0, none⟩), .pointer (some ⟨cc, 0, none⟩)] w (ShQ w (shT fr tt by' t) len) :=
 shift11_any t.1 t.2.1 fr tt by' t.2.2 w o len cap ca cb cc h1 h2 h3 hs hb hsz
theorem with_slc {X : Nat -> Prop} {most : Int} {pb : Nat} {W w3 : World} {k : Mk} {o : Option Addr} {len : Nat} {f : Fo} {G : Prop} (hm : MkE X most pb W k) (hq : Quiet0 W w3) (h : SlcIn (TF X pb W) W o len f) (g : SlcIn (TF X pb w3) w3 o len f -> G) : G := g (slc_st hm hq h)
theorem with_new {X : Nat -> Prop} {most : Int} {pb : Nat} {W w3 : World} {k : Mk} {o : Option Addr} {len : Nat} {f : Fo} {G : Prop} (hm : MkE X most pb W k) (hq : Quiet0 W w3) (h : SlcIn (fun b => W.heap.size <= b) w3 o len f) (g : SlcIn (TF X pb w3) w3 o len f -> G) : G := g (hm.new hq h)
theorem shT_tv (fr tt d n : Nat) : ∃ n', shT fr tt d (tv n) = tv n' := by
 refine ⟨if fr <= n /\ n < tt then n + d else n, ?_⟩
 show ((1, shN fr tt d (n : Int), Fo.nil) : Ty) = (1, ((if fr <= n /\ n < tt then n + d else n : Nat) : Int), Fo.nil)
 unfold shN
 by_cases h : fr <= n /\ n < tt
 ·rw [if_pos h, if_pos (by omega)]; push_cast; rfl
 ·rw [if_neg h, if_neg (by omega)]
def ByR (W0 : World) (b by' : Nat) (v : Value) (wx : World) : Prop := v = .pointer (some ⟨b, 0, none⟩) /\ Box1 wx b (.int .i64 by') 3 /\ Quiet0 W0 wx
theorem ByR.drew {W0 : World} {b by' : Nat} {v : Value} {wx : World} (h : ByR W0 b by' v wx) : ByR W0 b by' v wx.drew := ⟨h.1, h.2.1.fr (Quiet0.drew wx) (fun h => h), h.2.2.trans (Quiet0.drew _)⟩
theorem byR_end {W0 : World} {b by' : Nat} (hz : W0.heap.size = b) : ByR W0 b by' (.pointer (some ⟨b, 0, none⟩)) (W0.alloc (.cells #[.int .i64 by'] 3)) := by
 subst hz
 exact ⟨rfl, Box1.new _ _ _, Quiet0.alloc _ _⟩
theorem MkE.bump {X : Nat -> Prop} {most : Int} {pb : Nat} {W : World} {k : Mk} (h : MkE X most pb W k) (d : Nat) : MkE X most pb (W.setCell ⟨pb, 1, none⟩ (.int .i64 ((k.next : Int) + d))) { k with next := k.next + d } /\ Later pb W (W.setCell ⟨pb, 1, none⟩ (.int .i64 ((k.next : Int) + d))) := by
 obtain ⟨o, c, xs, h⟩ := h
 obtain ⟨h1, h2⟩ := h.box_set (k' := { k with next := k.next + d }) 1 (.int .i64 ((k.next : Int) + d)) (by decide) rfl (by simp)
 exact ⟨⟨o, c, xs, h1⟩, h2⟩
def CpI (X : Nat -> Prop) (most : Int) (pb : Nat) (W2 : World) (sh : Ty -> Ty) (kept : List Eqn) (fin : Mk) (t : Value) (wr : World) : Prop :=
 ∃ (i : Nat) (mki : Mk), t = .int .i64 i /\ i <= kept.length /\ (keptP most sh (kept.drop i) mki).2 = fin /\ MkE X most pb wr mki /\ Later pb W2 wr
theorem copied1_any {X : Nat -> Prop} {most : Int} {pb : Nat} {W : World} {mk : Mk} (hmk0 : MkE X most pb W mk) (hm : most <= 4096) (n fr tt : Nat) (kept : List Eqn) (ko : Option Addr) (kc : Nat) (vo : Option Addr) (vc ca cb ck cv : Nat) (a b : Int)
    (h1 : Bx pb W ca #[.int .i64 fr] 3) (h2 : Bx pb W cb #[.int .i64 tt] 3) (h3 : Bx pb W ck #[.slice ko kept.length kc] 42) (h4 : Bx pb W cv #[.int .i64 1, .int .i64 n, .slice vo 0 vc] 24)
    (hk : KeptAt pb W ko kept) (hkz : kept.length <= 4096) (hks : ∀ t ∈ kept, t.1.2.2.size <= 100000 /\ t.2.1.2.2.size <= 100000) (hft : fr <= tt) (hlo : tt <= mk.next) (hN : (copied most kept (tv n) fr tt mk).2.next <= NBd) :
    Calls Tryz.prog 116 #[.pointer (some ⟨pb, 0, none⟩), .agg #[.int .i64 a, .int .i64 b], .pointer (some ⟨ca, 0, none⟩), .pointer (some ⟨cb, 0, none⟩), .pointer (some ⟨ck, 0, none⟩), .pointer (some ⟨cv, 0, none⟩)] W (MkQ X most pb W (copied most kept (tv n) fr tt mk)) := by
 obtain ⟨W0, hW0⟩ : ∃ W0, W0 = (W.alloc (.cells #[.int .i64 a, .int .i64 b] 27)).alloc (.cells #[.int .i64 0, .int .i64 0, .slice none 0 0] 24) := ⟨_, rfl⟩
 have hq0 : Quiet0 W W0 := by rw [hW0]; exact (Quiet0.alloc _ _).trans (Quiet0.alloc _ _)
 have hz0 : W0.heap.size = W.heap.size + 2 := by rw [hW0]; simp
 have hB8 : Bx pb W0 (W.heap.size + 1) #[.int .i64 0, .int .i64 0, .slice none 0 0] 24 := by
  refine Bx.new hmk0 hq0 (by omega) ?_
  rw [hW0]
  have := heap_alloc_new (W.alloc (.cells #[.int .i64 a, .int .i64 b] 27)) (.cells #[.int .i64 0, .int .i64 0, .slice none 0 0] 24)
  simpa using this
 have hm0 := hmk0.more hq0 (fun i => i = W.heap.size + 1) (fun i hi => by subst hi; omega)
 have hpw := hmk0.lt
 have hl0 := Later.of_quiet hq0 hpw
 have HL0 := hid hl0
 have HM0 := hid hm0
 have HPW := hid hpw
 have HZ0 := hid hz0
 have H1 := hid (h1.later hl0)
 have H2 := hid (h2.later hl0)
 have H3 := hid (h3.later hl0)
 have H4 := hid (h4.later hl0)
 have H8 := hid hB8
 have HK := hid (hk.later hl0)
 have HKS := hid hks
 obtain ⟨by', hby⟩ : ∃ by', mk.next - fr = by' := ⟨_, rfl⟩
 have hnx : (copied most kept (tv n) fr tt mk).2.next = mk.next + (tt - fr) := by
  show (keptP most (shT fr tt (mk.next - fr)) kept { mk with next := mk.next + (tt - fr) }).2.next = _
  exact kept_next most _ kept _
 rw [hnx] at hN
 replace hN : mk.next + (tt - fr) <= 500000000 := hN
 obtain ⟨fin, hfin⟩ : ∃ fin, (keptP most (shT fr tt by') kept { mk with next := mk.next + (tt - fr) }).2 = fin := ⟨_, rfl⟩
 have hres : copied most kept (tv n) fr tt mk = (shT fr tt by' (tv n), fin) := by
  rw [<- hfin, <- hby]; rfl
 rw [hres]
 obtain ⟨d, hd⟩ : ∃ d, tt - fr = d := ⟨_, rfl⟩
 rw [hd] at hfin hN
 have hw1 : ((mk.next : Int) - fr) = (by' : Int) := by omega
 have hw2 : IntKind.i64.wrap (by' : Int) = (by' : Int) := IntWalk.i64_in _ (by omega)
 have hw3 : ((tt : Int) - fr) = (d : Int) := by omega
 have hw4 : IntKind.i64.wrap (d : Int) = (d : Int) := IntWalk.i64_in _ (by omega)
 have hw5 : IntKind.i64.wrap ((mk.next : Int) + d) = (mk.next : Int) + d := IntWalk.i64_in _ (by omega)
 have hbt : tt + by' <= 1000000000 := by omega
 have hN1 : mk.next <= 500000000 := by omega
 have hN2 : tt <= 500000000 := by omega
 have HFIN := hid hfin
 clear hmk0 hm0 hl0 hq0 h1 h2 h3 h4 hk hks hB8 hnx hres hfin
 unfold MkQ
 unfold tyv
 go_enter Tryz.func116, Tryz.ntmps116
 generalize hBB : W.heap.size = B at *
 obtain ⟨X1, hX1⟩ : ∃ X1, X1 = (fun i => X i ∨ i = B + 1) := ⟨_, rfl⟩
 rw [<- hX1] at HM0
 have HX1 : Hid (∀ i, X1 i = (X i ∨ i = B + 1)) := fun i => by rw [hX1]
 clear hX1
 go_upto_region 1 with fail
 rw [<- hW0]
 clear hW0
 obtain ⟨oo, oc, oxs, hmka⟩ := HM0.out
 obtain ⟨q0, q1, q2, q3⟩ := mk_cells hmka.box
 have u1 := cell_of_one H1.out.1
 have hqa := Quiet0.alloc W0 (.cells #[.int .i64 0] 3)
 have q1' := hqa.at q1
 have u1' := hqa.at u1
 clear hqa
 go_cut [9] (fun v9 wx => ByR W0 (B + 2) by' v9 wx)
 case first =>
  go_region_law (fail)
  all_goals
   go_wp2_with fail
   go_meet
   first
    | with_reducible exact byR_end HZ0.out
    | with_reducible exact (byR_end HZ0.out).drew
    | with_reducible exact (byR_end HZ0.out).drew.drew
 case rest =>
  rename World => w1
  obtain ⟨rfl, hb9, hq1⟩ := hcut
  have hl1 := Later.of_quiet hq1 HM0.out.lt
  have HM1 := hid (HM0.out.stay hq1)
  have H91 := hid (Bx.new HM0.out hq1 (b := B + 2) (by rw [HZ0.out]; exact Nat.le_refl _) hb9)
  have H11 := hid (H1.out.later hl1)
  have H21 := hid (H2.out.later hl1)
  have HL1 := hid (HL0.out.trans hl1)
  have HL01 := hid hl1
  clear q0 q1 q2 q3 u1 q1' u1' hb9 hq1 hl1
  obtain ⟨oo, oc, oxs, hmka⟩ := HM1.out
  obtain ⟨q0, q1, q2, q3⟩ := mk_cells hmka.box
  obtain ⟨f0, f1, f2, f3⟩ := mk_free hmka.box
  have u1 := cell_of_one H11.out.1
  have u2 := cell_of_one H21.out.1
  have HBM := hid (HM1.out.bump d)
  have HP1 := hid HM1.out.lt
  clear hmka
  go_upto_region 2 with fail
  go_cut [22] (fun _ wx => MkE X1 most pb wx { mk with next := mk.next + d } /\ Later pb w1 wx)
  case first =>
   go_region_law (fail)
   all_goals
    go_wp2_with fail
    go_meet
    first
     | with_reducible exact ⟨HBM.out.1.stay (Quiet0.drew _), HBM.out.2.quiet (Quiet0.drew _) HP1.out⟩
     | with_reducible exact HBM.out
  case rest =>
   rename World => w2
   obtain ⟨hm2, hl2⟩ := hcut
   have HM2 := hid hm2
   have hl02 := HL01.out.trans hl2
   have HLW2 := hid (HL0.out.trans hl02)
   have H1b := hid (H11.out.later hl2)
   have H2b := hid (H21.out.later hl2)
   have H9b := hid (H91.out.later hl2)
   have H3b := hid (H3.out.later hl02)
   have H4b := hid (H4.out.later hl02)
   have H8b := hid (H8.out.later hl02)
   have HKb := hid (HK.out.later hl02)
   have hp2 := hm2.lt
   have HP2 := hid hp2
   clear q0 q1 q2 q3 f0 f1 f2 f3 u1 u2 hm2 hl2 hl02 hp2 HM1 HM0 HBM HP1 H11 H21 H91 H1 H2 H3 H4 H8 HK HL0 HL1 HL01 hw1 hw2 hw3 hw4 hw5
   have k0 := cell_of_one H3b.out.1
   go_wp2_with fail
   clear k0
   go_loopw [32] (fun t wr => CpI X1 most pb w2 (shT fr tt by') kept fin t wr) (fun t _ => kept.length - (intOf t).toNat)
   case atStart => exact ⟨0, _, rfl, Nat.zero_le _, HFIN.out, HM2.out, Later.refl HP2.out⟩
   case round =>
    obtain ⟨i, mki, rfl, hi, hpk, hmi, hli⟩ := hrel
    have HPK := hid hpk
    have HMI := hid hmi
    have HLI := hid hli
    clear hpk hmi hli
    by_cases hlt : i < kept.length
    ·have hlt' : (i : Int) < kept.length := by omega
     obtain ⟨t, ht⟩ : ∃ t, kept[i]? = some t := ⟨_, List.getElem?_eq_getElem hlt⟩
     have hdr : kept.drop i = t :: kept.drop (i + 1) := by
      obtain ⟨h1, h2⟩ := List.getElem?_eq_some_iff.1 ht
      rw [List.drop_eq_getElem_cons h1, h2]
     have hkq : ∃ g off, ko = some ⟨g, off, none⟩ /\ QAt (TF (fun _ => False) pb wr) wr g off kept := by
      rcases HKb.out with e | ⟨g, off, e1, e2⟩
      ·rw [e] at hlt; simp at hlt
      ·exact ⟨g, off, e1, e2 wr HLI.out⟩
     obtain ⟨g, off, rfl, hqa⟩ := hkq
     obtain ⟨o1, l1, c1, o2, l2, c2, s1, s2, a0, a1, a2, a3, a4, a5, a6, a7⟩ := hqa i t ht
     have hts := HKS.out t (List.mem_of_getElem? ht)
     obtain ⟨mo, mc, mxs, hmka⟩ := HMI.out
     have hmc := (mk_cells hmka.box).2.2.2
     obtain ⟨W1, hW1⟩ : ∃ W1, W1 = wr.alloc (.cells (ec t o1 l1 c1 o2 l2 c2) 74) := ⟨_, rfl⟩
     have hqw : Quiet0 wr W1 := by rw [hW1]; exact Quiet0.alloc _ _
     have hbe := Bx.new HMI.out hqw (Nat.le_refl _) (by rw [hW1]; exact heap_alloc_new wr (.cells (ec t o1 l1 c1 o2 l2 c2) 74))
     have HBE := hid hbe
     have hmc1 := hqw.at hmc
     have HQW := hid hqw
     have HP3 := hid HMI.out.lt
     have HSA : Hid (∀ W, Later pb W1 W -> Slc W o1 l1 t.1.2.2) := fun W hl => (slc_later s1 ((Later.of_quiet HQW.out HP3.out).trans hl)).slc
     have HSB : Hid (∀ W, Later pb W1 W -> Slc W o2 l2 t.2.1.2.2) := fun W hl => (slc_later s2 ((Later.of_quiet HQW.out HP3.out).trans hl)).slc
     clear s1 s2 hqa hmka hqw hbe hmc
     cases hmb : mki.many
     ·have HPK2 : Hid ((keptP most (shT fr tt by') (kept.drop (i + 1)) (eqP most (shT fr tt by' t.1) (shT fr tt by' t.2.1) t.2.2.1 t.2.2.2 mki).2).2 = fin) := by
        show _ = _
        rw [<- HPK.out, hdr]
        show _ = (ifMany () _ mki).2
        unfold ifMany
        rw [if_neg (by rw [hmb]; decide)]; rfl
      rw [hmb] at hmc1
      obtain ⟨mn, hmn⟩ : ∃ mn, (eqP most (shT fr tt by' t.1) (shT fr tt by' t.2.1) t.2.2.1 t.2.2.2 mki).2 = mn := ⟨_, rfl⟩
      rw [hmn] at HPK2
      have HMN := hid hmn
      have hz1 := hts.1
      have hz2 := hts.2
      have HM3 := hid (HMI.out.stay HQW.out)
      clear ht hdr hmn hts hmb
      go_upto_region 7 with fail
      change Code.wp _ _ _ _ (wr.alloc (.cells (ec t o1 l1 c1 o2 l2 c2) 74))
      rw [<- hW1]
      clear hW1 a0 a1 a2 a3 a4 a5 a6 a7
      generalize hE : wr.heap.size = E at *
      go_upto_region 8 with fail
      have hpb := HM3.out.lt
      have HKP : Hid (∀ W, Later pb W1 W -> W.cell? ⟨E, 0, none⟩ = some (.int .i64 t.1.1) /\ W.cell? ⟨E, 1, none⟩ = some (.int .i64 t.1.2.1) /\ W.cell? ⟨E, 2, none⟩ = some (.slice o1 l1 c1) /\ W.cell? ⟨E, 3, none⟩ = some (.int .i64 t.2.1.1) /\ W.cell? ⟨E, 4, none⟩ = some (.int .i64 t.2.1.2.1) /\ W.cell? ⟨E, 5, none⟩ = some (.slice o2 l2 c2) /\ W.cell? ⟨E, 6, none⟩ = some (.int .i64 t.2.2.1) /\ W.cell? ⟨E, 7, none⟩ = some (.int .i64 t.2.2.2)) := fun W hl => by
       have k := (HBE.out.later hl).1
       refine ⟨?_, ?_, ?_, ?_, ?_, ?_, ?_, ?_⟩ <;> (rw [cell_of_row _ _ _ _ _ (0, 0) k]; rfl)
      have HLI1 := hid (HLI.out.quiet HQW.out HP2.out)
      have HSL : Hid (∀ W, Later pb W1 W -> Calls Tryz.prog 117 #[tyv t.1.1 t.1.2.1 o1 l1 c1, .pointer (some ⟨ca, 0, none⟩), .pointer (some ⟨cb, 0, none⟩), .pointer (some ⟨B + 2, 0, none⟩)] W (ShQ W (shT fr tt by' t.1) l1)) := fun W hl => by
       have hl2 := HLI1.out.trans hl
       exact sh_any t.1 fr tt by' W o1 l1 c1 ca cb (B + 2) (H1b.out.later hl2).1 (H2b.out.later hl2).1 (H9b.out.later hl2).1 (HSA.out W hl) hbt hz1
      have HSR : Hid (∀ W, Later pb W1 W -> Calls Tryz.prog 117 #[tyv t.2.1.1 t.2.1.2.1 o2 l2 c2, .pointer (some ⟨ca, 0, none⟩), .pointer (some ⟨cb, 0, none⟩), .pointer (some ⟨B + 2, 0, none⟩)] W (ShQ W (shT fr tt by' t.2.1) l2)) := fun W hl => by
       have hl2 := HLI1.out.trans hl
       exact sh_any t.2.1 fr tt by' W o2 l2 c2 ca cb (B + 2) (H1b.out.later hl2).1 (H2b.out.later hl2).1 (H9b.out.later hl2).1 (HSB.out W hl) hbt hz2
      obtain ⟨tl, htl⟩ : ∃ tl, shT fr tt by' t.1 = tl := ⟨_, rfl⟩
      obtain ⟨tr, htr⟩ : ∃ tr, shT fr tt by' t.2.1 = tr := ⟨_, rfl⟩
      have hzl : tl.2.2.size <= 100000 := by rw [<- htl]; show (t.1.2.2.change _).size <= _; rw [Fo.change_size]; exact hz1
      have hzr : tr.2.2.size <= 100000 := by rw [<- htr]; show (t.2.1.2.2.change _).size <= _; rw [Fo.change_size]; exact hz2
      rw [htl] at HSL HMN
      rw [htr] at HSR HMN
      have HEQ : Hid (∀ (W : World) (p1 : Option Addr) (d1 : Nat) (p2 : Option Addr) (d2 : Nat), MkE X1 most pb W mki -> SlcIn (TF X1 pb W) W p1 l1 tl.2.2 -> SlcIn (TF X1 pb W) W p2 l2 tr.2.2 -> Calls Tryz.prog 66 #[.pointer (some ⟨pb, 0, none⟩), tyv tl.1 tl.2.1 p1 l1 d1, tyv tr.1 tr.2.1 p2 l2 d2, .agg #[.int .i64 t.2.2.1, .int .i64 t.2.2.2]] W (MkU X1 most pb W mn)) := fun W p1 d1 p2 d2 hmw sw1 sw2 => by
       have k := equate_any hmw hm tl tr t.2.2.1 t.2.2.2 (c1 := d1) (c2 := d2) sw1 sw2 hzl hzr
       rw [HMN.out] at k
       exact k
      obtain ⟨e0, e1, e2, e3, e4, e5, e6, e7⟩ := HKP.out W1 (Later.refl hpb)
      have hmk := HM3.out
      have hlc := Later.refl hpb
      clear htl htr
      unfold tyv at HSL HSR HEQ
      go_region_held3 (fun W => W.cell? ⟨E, 0, none⟩ = some (.int .i64 t.1.1) /\ W.cell? ⟨E, 1, none⟩ = some (.int .i64 t.1.2.1) /\ W.cell? ⟨E, 2, none⟩ = some (.slice o1 l1 c1) /\ W.cell? ⟨E, 3, none⟩ = some (.int .i64 t.2.1.1) /\ W.cell? ⟨E, 4, none⟩ = some (.int .i64 t.2.1.2.1) /\ W.cell? ⟨E, 5, none⟩ = some (.slice o2 l2 c2) /\ W.cell? ⟨E, 6, none⟩ = some (.int .i64 t.2.2.1) /\ W.cell? ⟨E, 7, none⟩ = some (.int .i64 t.2.2.2))
       (((refine HKP.out _ ?_); (repeat with_reducible first | exact hlc | exact Later.refl hpb | refine jm hpb ?_ | refine jo hpb ?_)))
       (first
        | (go_at_call 117; (with_reducible refine Calls.mono (HSR.out _ ?hq) ?_); (case hq => (repeat with_reducible first | exact hlc | exact Later.refl hpb | refine jm hpb ?_ | refine jo hpb ?_)); rintro e wx ⟨p2, d2, rfl, hs2, hqx⟩; (have hgd := hs1; (refine with_slc (pb := pb) (X := X1) (most := most) (k := mki) (o := p1) (len := l1) (f := tl.2.2) ?hm4 hqx ?hs4 ?_; (case hm4 => (repeat with_reducible first | exact hmk | refine ja ?_ | refine jb ?_)); (case hs4 => (repeat (first | with_reducible exact hs1 | ((with_reducible refine slc_st (pb := pb) (X := X1) (most := most) (k := mki) ?hmS (Quiet0.alloc _ _) ?_); (case hmS => (repeat with_reducible first | exact hmk | refine ja ?_ | refine jb ?_))) | ((with_reducible refine slc_st (pb := pb) (X := X1) (most := most) (k := mki) ?hmS (Quiet0.drew _) ?_); (case hmS => (repeat with_reducible first | exact hmk | refine ja ?_ | refine jb ?_))) | fail))); intro hs1); (refine with_new (pb := pb) (X := X1) (most := most) (k := mki) ?hm5 hqx hs2 ?_; (case hm5 => (repeat with_reducible first | exact hmk | refine ja ?_ | refine jb ?_)); intro hs2)); (refine with_ml (pb := pb) (X := X1) (most := most) (k := mki) (w0 := W1) ?hl2 ?hm2 hqx ?_); (case hl2 => (repeat with_reducible first | exact hlc | exact Later.refl hpb | refine jm hpb ?_ | refine jo hpb ?_)); (case hm2 => (repeat with_reducible first | exact hmk | refine ja ?_ | refine jb ?_)); intro hlc hmk)
        | (go_at_call 117; (with_reducible refine Calls.mono (HSL.out _ ?hq) ?_); (case hq => (repeat with_reducible first | exact hlc | exact Later.refl hpb | refine jm hpb ?_ | refine jo hpb ?_)); rintro e wx ⟨p1, d1, rfl, hs1, hqx⟩; (refine with_new (pb := pb) (X := X1) (most := most) (k := mki) ?hm5 hqx hs1 ?_; (case hm5 => (repeat with_reducible first | exact hmk | refine ja ?_ | refine jb ?_)); intro hs1); (refine with_ml (pb := pb) (X := X1) (most := most) (k := mki) (w0 := W1) ?hl2 ?hm2 hqx ?_); (case hl2 => (repeat with_reducible first | exact hlc | exact Later.refl hpb | refine jm hpb ?_ | refine jo hpb ?_)); (case hm2 => (repeat with_reducible first | exact hmk | refine ja ?_ | refine jb ?_)); intro hlc hmk)
        | ((go_at_call 66; (with_reducible refine Calls.mono (HEQ.out _ _ _ _ _ ?hm ?hs1 ?hs2) ?_)); (case hm => (repeat with_reducible first | exact hmk | refine ja ?_ | refine jb ?_)); (case hs1 => (repeat (first | with_reducible exact hs1 | ((with_reducible refine slc_st (pb := pb) (X := X1) (most := most) (k := mki) ?hmS (Quiet0.alloc _ _) ?_); (case hmS => (repeat with_reducible first | exact hmk | refine ja ?_ | refine jb ?_))) | ((with_reducible refine slc_st (pb := pb) (X := X1) (most := most) (k := mki) ?hmS (Quiet0.drew _) ?_); (case hmS => (repeat with_reducible first | exact hmk | refine ja ?_ | refine jb ?_))) | fail))); (case hs2 => (repeat (first | with_reducible exact hs2 | ((with_reducible refine slc_st (pb := pb) (X := X1) (most := most) (k := mki) ?hmS (Quiet0.alloc _ _) ?_); (case hmS => (repeat with_reducible first | exact hmk | refine ja ?_ | refine jb ?_))) | ((with_reducible refine slc_st (pb := pb) (X := X1) (most := most) (k := mki) ?hmS (Quiet0.drew _) ?_); (case hmS => (repeat with_reducible first | exact hmk | refine ja ?_ | refine jb ?_))) | fail))); rintro e wx ⟨rfl, hmk, hlx⟩; (refine with_lt (pb := pb) (w0 := W1) ?hl2 hlx ?_); (case hl2 => (repeat with_reducible first | exact hlc | exact Later.refl hpb | refine jm hpb ?_ | refine jo hpb ?_)); intro hlc)
        | fail)
      all_goals
       go_wp2_with fail
       go_roundw
       case rel =>
        exact ⟨i + 1, mn, by go_num, by omega, HPK2.out, hmk, HLI1.out.trans hlc⟩
       case measure => simp [intOf]; omega
     ·have HFM : Hid (mki = fin) := by
        show _ = _
        rw [<- HPK.out, hdr]
        show _ = (ifMany () _ mki).2
        unfold ifMany
        rw [if_pos hmb]
      rw [hmb] at hmc1
      clear ht hdr hmb hts
      go_upto_region 7 with fail
      change Code.wp _ _ _ _ (wr.alloc (.cells (ec t o1 l1 c1 o2 l2 c2) 74))
      rw [<- hW1]
      clear hW1 a0 a1 a2 a3 a4 a5 a6 a7
      have hm7 := HFM.out ▸ HMI.out.stay HQW.out
      have hl7 := HLI.out.quiet HQW.out HP2.out
      obtain ⟨n', hn'⟩ := shT_tv fr tt by' n
      have HT : Hid (Calls Tryz.prog 117 #[tyv 1 n vo 0 vc, .pointer (some ⟨ca, 0, none⟩), .pointer (some ⟨cb, 0, none⟩), .pointer (some ⟨B + 2, 0, none⟩)] W1 (ShV W1 n')) := by
       have k := sh_any (tv n) fr tt by' W1 vo 0 vc ca cb (B + 2) (H1b.out.later hl7).1 (H2b.out.later hl7).1 (H9b.out.later hl7).1 (Slc.nil _ _) hbt (by show Fo.nil.size <= 100000; decide)
       rw [hn'] at k
       exact k.mono (fun e w' hh => by obtain ⟨o', cap', e1, _, e3⟩ := hh; exact ⟨o', cap', e1, e3⟩)
      obtain ⟨v0, v1, v2, _, _, _⟩ := box_cells3 (H4b.out.later hl7).1
      have HV8 := hid (H8b.out.later hl7)
      have HMZ := hid hm7
      have HLZ := hid hl7
      have HN' := hid hn'
      unfold tyv at HT
      clear hn'
      go_wp2_with fail
      refine HT.out.mono ?_; rintro e wy ⟨o2, cap2, rfl, hqy⟩
      have HQY := hid hqy
      have HM9 := hid (HMZ.out.stay hqy)
      have hb8 := (HV8.out.later (Later.of_quiet hqy HMZ.out.lt)).1
      have HB8 := hid hb8
      obtain ⟨d0, d1, d2, y0, y1, y2⟩ := box_cells3 hb8
      clear hqy hb8 v0 v1 v2
      go_wp2_with fail
      clear d0 d1 d2 y0 y1 y2
      have hf := put3_fr wy (B + 1) (.int .i64 1) (.int .i64 n') (.slice o2 0 cap2)
      obtain ⟨f0, f1, f2⟩ := put3_cells (a := .int .i64 1) (b := .int .i64 n') (c := .slice o2 0 cap2) HB8.out
      change bodyPost _ _ _ _ _ (put3 wy (B + 1) (.int .i64 1) (.int .i64 n') (.slice o2 0 cap2))
      generalize put3 wy (B + 1) (.int .i64 1) (.int .i64 n') (.slice o2 0 cap2) = wf at *
      refine bodyPost_ret (by simp [results, Tryz.results116, go_sem, f0, f1, f2]; rfl) rfl ?_
      have hp : pb < W.heap.size := by rw [hBB]; exact HPW.out
      exact ⟨n', o2, cap2, HN'.out, rfl, (HM9.out.put (hf.mono (fun i _ e => by rw [HX1.out]; exact Or.inr e))).less (fun i hi => by rw [HX1.out]; exact Or.inl hi), ((HLW2.out.trans HLZ.out).quiet HQY.out hp).put hf hp (fun i hi => by omega)⟩
    ·have hlt' : ¬ (i : Int) < kept.length := by omega
     have HFM : Hid (mki = fin) := by
      show _ = _
      rw [<- HPK.out, List.drop_eq_nil_of_le (by omega)]; rfl
     have hm7 := HFM.out ▸ HMI.out
     have hl7 := HLI.out
     obtain ⟨n', hn'⟩ := shT_tv fr tt by' n
     have HT : Hid (Calls Tryz.prog 117 #[tyv 1 n vo 0 vc, .pointer (some ⟨ca, 0, none⟩), .pointer (some ⟨cb, 0, none⟩), .pointer (some ⟨B + 2, 0, none⟩)] wr (ShV wr n')) := by
      have k := sh_any (tv n) fr tt by' wr vo 0 vc ca cb (B + 2) (H1b.out.later hl7).1 (H2b.out.later hl7).1 (H9b.out.later hl7).1 (Slc.nil _ _) hbt (by show Fo.nil.size <= 100000; decide)
      rw [hn'] at k
      exact k.mono (fun e w' hh => by obtain ⟨o', cap', e1, _, e3⟩ := hh; exact ⟨o', cap', e1, e3⟩)
     obtain ⟨v0, v1, v2, _, _, _⟩ := box_cells3 (H4b.out.later hl7).1
     have HV8 := hid (H8b.out.later hl7)
     have HMZ := hid hm7
     have HLZ := hid hl7
     have HN' := hid hn'
     unfold tyv at HT
     clear hn'
     go_wp2_with fail
     refine HT.out.mono ?_; rintro e wy ⟨o2, cap2, rfl, hqy⟩
     have HQY := hid hqy
     have HM9 := hid (HMZ.out.stay hqy)
     have hb8 := (HV8.out.later (Later.of_quiet hqy HMZ.out.lt)).1
     have HB8 := hid hb8
     obtain ⟨d0, d1, d2, y0, y1, y2⟩ := box_cells3 hb8
     clear hqy hb8 v0 v1 v2
     go_wp2_with fail
     clear d0 d1 d2 y0 y1 y2
     have hf := put3_fr wy (B + 1) (.int .i64 1) (.int .i64 n') (.slice o2 0 cap2)
     obtain ⟨f0, f1, f2⟩ := put3_cells (a := .int .i64 1) (b := .int .i64 n') (c := .slice o2 0 cap2) HB8.out
     change bodyPost _ _ _ _ _ (put3 wy (B + 1) (.int .i64 1) (.int .i64 n') (.slice o2 0 cap2))
     generalize put3 wy (B + 1) (.int .i64 1) (.int .i64 n') (.slice o2 0 cap2) = wf at *
     refine bodyPost_ret (by simp [results, Tryz.results116, go_sem, f0, f1, f2]; rfl) rfl ?_
     have hp : pb < W.heap.size := by rw [hBB]; exact HPW.out
     exact ⟨n', o2, cap2, HN'.out, rfl, (HM9.out.put (hf.mono (fun i _ e => by rw [HX1.out]; exact Or.inr e))).less (fun i hi => by rw [HX1.out]; exact Or.inl hi), ((HLW2.out.trans HLZ.out).quiet HQY.out hp).put hf hp (fun i hi => by omega)⟩
theorem eg_copied : ∀ args w, (callFunc 116 args).run Tryz.prog w = .ok (.enter 116 args) w := enters_of Tryz.func116 (by kernel_rfl) rfl
theorem copied_any {X : Nat -> Prop} {most : Int} {pb lo : Nat} {W : World} {mk : Mk} (hm : MkE X most pb W mk) (hmost : most <= 4096) (n fr tt : Nat) (kept : List Eqn) (ko : Option Addr) (kc : Nat) (vo : Option Addr) (vc : Nat)
    (hk : KeptAt pb W ko kept) (hkz : kept.length <= 4096) (hks : ∀ t ∈ kept, t.1.2.2.size <= 100000 /\ t.2.1.2.2.size <= 100000) (hft : fr <= tt) (hlo : tt <= lo) :
    Calls Tryz.prog 99 #[.slice ko kept.length kc, tyv 1 n vo 0 vc, .int .i64 fr, .int .i64 tt] W fun x w' => ∃ bs ls, x = .returned (.func bs #[] ls) /\ MeanT most pb lo w' (.func bs #[] ls) (copied most kept (tv n) fr tt) /\ Quiet0 W w' := by
 obtain ⟨W1, hW1⟩ : ∃ W1, W1 = (((W.alloc (.cells #[.slice ko kept.length kc] 42)).alloc (.cells #[.int .i64 1, .int .i64 n, .slice vo 0 vc] 24)).alloc (.cells #[.int .i64 fr] 3)).alloc (.cells #[.int .i64 tt] 3) := ⟨_, rfl⟩
 have hq : Quiet0 W W1 := by rw [hW1]; exact (((Quiet0.alloc _ _).trans (Quiet0.alloc _ _)).trans (Quiet0.alloc _ _)).trans (Quiet0.alloc _ _)
 have b0 : W1.heap[W.heap.size]? = some (.cells #[.slice ko kept.length kc] 42 (0, 0)) := by rw [hW1]; exact blk_after (((Quiet0.alloc _ _).trans (Quiet0.alloc _ _)).trans (Quiet0.alloc _ _)) (heap_alloc_new W _)
 have b1 : W1.heap[W.heap.size + 1]? = some (.cells #[.int .i64 1, .int .i64 n, .slice vo 0 vc] 24 (0, 0)) := by
  rw [hW1]; refine blk_after ((Quiet0.alloc _ _).trans (Quiet0.alloc _ _)) ?_
  have := heap_alloc_new (W.alloc (.cells #[.slice ko kept.length kc] 42)) (.cells #[.int .i64 1, .int .i64 n, .slice vo 0 vc] 24)
  simpa using this
 have b2 : W1.heap[W.heap.size + 1 + 1]? = some (.cells #[.int .i64 fr] 3 (0, 0)) := by
  rw [hW1]; refine blk_after (Quiet0.alloc _ _) ?_
  have := heap_alloc_new ((W.alloc (.cells #[.slice ko kept.length kc] 42)).alloc (.cells #[.int .i64 1, .int .i64 n, .slice vo 0 vc] 24)) (.cells #[.int .i64 fr] 3)
  simpa using this
 have b3 : W1.heap[W.heap.size + 1 + 1 + 1]? = some (.cells #[.int .i64 tt] 3 (0, 0)) := by
  rw [hW1]
  have := heap_alloc_new (((W.alloc (.cells #[.slice ko kept.length kc] 42)).alloc (.cells #[.int .i64 1, .int .i64 n, .slice vo 0 vc] 24)).alloc (.cells #[.int .i64 fr] 3)) (.cells #[.int .i64 tt] 3)
  simpa using this
 have x0 := Bx.new hm hq (Nat.le_refl _) b0
 have x1 := Bx.new hm hq (by omega) b1
 have x2 := Bx.new hm hq (by omega) b2
 have x3 := Bx.new hm hq (by omega) b3
 have hk1 := hk.later (Later.of_quiet hq hm.lt)
 have HF : Hid (MeanT most pb lo W1 (.func (.func 116) #[] #[.pointer (some ⟨W.heap.size + 1 + 1, 0, none⟩), .pointer (some ⟨W.heap.size + 1 + 1 + 1, 0, none⟩), .pointer (some ⟨W.heap.size, 0, none⟩), .pointer (some ⟨W.heap.size + 1, 0, none⟩)]) (copied most kept (tv n) fr tt)) :=
  ⟨_, _, rfl, eg_copied, fun W' X' mk' a b hl hm' hlo' hN => copied1_any hm' hmost n fr tt kept ko kc vo vc _ _ _ _ a b (x2.later hl) (x3.later hl) (x0.later hl) (x1.later hl) (hk1.later hl) hkz hks hft (by omega) hN⟩
 have HQ := hid hq
 clear hm hk hq b0 b1 b2 b3 x0 x1 x2 x3 hk1
 unfold tyv
 go_enter Tryz.func99, Tryz.ntmps99
 go_upto_region 1 with fail
 rw [<- hW1]
 clear hW1
 go_wp2_with fail
 go_ret
 exact ⟨_, _, rfl, HF.out, HQ.out⟩
end Em
end
section
open Go.RowKit
namespace Em
def bodyM (most : Int) (h : Nd) (ps : To) (vs : List (Env -> Pm Ty)) (e : Env) (own : Ty) : Pm Ty :=
 if h.k = 2 then bd (eqP most own (2, 0, .nil) h.fr h.en) fun _ => pu own
 else if h.k = 3 then bd (eqP most own (3, 0, .nil) h.fr h.en) fun _ => pu own
 else if h.k = 1 then bd (lookE e h.nm) fun t => bd (eqP most own t h.fr h.en) fun _ => pu own
 else if h.k = 4 then bd takeP fun b => bd (vat vs 0 ((h.nm, pu b) :: e)) fun t => bd (eqP most own (arrT b t) h.fr h.en) fun _ => pu own
 else if h.k = 6 then bd (letP most h (vat vs 0 e) fun c => vat vs 1 ((h.nm, c) :: e)) fun t => bd (eqP most own t h.fr h.en) fun _ => pu own
 else if h.k = 7 then bd (letP most h (bd takeP fun v => bd (vat vs 0 ((h.nm, pu v) :: e)) fun t => bd (eqP most v t h.fr h.en) fun _ => pu v) fun c => vat vs 1 ((h.nm, c) :: e)) fun t => bd (eqP most own t h.fr h.en) fun _ => pu own
 else bd (mapE e vs) fun p =>
  if h.k = 5 then bd (eqP most (tat p 0) (arrT (tat p 1) own) h.fr h.en) fun _ => pu own
  else if h.k = 8 then bd (eqP most (tat p 0) (3, 0, .nil) (spanAt ps 0).1 (spanAt ps 0).2) fun _ => bd (eqP most own (tat p 1) (spanAt ps 1).1 (spanAt ps 1).2) fun _ => bd (eqP most own (tat p 2) (spanAt ps 2).1 (spanAt ps 2).2) fun _ => pu own
  else if h.k = 9 then bd (eqP most own (5, 0, foOf p) h.fr h.en) fun _ => pu own
  else if h.k = 10 then bd (eqP most (tat p 0) (h.tk, h.tn, h.tp) (spanAt ps 0).1 (spanAt ps 0).2) fun _ => bd (eqP most own (h.tk, h.tn, h.tp) h.fr h.en) fun _ => pu own
  else pu own
theorem term_run (most : Int) (h : Nd) (ps : To) (e : Env) (mk : Mk) : termM most h ps e mk = ifMany (tv mk.next) (bodyM most h ps (valsM most ps) e (tv mk.next)) { mk with next := mk.next + 1 } := rfl
theorem term_many (most : Int) (h : Nd) (ps : To) (e : Env) (mk : Mk) (hm : mk.many = true) : termM most h ps e mk = (tv mk.next, { mk with next := mk.next + 1 }) := by
 rw [term_run]; unfold ifMany; rw [if_pos hm]
theorem term_go (most : Int) (h : Nd) (ps : To) (e : Env) (mk : Mk) (hm : mk.many = false) : termM most h ps e mk = bodyM most h ps (valsM most ps) e (tv mk.next) { mk with next := mk.next + 1 } := by
 rw [term_run]; unfold ifMany; rw [if_neg (by rw [hm]; decide)]
theorem vat_get {most : Int} {ps : To} {i : Nat} {h : Nd} {qs : To} (hg : ps.get i = some (h, qs)) : vat (valsM most ps) i = termM most h qs := by
 funext e
 unfold vat
 rw [List.getD_eq_getElem?_getD, valsM_get most ps i h qs hg]; rfl
theorem body_int {most : Int} {h : Nd} {ps : To} {vs : List (Env -> Pm Ty)} {e : Env} {own : Ty} {m : Mk} (hk : h.k = 2) : bodyM most h ps vs e own m = (own, (eqP most own (2, 0, .nil) h.fr h.en m).2) := by
 unfold bodyM; rw [if_pos hk]; rfl
theorem body_bool {most : Int} {h : Nd} {ps : To} {vs : List (Env -> Pm Ty)} {e : Env} {own : Ty} {m : Mk} (hk : h.k = 3) : bodyM most h ps vs e own m = (own, (eqP most own (3, 0, .nil) h.fr h.en m).2) := by
 unfold bodyM; rw [if_neg (by omega), if_pos hk]; rfl
theorem body_var {most : Int} {h : Nd} {ps : To} {vs : List (Env -> Pm Ty)} {e : Env} {own : Ty} {m : Mk} (hk : h.k = 1) : bodyM most h ps vs e own m = (own, (eqP most own (lookE e h.nm m).1 h.fr h.en (lookE e h.nm m).2).2) := by
 unfold bodyM; rw [if_neg (by omega), if_neg (by omega), if_pos hk]; rfl
theorem body_lam {most : Int} {h : Nd} {ps : To} {vs : List (Env -> Pm Ty)} {e : Env} {own : Ty} {m : Mk} (hk : h.k = 4) : bodyM most h ps vs e own m =
    (own, (eqP most own (arrT (tv m.next) (vat vs 0 ((h.nm, pu (tv m.next)) :: e) { m with next := m.next + 1 }).1) h.fr h.en (vat vs 0 ((h.nm, pu (tv m.next)) :: e) { m with next := m.next + 1 }).2).2) := by
 unfold bodyM; rw [if_neg (by omega), if_neg (by omega), if_neg (by omega), if_pos hk]; rfl
def firstM (most : Int) (h : Nd) (vs : List (Env -> Pm Ty)) (e : Env) : Pm Ty := if h.k = 6 then vat vs 0 e else bd takeP fun v => bd (vat vs 0 ((h.nm, pu v) :: e)) fun t => bd (eqP most v t h.fr h.en) fun _ => pu v
def keptM (most : Int) (h : Nd) (vs : List (Env -> Pm Ty)) (e : Env) (m : Mk) : Pm Ty := copied most ((firstM most h vs e m).2.eqs.drop m.eqs.length) (firstM most h vs e m).1 m.next (firstM most h vs e m).2.next
theorem body_let {most : Int} {h : Nd} {ps : To} {vs : List (Env -> Pm Ty)} {e : Env} {own : Ty} {m : Mk} (hk : h.k = 6 ∨ h.k = 7) : bodyM most h ps vs e own m =
    (own, (eqP most own (vat vs 1 ((h.nm, keptM most h vs e m) :: e) (firstM most h vs e m).2).1 h.fr h.en (vat vs 1 ((h.nm, keptM most h vs e m) :: e) (firstM most h vs e m).2).2).2) := by
 unfold bodyM keptM firstM
 rw [if_neg (by omega), if_neg (by omega), if_neg (by omega), if_neg (by omega)]
 by_cases h6 : h.k = 6
 ·rw [if_pos h6]; simp only [if_pos h6]; rfl
 ·rw [if_neg h6, if_pos (by omega)]; simp only [if_neg h6]; rfl
theorem body_app {most : Int} {h : Nd} {ps : To} {vs : List (Env -> Pm Ty)} {e : Env} {own : Ty} {m : Mk} (hk : h.k = 5) : bodyM most h ps vs e own m =
    (own, (eqP most (tat (mapE e vs m).1 0) (arrT (tat (mapE e vs m).1 1) own) h.fr h.en (mapE e vs m).2).2) := by
 unfold bodyM; rw [if_neg (by omega), if_neg (by omega), if_neg (by omega), if_neg (by omega), if_neg (by omega), if_neg (by omega)]
 unfold bd; simp only [if_pos hk]; rfl
theorem body_if {most : Int} {h : Nd} {ps : To} {vs : List (Env -> Pm Ty)} {e : Env} {own : Ty} {m : Mk} (hk : h.k = 8) : bodyM most h ps vs e own m =
    (own, (eqP most own (tat (mapE e vs m).1 2) (spanAt ps 2).1 (spanAt ps 2).2 (eqP most own (tat (mapE e vs m).1 1) (spanAt ps 1).1 (spanAt ps 1).2 (eqP most (tat (mapE e vs m).1 0) (3, 0, .nil) (spanAt ps 0).1 (spanAt ps 0).2 (mapE e vs m).2).2).2).2) := by
 have n5 : ¬ h.k = 5 := by omega
 unfold bodyM; rw [if_neg (by omega), if_neg (by omega), if_neg (by omega), if_neg (by omega), if_neg (by omega), if_neg (by omega)]
 unfold bd; simp only [if_neg n5, if_pos hk]; rfl
theorem body_tuple {most : Int} {h : Nd} {ps : To} {vs : List (Env -> Pm Ty)} {e : Env} {own : Ty} {m : Mk} (hk : h.k = 9) : bodyM most h ps vs e own m =
    (own, (eqP most own (5, 0, foOf (mapE e vs m).1) h.fr h.en (mapE e vs m).2).2) := by
 have n5 : ¬ h.k = 5 := by omega
 have n8 : ¬ h.k = 8 := by omega
 unfold bodyM; rw [if_neg (by omega), if_neg (by omega), if_neg (by omega), if_neg (by omega), if_neg (by omega), if_neg (by omega)]
 unfold bd; simp only [if_neg n5, if_neg n8, if_pos hk]; rfl
theorem body_ann {most : Int} {h : Nd} {ps : To} {vs : List (Env -> Pm Ty)} {e : Env} {own : Ty} {m : Mk} (hk : h.k = 10) : bodyM most h ps vs e own m =
    (own, (eqP most own (h.tk, h.tn, h.tp) h.fr h.en (eqP most (tat (mapE e vs m).1 0) (h.tk, h.tn, h.tp) (spanAt ps 0).1 (spanAt ps 0).2 (mapE e vs m).2).2).2) := by
 have n5 : ¬ h.k = 5 := by omega
 have n8 : ¬ h.k = 8 := by omega
 have n9 : ¬ h.k = 9 := by omega
 unfold bodyM; rw [if_neg (by omega), if_neg (by omega), if_neg (by omega), if_neg (by omega), if_neg (by omega), if_neg (by omega)]
 unfold bd; simp only [if_neg n5, if_neg n8, if_neg n9, if_pos hk]; rfl
def okT (h : Nd) (m : Nat) : Prop := (1 <= h.k /\ h.k <= 10) /\ (h.k = 4 -> 1 <= m) /\ (h.k = 5 -> 2 <= m) /\ (h.k = 6 -> 2 <= m) /\ (h.k = 7 -> 2 <= m) /\ (h.k = 8 -> 3 <= m) /\ (h.k = 10 -> 1 <= m) /\ h.tp.size <= 100000
def okTL : To -> Prop
 | .nil => True
 | .cons h ps r => okT h ps.length /\ okTL ps /\ okTL r
theorem okTL_get : ∀ (f : To) (i : Nat) (h : Nd) (qs : To), okTL f -> f.get i = some (h, qs) -> okT h qs.length /\ okTL qs
 | .nil, i, h, qs, _, e => by simp [To.get] at e
 | .cons h' ps r, 0, h, qs, k, e => by
  simp [To.get] at e
  obtain ⟨rfl, rfl⟩ := e
  exact ⟨k.1, k.2.1⟩
 | .cons h' ps r, i + 1, h, qs, k, e => okTL_get r i h qs k.2.2 e
abbrev names (e : FEnv) : List ByteArray := e.map Prod.fst
theorem free_part : ∀ (f : To) (k : Int) (nm : ByteArray) (i j : Nat) (e : List ByteArray) (h : Nd) (qs : To), Sc.freeL k nm i e f = [] -> f.get j = some (h, qs) -> Sc.free1 (Sc.envOf k nm (i + j) e) h qs = []
 | .nil, _, _, _, _, _, _, _, _, hg => by simp [To.get] at hg
 | .cons h' ps r, k, nm, i, 0, e, h, qs, hf, hg => by
  simp [To.get] at hg
  obtain ⟨rfl, rfl⟩ := hg
  unfold Sc.freeL at hf
  exact (List.append_eq_nil_iff.1 hf).1
 | .cons h' ps r, k, nm, i, j + 1, e, h, qs, hf, hg => by
  unfold Sc.freeL at hf
  have := free_part r k nm (i + 1) j e h qs (List.append_eq_nil_iff.1 hf).2 hg
  rw [show i + (j + 1) = i + 1 + j from by omega]; exact this
theorem free_of {e : List ByteArray} {h : Nd} {ps : To} {j : Nat} {g : Nd} {qs : To} (hf : Sc.free1 e h ps = []) (hk : h.k ≠ 1) (hg : ps.get j = some (g, qs)) : Sc.free1 (Sc.envOf h.k h.nm j e) g qs = [] := by
 unfold Sc.free1 at hf
 rw [if_neg hk] at hf
 have := free_part ps h.k h.nm 0 j e g qs hf hg
 rwa [Nat.zero_add] at this
theorem MkE.rlow {X : Nat -> Prop} {most : Int} {pb : Nat} {W : World} {k : Mk} (h : MkE X most pb W k) {i : Nat} (hr : Rw pb W i) : pb < i := by
 obtain ⟨o, c, xs, h⟩ := h
 have e := (h.rw_iff i).1 hr
 exact (h.low i (by rw [e]; rfl)).1
theorem tslc_later {X R : Nat -> Prop} {most : Int} {pb : Nat} {W W' : World} {k : Mk} {o : Option Addr} {l : Nat} {f : To} (h : TSlc R W o l f) (hR : ∀ i, R i -> i < pb) (hm : MkE X most pb W k) (hl : Later pb W W') : TSlc R W' o l f :=
 h.fr hl.fr (fun i _ hi => ⟨hi, fun e => e.elim (fun e => by have := hR i hi; omega) (fun e => by have := hR i hi; have := hm.rlow e; omega)⟩)
theorem slcin_later {X R : Nat -> Prop} {most : Int} {pb : Nat} {W W' : World} {k : Mk} {o : Option Addr} {l : Nat} {f : Fo} (h : SlcIn R W o l f) (hR : ∀ i, R i -> i < pb) (hm : MkE X most pb W k) (hl : Later pb W W') : SlcIn R W' o l f :=
 h.fr hl.fr (fun i _ hi => ⟨hi, fun e => e.elim (fun e => by have := hR i hi; omega) (fun e => by have := hR i hi; have := hm.rlow e; omega)⟩)
theorem cells_later {X : Nat -> Prop} {most : Int} {pb : Nat} {W W' : World} {k : Mk} {b off : Nat} {h : Nd} {o1 : Option Addr} {l1 c1 : Nat} {o2 : Option Addr} {l2 c2 : Nat} (hc : Cells9 W b off h o1 l1 c1 o2 l2 c2) (hb : b < pb) (hm : MkE X most pb W k) (hl : Later pb W W') : Cells9 W' b off h o1 l1 c1 o2 l2 c2 :=
 hc.fr hl.fr (fun e => e.elim (fun e => by omega) (fun e => by have := hm.rlow e; omega))
abbrev BfE (pb : Nat) (W : World) (o : Option Addr) (n : Nat) (e : FEnv) : Prop := BfIn (TF (fun _ => False) pb W) W o n e
theorem bf_new {X : Nat -> Prop} {most : Int} {pb : Nat} {W W' : World} {k : Mk} {o : Option Addr} {n : Nat} {e : FEnv} (hm : MkE X most pb W k) (hq : Quiet0 W W') (h : BfIn (fun i => W.heap.size <= i) W' o n e) : BfE pb W' o n e :=
 h.fr (Fr.refl (fun _ => False) W') (fun _ _ hi => ⟨⟨(hm.fresh hq hi).1, (hm.fresh hq hi).2.1, fun h => h⟩, fun h => h⟩)
def TmT (h : Nd) (ps : To) : Prop := ∀ (W : World) (R X : Nat -> Prop) (most : Int) (pb : Nat) (mk : Mk) (o1 : Option Addr) (l1 c1 : Nat) (o2 : Option Addr) (l2 c2 : Nat) (eo : Option Addr) (en ec : Nat) (e : FEnv) (E : Env),
 SlcIn R W o1 l1 h.tp -> TSlc R W o2 l2 ps -> (∀ i, R i -> i < pb) -> MkE X most pb W mk -> most <= 4096 -> BfE pb W eo en e -> en <= ec -> en + ps.size <= 100000 -> EnvM most pb mk.next W e E -> okT h ps.length -> okTL ps -> Sc.free1 (names e) h ps = [] -> (termM most h ps E mk).2.next <= NBd ->
 Calls Tryz.prog 42 #[.pointer (some ⟨pb, 0, none⟩), tmv h o1 l1 c1 o2 l2 c2, .slice eo en ec] W (MkQ X most pb W (termM most h ps E mk))
end Em
end
section
namespace Em
abbrev RT : Nat -> Ty -> Nat -> Prop := fun n t k => t = tv k /\ k < n
end Em
end
section
namespace Em
theorem sound_parts {h : Nd} {m : Nat} (hs : soundB h m = true) : 1 <= h.k /\ h.k <= 10 /\ typedB h = true /\ kLeast h.k <= m /\ (m : Int) <= kMost h.k := by
 unfold soundB at hs
 simp only [Bool.and_eq_true, decide_eq_true_eq] at hs
 exact ⟨hs.1.1.1.1.1.1.1, hs.1.1.1.1.1.1.2, hs.1.1.1.1.2, hs.1.2, hs.2⟩
theorem okK_of : ∀ f : To, allS f = true -> okK f
 | .nil, _ => trivial
 | .cons h ps r, e => by
  rw [allS_cons, Bool.and_eq_true, Bool.and_eq_true] at e
  obtain ⟨h1, h2, _, _, h5⟩ := sound_parts e.1.1
  refine ⟨⟨h1, h2, fun hk => ?_⟩, okK_of ps e.1.2, okK_of r e.2⟩
  have hm : kMost h.k = 0 := by rcases hk with hk | hk <;> (rw [hk]; rfl)
  rw [hm] at h5
  have hl : ps.length = 0 := by omega
  cases ps with
  | nil => rfl
  | cons _ _ _ => simp [To.length] at hl
theorem okT_of : ∀ f : To, allS f = true -> allT GoodH f -> okTL f
 | .nil, _, _ => trivial
 | .cons h ps r, e, g => by
  rw [allS_cons, Bool.and_eq_true, Bool.and_eq_true] at e
  obtain ⟨h1, h2, _, h4, _⟩ := sound_parts e.1.1
  have hl : ∀ k : Int, h.k = k -> kLeast k <= ps.length := fun k hk => by rw [<- hk]; exact h4
  refine ⟨⟨⟨h1, h2⟩, fun hk => ?_, fun hk => ?_, fun hk => ?_, fun hk => ?_, fun hk => ?_, fun hk => ?_, g.1.2.1⟩, okT_of ps e.1.2 g.2.1, okT_of r e.2 g.2.2⟩ <;>
   (have := hl _ hk; simp [kLeast] at this; omega)
def ofN (h : Nd) (ps : To) (most : Int) : List Eqn × Int :=
 if (Sc.rsvP h ps).2.2 = 0 then (let m := (termM (min most 4096) h ps [] ⟨[], 0, false⟩).2; if m.many then ([], 6) else (m.eqs, 0)) else ([], (Sc.rsvP h ps).2.2)
theorem rsv0 {h : Nd} {ps : To} (h0 : (Sc.rsvP h ps).2.2 = 0) : Sc.RT h ps = true /\ Sc.free1 [] h ps = [] := by
 unfold Sc.rsvP at h0
 split at h0
 ·next hr =>
  split at h0
  ·next hf => exact ⟨hr, hf⟩
  ·exact absurd (show (5 : Int) = 0 from h0) (by decide)
 ·exact absurd h0 (by decide)
end Em
end
section
namespace Em
theorem ofN_run {h : Nd} {ps : To} (h0 : (Sc.rsvP h ps).2.2 = 0) {M : Nat} (hM : M <= 4096) : ofN h ps M = if (run M h ps).many then ([], 6) else ((run M h ps).eqs, 0) := by
 unfold ofN
 rw [if_pos h0, show min (M : Int) 4096 = (M : Int) by omega]
 rfl
theorem ofN_M {h : Nd} {ps : To} (h0 : (Sc.rsvP h ps).2.2 = 0) {M : Nat} (hM : M <= 4096) : ofN h ps (M : Int) = ([], 6) ∨ ∃ l, ofN h ps (M : Int) = (l, 0) /\ 1 <= l.length /\ l.length <= M /\ ofN h ps (l.length : Nat) = (l, 0) /\ ofN h ps (((l.length : Nat) : Int) - 1) = ([], 6) := by
 have hk := okK_of _ (rsv0 h0).1
 have e := ofN_run h0 hM
 cases hm : (run M h ps).many
 ·right
  have hle := run_le hm
  have hpos := run_pos hk.1.1 hk.1.2.1 hm
  have hsame := run_same hm
  refine ⟨(run M h ps).eqs, by rw [e, hm]; rfl, hpos, hle, ?_, ?_⟩
  ·rw [ofN_run h0 (by omega), hsame, hm]; rfl
  ·have hless := run_less (k := (run M h ps).eqs.length - 1) hm (by omega)
   rw [show (((run M h ps).eqs.length : Nat) : Int) - 1 = (((run M h ps).eqs.length - 1 : Nat) : Int) by omega, ofN_run h0 (by omega), hless]; rfl
 ·left
  rw [e, hm]; rfl
theorem ofN_300 {h : Nd} {ps : To} (h0 : (Sc.rsvP h ps).2.2 = 0) : ofN h ps 300 = ([], 6) ∨ ∃ l, ofN h ps 300 = (l, 0) /\ 1 <= l.length /\ l.length <= 300 /\ ofN h ps (l.length : Nat) = (l, 0) /\ ofN h ps (((l.length : Nat) : Int) - 1) = ([], 6) := ofN_M h0 (M := 300) (by omega)
theorem rsv_ok {h : Nd} {ps : To} (hr : Sc.RT h ps = true) (hf : Sc.free1 [] h ps = []) : (Sc.rsvP h ps).2.2 = 0 := by
 unfold Sc.rsvP
 rw [if_pos hr, hf]
end Em
end
end Go.Proofs.YtcninopmelmajaaGreatDoor
