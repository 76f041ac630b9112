/-
  Texts laid together (EqRun, EmDoc, EmBnd, EmLk, EmSat, EmOk, EqMany0, EmWf, EqAgr0, EqPart, EqPk, EqTerm): laws and walks, with their conditions.
-/
import Derived.Test.YtcninopmelmajaaGreatDoorAG11
set_option maxHeartbeats 8000000
set_option maxRecDepth 1000000
namespace Go.Proofs.YtcninopmelmajaaGreatDoor
open Go.Lib (hid)
section
open Go.RowKit
namespace Em
def bodyM (most : Int) (h : Nd) (ps : To) (vs : List (Env -> Pm Ty)) (e : Env) (own : Ty) : Pm Ty :=
 if h.k = 2 then bd (eqP most own (2, 0, .nil) h.fr h.en) fun _ => pu own
 else if h.k = 3 then bd (eqP most own (3, 0, .nil) h.fr h.en) fun _ => pu own
 else if h.k = 1 then bd (lookE e h.nm) fun t => bd (eqP most own t h.fr h.en) fun _ => pu own
 else if h.k = 4 then bd takeP fun b => bd (vat vs 0 ((h.nm, pu b) :: e)) fun t => bd (eqP most own (arrT b t) h.fr h.en) fun _ => pu own
 else if h.k = 6 then bd (letP most h (vat vs 0 e) fun c => vat vs 1 ((h.nm, c) :: e)) fun t => bd (eqP most own t h.fr h.en) fun _ => pu own
 else if h.k = 7 then bd (letP most h (bd takeP fun v => bd (vat vs 0 ((h.nm, pu v) :: e)) fun t => bd (eqP most v t h.fr h.en) fun _ => pu v) fun c => vat vs 1 ((h.nm, c) :: e)) fun t => bd (eqP most own t h.fr h.en) fun _ => pu own
 else bd (mapE e vs) fun p =>
  if h.k = 5 then bd (eqP most (tat p 0) (arrT (tat p 1) own) h.fr h.en) fun _ => pu own
  else if h.k = 8 then bd (eqP most (tat p 0) (3, 0, .nil) (spanAt ps 0).1 (spanAt ps 0).2) fun _ => bd (eqP most own (tat p 1) (spanAt ps 1).1 (spanAt ps 1).2) fun _ => bd (eqP most own (tat p 2) (spanAt ps 2).1 (spanAt ps 2).2) fun _ => pu own
  else if h.k = 9 then bd (eqP most own (5, 0, foOf p) h.fr h.en) fun _ => pu own
  else if h.k = 10 then bd (eqP most (tat p 0) (h.tk, h.tn, h.tp) (spanAt ps 0).1 (spanAt ps 0).2) fun _ => bd (eqP most own (h.tk, h.tn, h.tp) h.fr h.en) fun _ => pu own
  else pu own
theorem term_run (most : Int) (h : Nd) (ps : To) (e : Env) (mk : Mk) : termM most h ps e mk = ifMany (tv mk.next) (bodyM most h ps (valsM most ps) e (tv mk.next)) { mk with next := mk.next + 1 } := rfl
theorem term_many (most : Int) (h : Nd) (ps : To) (e : Env) (mk : Mk) (hm : mk.many = true) : termM most h ps e mk = (tv mk.next, { mk with next := mk.next + 1 }) := by
 rw [term_run]; unfold ifMany; rw [if_pos hm]
theorem term_go (most : Int) (h : Nd) (ps : To) (e : Env) (mk : Mk) (hm : mk.many = false) : termM most h ps e mk = bodyM most h ps (valsM most ps) e (tv mk.next) { mk with next := mk.next + 1 } := by
 rw [term_run]; unfold ifMany; rw [if_neg (by rw [hm]; decide)]
theorem vat_get {most : Int} {ps : To} {i : Nat} {h : Nd} {qs : To} (hg : ps.get i = some (h, qs)) : vat (valsM most ps) i = termM most h qs := by
 funext e
 unfold vat
 rw [List.getD_eq_getElem?_getD, valsM_get most ps i h qs hg]; rfl
theorem body_int {most : Int} {h : Nd} {ps : To} {vs : List (Env -> Pm Ty)} {e : Env} {own : Ty} {m : Mk} (hk : h.k = 2) : bodyM most h ps vs e own m = (own, (eqP most own (2, 0, .nil) h.fr h.en m).2) := by
 unfold bodyM; rw [if_pos hk]; rfl
theorem body_bool {most : Int} {h : Nd} {ps : To} {vs : List (Env -> Pm Ty)} {e : Env} {own : Ty} {m : Mk} (hk : h.k = 3) : bodyM most h ps vs e own m = (own, (eqP most own (3, 0, .nil) h.fr h.en m).2) := by
 unfold bodyM; rw [if_neg (by omega), if_pos hk]; rfl
theorem body_var {most : Int} {h : Nd} {ps : To} {vs : List (Env -> Pm Ty)} {e : Env} {own : Ty} {m : Mk} (hk : h.k = 1) : bodyM most h ps vs e own m = (own, (eqP most own (lookE e h.nm m).1 h.fr h.en (lookE e h.nm m).2).2) := by
 unfold bodyM; rw [if_neg (by omega), if_neg (by omega), if_pos hk]; rfl
theorem body_lam {most : Int} {h : Nd} {ps : To} {vs : List (Env -> Pm Ty)} {e : Env} {own : Ty} {m : Mk} (hk : h.k = 4) : bodyM most h ps vs e own m =
    (own, (eqP most own (arrT (tv m.next) (vat vs 0 ((h.nm, pu (tv m.next)) :: e) { m with next := m.next + 1 }).1) h.fr h.en (vat vs 0 ((h.nm, pu (tv m.next)) :: e) { m with next := m.next + 1 }).2).2) := by
 unfold bodyM; rw [if_neg (by omega), if_neg (by omega), if_neg (by omega), if_pos hk]; rfl
def firstM (most : Int) (h : Nd) (vs : List (Env -> Pm Ty)) (e : Env) : Pm Ty := if h.k = 6 then vat vs 0 e else bd takeP fun v => bd (vat vs 0 ((h.nm, pu v) :: e)) fun t => bd (eqP most v t h.fr h.en) fun _ => pu v
def keptM (most : Int) (h : Nd) (vs : List (Env -> Pm Ty)) (e : Env) (m : Mk) : Pm Ty := copied most ((firstM most h vs e m).2.eqs.drop m.eqs.length) (firstM most h vs e m).1 m.next (firstM most h vs e m).2.next
theorem body_let {most : Int} {h : Nd} {ps : To} {vs : List (Env -> Pm Ty)} {e : Env} {own : Ty} {m : Mk} (hk : h.k = 6 ∨ h.k = 7) : bodyM most h ps vs e own m =
    (own, (eqP most own (vat vs 1 ((h.nm, keptM most h vs e m) :: e) (firstM most h vs e m).2).1 h.fr h.en (vat vs 1 ((h.nm, keptM most h vs e m) :: e) (firstM most h vs e m).2).2).2) := by
 unfold bodyM keptM firstM
 rw [if_neg (by omega), if_neg (by omega), if_neg (by omega), if_neg (by omega)]
 by_cases h6 : h.k = 6
 ·rw [if_pos h6]; simp only [if_pos h6]; rfl
 ·rw [if_neg h6, if_pos (by omega)]; simp only [if_neg h6]; rfl
theorem body_app {most : Int} {h : Nd} {ps : To} {vs : List (Env -> Pm Ty)} {e : Env} {own : Ty} {m : Mk} (hk : h.k = 5) : bodyM most h ps vs e own m =
    (own, (eqP most (tat (mapE e vs m).1 0) (arrT (tat (mapE e vs m).1 1) own) h.fr h.en (mapE e vs m).2).2) := by
 unfold bodyM; rw [if_neg (by omega), if_neg (by omega), if_neg (by omega), if_neg (by omega), if_neg (by omega), if_neg (by omega)]
 unfold bd; simp only [if_pos hk]; rfl
theorem body_if {most : Int} {h : Nd} {ps : To} {vs : List (Env -> Pm Ty)} {e : Env} {own : Ty} {m : Mk} (hk : h.k = 8) : bodyM most h ps vs e own m =
    (own, (eqP most own (tat (mapE e vs m).1 2) (spanAt ps 2).1 (spanAt ps 2).2 (eqP most own (tat (mapE e vs m).1 1) (spanAt ps 1).1 (spanAt ps 1).2 (eqP most (tat (mapE e vs m).1 0) (3, 0, .nil) (spanAt ps 0).1 (spanAt ps 0).2 (mapE e vs m).2).2).2).2) := by
 have n5 : ¬ h.k = 5 := by omega
 unfold bodyM; rw [if_neg (by omega), if_neg (by omega), if_neg (by omega), if_neg (by omega), if_neg (by omega), if_neg (by omega)]
 unfold bd; simp only [if_neg n5, if_pos hk]; rfl
theorem body_tuple {most : Int} {h : Nd} {ps : To} {vs : List (Env -> Pm Ty)} {e : Env} {own : Ty} {m : Mk} (hk : h.k = 9) : bodyM most h ps vs e own m =
    (own, (eqP most own (5, 0, foOf (mapE e vs m).1) h.fr h.en (mapE e vs m).2).2) := by
 have n5 : ¬ h.k = 5 := by omega
 have n8 : ¬ h.k = 8 := by omega
 unfold bodyM; rw [if_neg (by omega), if_neg (by omega), if_neg (by omega), if_neg (by omega), if_neg (by omega), if_neg (by omega)]
 unfold bd; simp only [if_neg n5, if_neg n8, if_pos hk]; rfl
theorem body_ann {most : Int} {h : Nd} {ps : To} {vs : List (Env -> Pm Ty)} {e : Env} {own : Ty} {m : Mk} (hk : h.k = 10) : bodyM most h ps vs e own m =
    (own, (eqP most own (h.tk, h.tn, h.tp) h.fr h.en (eqP most (tat (mapE e vs m).1 0) (h.tk, h.tn, h.tp) (spanAt ps 0).1 (spanAt ps 0).2 (mapE e vs m).2).2).2) := by
 have n5 : ¬ h.k = 5 := by omega
 have n8 : ¬ h.k = 8 := by omega
 have n9 : ¬ h.k = 9 := by omega
 unfold bodyM; rw [if_neg (by omega), if_neg (by omega), if_neg (by omega), if_neg (by omega), if_neg (by omega), if_neg (by omega)]
 unfold bd; simp only [if_neg n5, if_neg n8, if_neg n9, if_pos hk]; rfl
def okT (h : Nd) (m : Nat) : Prop := (1 <= h.k /\ h.k <= 10) /\ (h.k = 4 -> 1 <= m) /\ (h.k = 5 -> 2 <= m) /\ (h.k = 6 -> 2 <= m) /\ (h.k = 7 -> 2 <= m) /\ (h.k = 8 -> 3 <= m) /\ (h.k = 10 -> 1 <= m) /\ h.tp.size <= 100000
def okTL : To -> Prop
 | .nil => True
 | .cons h ps r => okT h ps.length /\ okTL ps /\ okTL r
theorem okTL_get : ∀ (f : To) (i : Nat) (h : Nd) (qs : To), okTL f -> f.get i = some (h, qs) -> okT h qs.length /\ okTL qs
 | .nil, i, h, qs, _, e => by simp [To.get] at e
 | .cons h' ps r, 0, h, qs, k, e => by
  simp [To.get] at e
  obtain ⟨rfl, rfl⟩ := e
  exact ⟨k.1, k.2.1⟩
 | .cons h' ps r, i + 1, h, qs, k, e => okTL_get r i h qs k.2.2 e
abbrev names (e : FEnv) : List ByteArray := e.map Prod.fst
theorem free_part : ∀ (f : To) (k : Int) (nm : ByteArray) (i j : Nat) (e : List ByteArray) (h : Nd) (qs : To), Sc.freeL k nm i e f = [] -> f.get j = some (h, qs) -> Sc.free1 (Sc.envOf k nm (i + j) e) h qs = []
 | .nil, _, _, _, _, _, _, _, _, hg => by simp [To.get] at hg
 | .cons h' ps r, k, nm, i, 0, e, h, qs, hf, hg => by
  simp [To.get] at hg
  obtain ⟨rfl, rfl⟩ := hg
  unfold Sc.freeL at hf
  exact (List.append_eq_nil_iff.1 hf).1
 | .cons h' ps r, k, nm, i, j + 1, e, h, qs, hf, hg => by
  unfold Sc.freeL at hf
  have := free_part r k nm (i + 1) j e h qs (List.append_eq_nil_iff.1 hf).2 hg
  rw [show i + (j + 1) = i + 1 + j from by omega]; exact this
theorem free_of {e : List ByteArray} {h : Nd} {ps : To} {j : Nat} {g : Nd} {qs : To} (hf : Sc.free1 e h ps = []) (hk : h.k ≠ 1) (hg : ps.get j = some (g, qs)) : Sc.free1 (Sc.envOf h.k h.nm j e) g qs = [] := by
 unfold Sc.free1 at hf
 rw [if_neg hk] at hf
 have := free_part ps h.k h.nm 0 j e g qs hf hg
 rwa [Nat.zero_add] at this
theorem MkE.rlow {X : Nat -> Prop} {most : Int} {pb : Nat} {W : World} {k : Mk} (h : MkE X most pb W k) {i : Nat} (hr : Rw pb W i) : pb < i := by
 obtain ⟨o, c, xs, h⟩ := h
 have e := (h.rw_iff i).1 hr
 exact (h.low i (by rw [e]; rfl)).1
theorem tslc_later {X R : Nat -> Prop} {most : Int} {pb : Nat} {W W' : World} {k : Mk} {o : Option Addr} {l : Nat} {f : To} (h : TSlc R W o l f) (hR : ∀ i, R i -> i < pb) (hm : MkE X most pb W k) (hl : Later pb W W') : TSlc R W' o l f :=
 h.fr hl.fr (fun i _ hi => ⟨hi, fun e => e.elim (fun e => by have := hR i hi; omega) (fun e => by have := hR i hi; have := hm.rlow e; omega)⟩)
theorem slcin_later {X R : Nat -> Prop} {most : Int} {pb : Nat} {W W' : World} {k : Mk} {o : Option Addr} {l : Nat} {f : Fo} (h : SlcIn R W o l f) (hR : ∀ i, R i -> i < pb) (hm : MkE X most pb W k) (hl : Later pb W W') : SlcIn R W' o l f :=
 h.fr hl.fr (fun i _ hi => ⟨hi, fun e => e.elim (fun e => by have := hR i hi; omega) (fun e => by have := hR i hi; have := hm.rlow e; omega)⟩)
theorem cells_later {X : Nat -> Prop} {most : Int} {pb : Nat} {W W' : World} {k : Mk} {b off : Nat} {h : Nd} {o1 : Option Addr} {l1 c1 : Nat} {o2 : Option Addr} {l2 c2 : Nat} (hc : Cells9 W b off h o1 l1 c1 o2 l2 c2) (hb : b < pb) (hm : MkE X most pb W k) (hl : Later pb W W') : Cells9 W' b off h o1 l1 c1 o2 l2 c2 :=
 hc.fr hl.fr (fun e => e.elim (fun e => by omega) (fun e => by have := hm.rlow e; omega))
abbrev BfE (pb : Nat) (W : World) (o : Option Addr) (n : Nat) (e : FEnv) : Prop := BfIn (TF (fun _ => False) pb W) W o n e
theorem bf_new {X : Nat -> Prop} {most : Int} {pb : Nat} {W W' : World} {k : Mk} {o : Option Addr} {n : Nat} {e : FEnv} (hm : MkE X most pb W k) (hq : Quiet0 W W') (h : BfIn (fun i => W.heap.size <= i) W' o n e) : BfE pb W' o n e :=
 h.fr (Fr.refl (fun _ => False) W') (fun _ _ hi => ⟨⟨(hm.fresh hq hi).1, (hm.fresh hq hi).2.1, fun h => h⟩, fun h => h⟩)
def TmT (h : Nd) (ps : To) : Prop := ∀ (W : World) (R X : Nat -> Prop) (most : Int) (pb : Nat) (mk : Mk) (o1 : Option Addr) (l1 c1 : Nat) (o2 : Option Addr) (l2 c2 : Nat) (eo : Option Addr) (en ec : Nat) (e : FEnv) (E : Env),
 SlcIn R W o1 l1 h.tp -> TSlc R W o2 l2 ps -> (∀ i, R i -> i < pb) -> MkE X most pb W mk -> most <= 4096 -> BfE pb W eo en e -> en <= ec -> en + ps.size <= 100000 -> EnvM most pb mk.next W e E -> okT h ps.length -> okTL ps -> Sc.free1 (names e) h ps = [] -> (termM most h ps E mk).2.next <= NBd ->
 Calls Tryz.prog 42 #[.pointer (some ⟨pb, 0, none⟩), tmv h o1 l1 c1 o2 l2 c2, .slice eo en ec] W (MkQ X most pb W (termM most h ps E mk))
end Em
end
section
namespace Em
def up (a d n : Nat) : Nat := if n < a then n else n + d
def gF : Fo -> Prop
 | .nil => True
 | .cons k _ ps r => k ≠ 1 /\ gF ps /\ gF r
def gT (t : Ty) : Prop := t.1 ≠ 1 /\ gF t.2.2
end Em
end
section
namespace Em
theorem shN_b {lo tt N : Nat} (h1 : lo <= tt) (h2 : tt <= N) {v : Int} (h0 : 0 <= v) (hv : v < tt) : 0 <= shN lo tt (N - lo) v /\ shN lo tt (N - lo) v < ((N + (tt - lo) : Nat) : Int) := by
 unfold shN; split <;> omega
end Em
end
section
namespace Em
abbrev RT : Nat -> Ty -> Nat -> Prop := fun n t k => t = tv k /\ k < n
end Em
end
section
namespace Em
open Cn (addL addS top brings oneC valsC cnt ownE ownV)
def sat (n : Nat) : Int := min top (n : Int)
theorem sat0 : sat 0 = 0 := by
 have : ∀ T : Int, 0 <= T -> min T ((0 : Nat) : Int) = 0 := fun T h => by omega
 exact this _ (by decide)
theorem sat_in (n : Nat) : Cn.InT (sat n) := by
 have : ∀ T : Int, 0 <= T -> 0 <= min T (n : Int) /\ min T (n : Int) <= T := fun T h => by omega
 exact this _ (by decide)
theorem addS_sat (a b : Nat) : addS (sat a) (sat b) = sat (a + b) := by
 have : ∀ T : Int, 0 <= T -> min T (min T (a : Int) + min T (b : Int)) = min T ((a + b : Nat) : Int) := fun T h => by omega
 exact this _ (by decide)
theorem addL_two (a b : Nat) : addL [sat a, sat b] = sat (a + b) := by rw [Cn.addL2 (sat_in a), addS_sat]
theorem addL_three (a b c : Nat) : addL [sat a, sat b, sat c] = sat (a + (b + c)) := by rw [Cn.addL3 (sat_in a), addS_sat, addS_sat, Nat.add_assoc]
def satE (e : EnvN) : Cn.Env := e.map fun x => (x.1, sat x.2)
theorem brings_sat : ∀ (e : EnvN) (s : ByteArray), brings (satE e) s = sat (bringsN e s)
 | [], _ => sat0.symm
 | x :: r, s => by
  show (if x.1 = s then sat x.2 else brings (satE r) s) = sat (if x.1 = s then x.2 else bringsN r s)
  split
  ·rfl
  ·exact brings_sat r s
def VSat (v : Cn.Env -> Int) (u : EnvN -> Nat) : Prop := ∀ e, v (satE e) = sat (u e)
inductive VsSat : List (Cn.Env -> Int) -> List (EnvN -> Nat) -> Prop
 | nil : VsSat [] []
 | cons {v : Cn.Env -> Int} {u : EnvN -> Nat} {l : List (Cn.Env -> Int)} {l' : List (EnvN -> Nat)} : VSat v u -> VsSat l l' -> VsSat (v :: l) (u :: l')
theorem VsSat.at {l : List (Cn.Env -> Int)} {l' : List (EnvN -> Nat)} (h : VsSat l l') : ∀ (i : Nat) (e : EnvN), l.getD i (fun _ => 0) (satE e) = sat (at0 l' i e) := by
 induction h with
 | nil => intro i e; exact sat0.symm
 | cons h1 _ ih =>
  intro i e
  cases i with
  | zero => exact h1 e
  | succ i => exact ih i e
theorem VsSat.fold {l : List (Cn.Env -> Int)} {l' : List (EnvN -> Nat)} (h : VsSat l l') (e : EnvN) : ∀ n : Nat, l.foldl (fun n v => addL [n, v (satE e)]) (sat n) = sat (n + sumN e l') := by
 induction h with
 | nil => intro n; rfl
 | cons h1 _ ih =>
  intro n
  simp only [List.foldl_cons]
  rw [h1 e, addL_two, ih]
  congr 1
  show _ = n + (_ + _)
  omega
theorem oneC_sat {own : Int -> Int} {ow : Int -> Nat} (ho : ∀ k, own k = sat (ow k)) (h : Nd) {vs : List (Cn.Env -> Int)} {us : List (EnvN -> Nat)} (hv : VsSat vs us) : VSat (oneC own 1 h vs) (oneT ow 1 h us) := by
 intro e
 have s1 : (1 : Int) = sat 1 := by
  have : ∀ T : Int, 1 <= T -> (1 : Int) = min T ((1 : Nat) : Int) := fun T h => by omega
  exact this _ (by decide)
 have c0 : ∀ (s : ByteArray), ((s, 0) : ByteArray × Int) :: satE e = satE ((s, 0) :: e) := fun s => by unfold satE; rw [List.map_cons, sat0]
 have cs : ∀ (s : ByteArray) (n : Nat), ((s, sat n) : ByteArray × Int) :: satE e = satE ((s, n) :: e) := fun s n => rfl
 unfold Cn.oneC oneT
 by_cases c1 : h.k = 1
 ·rw [if_pos c1, if_pos c1, brings_sat, ho, addL_two]
 rw [if_neg c1, if_neg c1]
 by_cases c4 : h.k = 4
 ·rw [if_pos c4, if_pos c4, c0, hv.at, ho, addL_two]
 rw [if_neg c4, if_neg c4]
 by_cases c6 : h.k = 6
 ·rw [if_pos c6, if_pos c6, hv.at 0 e, cs, hv.at 1, ho, addL_three]
 rw [if_neg c6, if_neg c6]
 by_cases c7 : h.k = 7
 ·rw [if_pos c7, if_pos c7, c0, hv.at 0, s1, addL_two, cs, hv.at 1, ho, addL_three]
 rw [if_neg c7, if_neg c7, ho, hv.fold]
theorem valsC_sat {own : Int -> Int} {ow : Int -> Nat} (ho : ∀ k, own k = sat (ow k)) : ∀ f : To, VsSat (valsC own 1 f) (valsT ow 1 f)
 | .nil => .nil
 | .cons h ps r => .cons (oneC_sat ho h (valsC_sat ho ps)) (valsC_sat ho r)
theorem cnt_sat {own : Int -> Int} {ow : Int -> Nat} (ho : ∀ k, own k = sat (ow k)) (h : Nd) (ps : To) : cnt own 1 h ps [] = sat (cntT ow 1 h ps []) := oneC_sat ho h (valsC_sat ho ps) []
theorem sat_small {n : Nat} (h : (n : Int) <= 1000) : sat n = n := by
 have : ∀ T : Int, 1000 <= T -> min T (n : Int) = n := fun T h => by omega
 exact this _ (by decide)
theorem ownE_sat (k : Int) : ownE k = sat (owE k) := by
 rw [sat_small (by unfold owE; split <;> (try split) <;> omega)]
 unfold Cn.ownE owE; split <;> (try split) <;> rfl
theorem ownV_sat (k : Int) : ownV k = sat (owV k) := by
 rw [sat_small (by unfold owV; split <;> omega)]
 unfold Cn.ownV owV; split <;> rfl
end Em
end
section
namespace Em
theorem vars_gF : ∀ (f : Fo) (l : List Int), Fo.vars l f = [] -> l = [] /\ gF f
 | .nil, l, h => ⟨h, trivial⟩
 | .cons k n ps r, l, h => by
  unfold Fo.vars at h
  obtain ⟨h1, h2⟩ := vars_gF r _ h
  obtain ⟨h3, h4⟩ := vars_gF ps _ h1
  by_cases hk : k = 1
  ·exfalso
   subst hk
   by_cases hi : inB l n = true
   ·rw [hi] at h3
    simp at h3
    subst h3
    simp [inB] at hi
   ·have hi' : inB l n = false := by simpa using hi
    rw [hi'] at h3
    simp at h3
  ·have : (k == 1) = false := by simpa using hk
   rw [this] at h3
   simp at h3
   exact ⟨h3, hk, h4, h2⟩
theorem sound_parts {h : Nd} {m : Nat} (hs : soundB h m = true) : 1 <= h.k /\ h.k <= 10 /\ typedB h = true /\ kLeast h.k <= m /\ (m : Int) <= kMost h.k := by
 unfold soundB at hs
 simp only [Bool.and_eq_true, decide_eq_true_eq] at hs
 exact ⟨hs.1.1.1.1.1.1.1, hs.1.1.1.1.1.1.2, hs.1.1.1.1.2, hs.1.2, hs.2⟩
theorem typed_gT {h : Nd} (ht : typedB h = true) (h10 : h.k = 10) : gT (h.tk, h.tn, h.tp) := by
 unfold typedB at ht
 rw [if_pos (by simp [h10])] at ht
 unfold closedT at ht
 rw [Bool.and_eq_true] at ht
 have hv : Fo.vars [] (.cons h.tk h.tn h.tp .nil) = [] := by simpa [List.isEmpty_iff] using ht.2
 obtain ⟨_, a, b, _⟩ := vars_gF _ _ hv
 exact ⟨a, b⟩
theorem okK_of : ∀ f : To, allS f = true -> okK f
 | .nil, _ => trivial
 | .cons h ps r, e => by
  rw [allS_cons, Bool.and_eq_true, Bool.and_eq_true] at e
  obtain ⟨h1, h2, _, _, h5⟩ := sound_parts e.1.1
  refine ⟨⟨h1, h2, fun hk => ?_⟩, okK_of ps e.1.2, okK_of r e.2⟩
  have hm : kMost h.k = 0 := by rcases hk with hk | hk <;> (rw [hk]; rfl)
  rw [hm] at h5
  have hl : ps.length = 0 := by omega
  cases ps with
  | nil => rfl
  | cons _ _ _ => simp [To.length] at hl
theorem okT_of : ∀ f : To, allS f = true -> allT GoodH f -> okTL f
 | .nil, _, _ => trivial
 | .cons h ps r, e, g => by
  rw [allS_cons, Bool.and_eq_true, Bool.and_eq_true] at e
  obtain ⟨h1, h2, _, h4, _⟩ := sound_parts e.1.1
  have hl : ∀ k : Int, h.k = k -> kLeast k <= ps.length := fun k hk => by rw [<- hk]; exact h4
  refine ⟨⟨⟨h1, h2⟩, fun hk => ?_, fun hk => ?_, fun hk => ?_, fun hk => ?_, fun hk => ?_, fun hk => ?_, g.1.2.1⟩, okT_of ps e.1.2 g.2.1, okT_of r e.2 g.2.2⟩ <;>
   (have := hl _ hk; simp [kLeast] at this; omega)
def ofN (h : Nd) (ps : To) (most : Int) : List Eqn × Int :=
 if (Sc.rsvP h ps).2.2 = 0 then (let m := (termM (min most 4096) h ps [] ⟨[], 0, false⟩).2; if m.many then ([], 6) else (m.eqs, 0)) else ([], (Sc.rsvP h ps).2.2)
theorem rsv0 {h : Nd} {ps : To} (h0 : (Sc.rsvP h ps).2.2 = 0) : Sc.RT h ps = true /\ Sc.free1 [] h ps = [] := by
 unfold Sc.rsvP at h0
 split at h0
 ·next hr =>
  split at h0
  ·next hf => exact ⟨hr, hf⟩
  ·exact absurd (show (5 : Int) = 0 from h0) (by decide)
 ·exact absurd h0 (by decide)
end Em
end
section
namespace Em
theorem ofN_run {h : Nd} {ps : To} (h0 : (Sc.rsvP h ps).2.2 = 0) {M : Nat} (hM : M <= 4096) : ofN h ps M = if (run M h ps).many then ([], 6) else ((run M h ps).eqs, 0) := by
 unfold ofN
 rw [if_pos h0, show min (M : Int) 4096 = (M : Int) by omega]
 rfl
end Em
end
section
namespace Em
def okV (n : Nat) (k v : Int) : Prop := (k = 1 -> 0 <= v /\ v < n) /\ (k ≠ 1 -> wfI v)
theorem okV.mono {n m : Nat} {k v : Int} (h : okV n k v) (hn : n <= m) : okV m k v := ⟨fun e => ⟨(h.1 e).1, by have := (h.1 e).2; omega⟩, h.2⟩
theorem okV.zero (n : Nat) {k : Int} (h : k ≠ 1) : okV n k 0 := ⟨fun e => absurd e h, fun _ => wfI_of (by decide) (by decide)⟩
def fW (n : Nat) : Fo -> Prop
 | .nil => True
 | .cons k v ps r => okV n k v /\ fW n ps /\ fW n r
def tyW (n : Nat) (t : Ty) : Prop := okV n t.1 t.2.1 /\ fW n t.2.2
theorem fW.mono {n m : Nat} (h : n <= m) : ∀ f : Fo, fW n f -> fW m f
 | .nil, _ => trivial
 | .cons _ _ ps r, ⟨a, b, c⟩ => ⟨a.mono h, fW.mono h ps b, fW.mono h r c⟩
theorem tyW.mono {n m : Nat} {t : Ty} (k : tyW n t) (h : n <= m) : tyW m t := ⟨k.1.mono h, fW.mono h _ k.2⟩
theorem tyW.tv {n k : Nat} (h : k < n) : tyW n (tv k) := ⟨⟨fun _ => ⟨by show (0 : Int) <= (k : Int); omega, by show (k : Int) < n; omega⟩, fun e => absurd rfl e⟩, trivial⟩
theorem tyW.zero (n : Nat) (k : Int) (h : k ≠ 1) : tyW n (k, 0, .nil) := ⟨okV.zero n h, trivial⟩
theorem tyW.arr {n : Nat} {a b : Ty} (h : tyW n a) (k : tyW n b) : tyW n (arrT a b) := ⟨okV.zero n (by decide : (4 : Int) ≠ 1), h.1, h.2, k.1, k.2, trivial⟩
theorem fW_foOf {n : Nat} : ∀ l : List Ty, (∀ t ∈ l, tyW n t) -> fW n (foOf l)
 | [], _ => trivial
 | t :: r, h => ⟨(h t (by simp)).1, (h t (by simp)).2, fW_foOf r (fun u hu => h u (by simp [hu]))⟩
theorem okV_shift {lo tt N : Nat} (h1 : lo <= tt) (h2 : tt <= N) {k v : Int} (a : okV tt k v) : okV (N + (tt - lo)) k (if k == 1 then shN lo tt (N - lo) v else v) := by
 refine ⟨fun e => ?_, fun e => ?_⟩
 ·rw [if_pos (by simp [e])]; exact shN_b h1 h2 (a.1 e).1 (a.1 e).2
 ·rw [if_neg (by simpa using e)]; exact a.2 e
theorem fW_shift {lo tt N : Nat} (h1 : lo <= tt) (h2 : tt <= N) : ∀ f : Fo, fW tt f -> fW (N + (tt - lo)) (f.change (shN lo tt (N - lo)))
 | .nil, _ => trivial
 | .cons _ _ ps r, ⟨a, b, c⟩ => ⟨okV_shift h1 h2 a, fW_shift h1 h2 ps b, fW_shift h1 h2 r c⟩
theorem tyW_shift {lo tt N : Nat} (h1 : lo <= tt) (h2 : tt <= N) {t : Ty} (h : tyW tt t) : tyW (N + (tt - lo)) (shT lo tt (N - lo) t) := ⟨okV_shift h1 h2 h.1, fW_shift h1 h2 _ h.2⟩
def okW (m : Mk) : Prop := ∀ e ∈ m.eqs, tyW m.next e.1 /\ tyW m.next e.2.1
structure Wnd {α : Type} (lo : Nat) (Q : Nat -> α -> Prop) (f : Pm α) : Prop where
 run : ∀ m, lo <= m.next -> okW m -> okW (f m).2 /\ Q (f m).2.next (f m).1 /\ m.next <= (f m).2.next
theorem Wnd.mono {α : Type} {lo lo' : Nat} {Q : Nat -> α -> Prop} {f : Pm α} (h : Wnd lo Q f) (hl : lo <= lo') : Wnd lo' Q f := ⟨fun m hm => h.run m (by omega)⟩
theorem Wnd.bind {α β : Type} {lo : Nat} {Q : Nat -> α -> Prop} {R : Nat -> β -> Prop} {f : Pm α} {g : α -> Pm β} (h : Wnd lo Q f) (k : ∀ a n, lo <= n -> Q n a -> Wnd n R (g a)) : Wnd lo R (bd f g) := by
 refine ⟨fun m hm ho => ?_⟩
 obtain ⟨h1, h2, h3⟩ := h.run m hm ho
 obtain ⟨k1, k2, k3⟩ := (k (f m).1 (f m).2.next (by omega) h2).run (f m).2 (Nat.le_refl _) h1
 exact ⟨k1, k2, Nat.le_trans h3 k3⟩
theorem Wnd.pure {α : Type} {lo : Nat} {Q : Nat -> α -> Prop} {a : α} (h : ∀ n, lo <= n -> Q n a) : Wnd lo Q (pu a) := ⟨fun _ hm ho => ⟨ho, h _ hm, Nat.le_refl _⟩⟩
theorem okW.up {m : Mk} (h : okW m) {n : Nat} (hn : m.next <= n) : okW { m with next := n } := fun e he => ⟨(h e he).1.mono hn, (h e he).2.mono hn⟩
theorem Wnd.take (lo : Nat) : Wnd lo (fun n t => tyW n t /\ 0 < n) takeP := ⟨fun _ _ ho => ⟨ho.up (Nat.le_succ _), ⟨tyW.tv (Nat.lt_succ_self _), Nat.succ_pos _⟩, Nat.le_succ _⟩⟩
theorem Wnd.eqn {lo : Nat} (most : Int) {l r : Ty} (fr en : Int) (hl : tyW lo l) (hr : tyW lo r) : Wnd lo (fun _ _ => True) (eqP most l r fr en) := by
 refine ⟨fun m hm ho => ?_⟩
 unfold eqP
 dsimp only
 split
 ·exact ⟨ho, trivial, Nat.le_refl _⟩
 ·refine ⟨fun e he => ?_, trivial, Nat.le_refl _⟩
  rcases List.mem_append.1 he with he | he
  ·exact ho e he
  ·simp at he; subst he; exact ⟨hl.mono hm, hr.mono hm⟩
theorem Wnd.many {α : Type} {lo : Nat} {Q : Nat -> α -> Prop} {x : α} {f : Pm α} (hx : ∀ n, lo <= n -> Q n x) (h : Wnd lo Q f) : Wnd lo Q (ifMany x f) := by
 refine ⟨fun m hm ho => ?_⟩
 unfold ifMany
 split
 ·exact ⟨ho, hx _ hm, Nat.le_refl _⟩
 ·exact h.run m hm ho
theorem Wnd.ite {α : Type} {lo : Nat} {Q : Nat -> α -> Prop} {c : Prop} [Decidable c] {f g : Pm α} (h1 : c -> Wnd lo Q f) (h2 : ¬ c -> Wnd lo Q g) : Wnd lo Q (if c then f else g) := by
 by_cases hc : c
 ·rw [if_pos hc]; exact h1 hc
 ·rw [if_neg hc]; exact h2 hc
theorem kept_w (most : Int) {n : Nat} {sh : Ty -> Ty} : ∀ l : List Eqn, (∀ e ∈ l, tyW n (sh e.1) /\ tyW n (sh e.2.1)) -> Wnd n (fun _ _ => True) (keptP most sh l)
 | [], _ => Wnd.pure fun _ _ => trivial
 | e :: r, h => Wnd.many (fun _ _ => trivial) (Wnd.bind (Wnd.eqn most _ _ (h e (by simp)).1 (h e (by simp)).2) fun _ k hk _ => (kept_w most r (fun u hu => h u (by simp [hu]))).mono hk)
theorem copied_w (most : Int) {kept : List Eqn} {v : Ty} {lo tt : Nat} (h1 : lo <= tt) (hk : ∀ e ∈ kept, tyW tt e.1 /\ tyW tt e.2.1) (hv : tyW tt v) : Wnd tt tyW (copied most kept v lo tt) := by
 refine ⟨fun m hm ho => ?_⟩
 have hb : okW { m with next := m.next + (tt - lo) } := ho.up (Nat.le_add_right _ _)
 have hkb := (kept_w most (n := m.next + (tt - lo)) (sh := shT lo tt (m.next - lo)) kept (fun e he => ⟨tyW_shift h1 hm (hk e he).1, tyW_shift h1 hm (hk e he).2⟩)).run { m with next := m.next + (tt - lo) } (Nat.le_refl _) hb
 exact ⟨hkb.1, (tyW_shift h1 hm hv).mono hkb.2.2, Nat.le_trans (Nat.le_add_right _ _) hkb.2.2⟩
def EnvW (n : Nat) (e : Env) : Prop := ∀ x ∈ e, Wnd n tyW x.2
theorem EnvW.mono {n m : Nat} {e : Env} (h : EnvW n e) (k : n <= m) : EnvW m e := fun x hx => (h x hx).mono k
theorem EnvW.cons {n : Nat} {e : Env} {s : ByteArray} {f : Pm Ty} (h : EnvW n e) (k : Wnd n tyW f) : EnvW n ((s, f) :: e) := fun x hx => by
 rcases List.mem_cons.1 hx with rfl | hx
 ·exact k
 ·exact h x hx
theorem look_w {n : Nat} (h0 : 0 < n) : ∀ (e : Env) (s : ByteArray), EnvW n e -> Wnd n tyW (lookE e s)
 | [], _, _ => Wnd.pure fun k hk => tyW.tv (by omega)
 | x :: r, s, h => by
  unfold lookE; split
  ·exact h x (by simp)
  ·exact look_w h0 r s (fun y hy => h y (by simp [hy]))
def VWn (v : Env -> Pm Ty) : Prop := ∀ n e, EnvW n e -> Wnd n tyW (v e)
theorem vat_w {vs : List (Env -> Pm Ty)} (h : ∀ v ∈ vs, VWn v) (i : Nat) {n : Nat} (h0 : 0 < n) {e : Env} (he : EnvW n e) : Wnd n tyW (vat vs i e) := by
 unfold vat
 rw [List.getD_eq_getElem?_getD]
 cases hi : vs[i]? with
 | none => exact Wnd.pure fun k hk => tyW.tv (by omega)
 | some v => exact h v (List.mem_of_getElem? hi) n e he
theorem map_w : ∀ {vs : List (Env -> Pm Ty)}, (∀ v ∈ vs, VWn v) -> ∀ {n : Nat} {e : Env}, EnvW n e -> Wnd n (fun k l => ∀ t ∈ l, tyW k t) (mapE e vs)
 | [], _, _, _, _ => Wnd.pure fun _ _ t ht => by simp at ht
 | v :: r, h, n, e, he => Wnd.bind (h v (by simp) n e he) fun t k hk ht => Wnd.bind (map_w (fun u hu => h u (by simp [hu])) (he.mono hk)) fun l j hj hl => Wnd.pure fun i hi u hu => by
  rcases List.mem_cons.1 hu with rfl | hu
  ·exact ht.mono (by omega)
  ·exact (hl u hu).mono hi
theorem tat_w {k : Nat} {l : List Ty} (h : ∀ t ∈ l, tyW k t) (i : Nat) : tyW k (tat l i) := by
 unfold tat
 rw [List.getD_eq_getElem?_getD]
 cases hi : l[i]? with
 | none => exact tyW.zero k 0 (by decide)
 | some v => exact h v (List.mem_of_getElem? hi)
theorem letP_w (most : Int) (h : Nd) {n : Nat} {f : Pm Ty} {g : Pm Ty -> Pm Ty} (hf : Wnd n tyW f) (hg : ∀ c k, n <= k -> Wnd k tyW c -> Wnd k tyW (g c)) : Wnd n tyW (letP most h f g) := by
 refine ⟨fun m hm ho => ?_⟩
 obtain ⟨h1, h2, h3⟩ := hf.run m hm ho
 have hc : Wnd (f m).2.next tyW (copied most ((f m).2.eqs.drop m.eqs.length) (f m).1 m.next (f m).2.next) := copied_w most h3 (fun e he => h1 e (List.mem_of_mem_drop he)) h2
 obtain ⟨k1, k2, k3⟩ := (hg _ _ (by omega) hc).run (f m).2 (Nat.le_refl _) h1
 exact ⟨k1, k2, Nat.le_trans h3 k3⟩
def noW : To -> Prop
 | .nil => True
 | .cons h ps r => (h.k = 10 -> tyW 0 (h.tk, h.tn, h.tp)) /\ noW ps /\ noW r
theorem oneM_w (most : Int) (h : Nd) (ps : To) (ha : h.k = 10 -> tyW 0 (h.tk, h.tn, h.tp)) {vs : List (Env -> Pm Ty)} (hv : ∀ v ∈ vs, VWn v) : VWn (oneM most h ps vs) := by
 intro n e he
 unfold oneM
 refine Wnd.bind (Wnd.take n) fun own k hk ho0 => ?_
 obtain ⟨ho, hp0⟩ := ho0
 refine Wnd.many (fun j hj => ho.mono hj) ?_
 have he' := he.mono hk
 have fin : ∀ {j : Nat} {l r : Ty} (fr en : Int), k <= j -> tyW j l -> tyW j r -> Wnd j tyW (bd (eqP most l r fr en) fun _ => pu own) := fun fr en hj hl hr => Wnd.bind (Wnd.eqn most fr en hl hr) fun _ i hi _ => Wnd.pure fun u hu => ho.mono (by omega)
 refine Wnd.ite (fun _ => fin _ _ (Nat.le_refl _) ho (tyW.zero _ 2 (by decide))) fun _ => Wnd.ite (fun _ => fin _ _ (Nat.le_refl _) ho (tyW.zero _ 3 (by decide))) fun _ => Wnd.ite (fun _ => Wnd.bind (look_w hp0 e h.nm he') fun t j hj ht => fin _ _ hj (ho.mono hj) ht) fun _ => Wnd.ite (fun _ => ?_) fun _ => Wnd.ite (fun _ => ?_) fun _ => Wnd.ite (fun _ => ?_) fun _ => ?_
 ·refine Wnd.bind (Wnd.take k) fun b j hj hb => Wnd.bind (vat_w hv 0 hb.2 ((he'.mono hj).cons (Wnd.pure fun i hi => hb.1.mono hi))) fun t i hi ht => ?_
  exact fin _ _ (by omega) (ho.mono (by omega)) ((hb.1.mono hi).arr ht)
 ·exact Wnd.bind (letP_w most h (vat_w hv 0 hp0 he') fun c j hj hc => vat_w hv 1 (by omega) ((he'.mono hj).cons hc)) fun t i hi ht => fin _ _ hi (ho.mono hi) ht
 ·refine Wnd.bind (letP_w most h ?_ fun c j hj hc => vat_w hv 1 (by omega) ((he'.mono hj).cons hc)) fun t i hi ht => fin _ _ hi (ho.mono hi) ht
  exact Wnd.bind (Wnd.take k) fun v j hj hb => Wnd.bind (vat_w hv 0 hb.2 ((he'.mono hj).cons (Wnd.pure fun i hi => hb.1.mono hi))) fun t i hi ht => Wnd.bind (Wnd.eqn most _ _ (hb.1.mono hi) ht) fun _ u hu _ => Wnd.pure fun x hx => hb.1.mono (by omega)
 refine Wnd.bind (map_w hv he') fun p j hj hp => ?_
 have t0 := fun i => tat_w hp i
 refine Wnd.ite (fun _ => fin _ _ hj (t0 0) ((t0 1).arr (ho.mono hj))) fun _ => Wnd.ite (fun _ => ?_) fun _ => Wnd.ite (fun _ => fin _ _ hj (ho.mono hj) ⟨okV.zero _ (by decide : (5 : Int) ≠ 1), fW_foOf p hp⟩) fun _ => Wnd.ite (fun h10 => ?_) fun _ => Wnd.pure fun i hi => ho.mono (by omega)
 ·exact Wnd.bind (Wnd.eqn most _ _ (t0 0) (tyW.zero _ 3 (by decide))) fun _ i hi _ => Wnd.bind (Wnd.eqn most _ _ (ho.mono (by omega)) ((t0 1).mono hi)) fun _ u hu _ => fin _ _ (by omega) (ho.mono (by omega)) ((t0 2).mono (by omega))
 ·have hT := ha h10
  exact Wnd.bind (Wnd.eqn most _ _ (t0 0) (hT.mono (Nat.zero_le _))) fun _ i hi _ => fin _ _ (by omega) (ho.mono (by omega)) (hT.mono (Nat.zero_le _))
theorem valsM_w (most : Int) : ∀ f : To, noW f -> ∀ v ∈ valsM most f, VWn v
 | .nil, _, v, hv => by simp [valsM] at hv
 | .cons h ps r, ⟨a, b, c⟩, v, hv => by
  rcases List.mem_cons.1 hv with rfl | hv
  ·exact oneM_w most h ps a (valsM_w most ps b)
  ·exact valsM_w most r c v hv
theorem termM_w (most : Int) (h : Nd) (ps : To) (hn : noW (.cons h ps .nil)) : Wnd 0 tyW (termM most h ps []) := oneM_w most h ps hn.1 (valsM_w most ps hn.2.1) 0 [] (fun x hx => by cases hx)
theorem fW_wf {n : Nat} (hn : n <= 1000000000) : ∀ f : Fo, fW n f -> wfF f
 | .nil, _ => trivial
 | .cons k v ps r, ⟨a, b, c⟩ => by
  refine ⟨?_, fW_wf hn ps b, fW_wf hn r c⟩
  by_cases hk : k = 1
  ·have := a.1 hk
   exact wfI_of (by omega) (by omega)
  ·exact a.2 hk
theorem vars_in {n : Nat} : ∀ (f : Fo) (l : List Int), fW n f -> (∀ v ∈ l, 0 <= v /\ v < n) -> ∀ v ∈ Fo.vars l f, 0 <= v /\ v < n
 | .nil, l, _, h => h
 | .cons k v ps r, l, ⟨a, b, c⟩, h => by
  unfold Fo.vars
  refine vars_in r _ c (vars_in ps _ b ?_)
  intro u hu
  split at hu
  ·next hc =>
   have hk : k = 1 := by simp only [Bool.and_eq_true, beq_iff_eq] at hc; exact hc.1
   rcases List.mem_append.1 hu with hu | hu
   ·exact h u hu
   ·rw [List.mem_singleton.1 hu]; exact a.1 hk
  ·exact h u hu
theorem gF_fW : ∀ f : Fo, gF f -> wfF f -> fW 0 f
 | .nil, _, _ => trivial
 | .cons _ _ ps r, ⟨a, b, c⟩, ⟨a', b', c'⟩ => ⟨⟨fun h => absurd h a, fun _ => a'⟩, gF_fW ps b b', gF_fW r c c'⟩
theorem noW_of : ∀ f : To, allS f = true -> allT GoodH f -> noW f
 | .nil, _, _ => trivial
 | .cons h ps r, e, g => by
  rw [allS_cons, Bool.and_eq_true, Bool.and_eq_true] at e
  obtain ⟨h1, h2, h3, _, _⟩ := sound_parts e.1.1
  have hg := typed_gT h3
  exact ⟨fun h10 => ⟨⟨fun hk => absurd hk (hg h10).1, fun _ => g.1.2.2.1⟩, gF_fW _ (hg h10).2 g.1.2.2.2⟩, noW_of ps e.1.2 g.2.1, noW_of r e.2 g.2.2⟩
end Em
end
section
namespace Em
theorem sat_mid {n : Nat} (h : (n : Int) <= 1000000) : sat n = n := by
 have : ∀ T : Int, 1000000 <= T -> min T (n : Int) = n := fun T h => by omega
 exact this _ (by decide)
theorem sat_big {n : Nat} (h : (300 : Int) < n) : 300 < sat n := by
 have : ∀ T : Int, 300 < T -> 300 < min T (n : Int) := fun T h => by omega
 exact this _ (by decide)
theorem eqsN_sat {h : Nd} {ps : To} (h0 : (Sc.rsvP h ps).2.2 = 0) : Cn.eqsN h ps = (sat (cntT owE 1 h ps []), 0) /\ Cn.varsN h ps = (sat (cntT owV 1 h ps []), 0) := by
 unfold Cn.eqsN Cn.varsN Cn.clsd
 rw [if_pos h0, if_pos h0, cnt_sat ownE_sat, cnt_sat ownV_sat]
 exact ⟨rfl, rfl⟩
theorem run_cnt {h : Nd} {ps : To} (h0 : (Sc.rsvP h ps).2.2 = 0) (hz : ps.size <= 1000) : ((run 300 h ps).many = true /\ 300 < (Cn.eqsN h ps).1) ∨
    ((run 300 h ps).many = false /\ (((run 300 h ps).eqs.length : Nat) : Int) = (Cn.eqsN h ps).1 /\ (run 300 h ps).eqs.length <= 300 /\ (((run 300 h ps).next : Nat) : Int) = (Cn.varsN h ps).1 /\ (run 300 h ps).next <= 10000) := by
 have hk := okK_of _ (rsv0 h0).1
 obtain ⟨e1, e2⟩ := eqsN_sat h0
 rw [e1, e2]
 have hn := run_next (M := 300) (most := 300) (Int.le_refl _) h ps hk
 rcases (run_has 300 h ps hk).ct ⟨[], 0, false⟩ rfl with ⟨a, b, c⟩ | ⟨a, b⟩
 ·right
  have hm : (run ((300 : Nat) : Int) h ps).many = false := a
  have hle := run_le hm
  have b' : (run 300 h ps).eqs.length = cntT owE 1 h ps [] := by
   have : (run 300 h ps).eqs.length = 0 + cntT owE 1 h ps [] := b
   omega
  have c' : (run 300 h ps).next = cntT owV 1 h ps [] := by
   have : (run 300 h ps).next = 0 + cntT owV 1 h ps [] := c
   omega
  have hle' : (run 300 h ps).eqs.length <= 300 := hle
  have hn' : (run 300 h ps).next <= 4 * 300 + 2 * ps.size + 2 := hn
  refine ⟨a, ?_, hle', ?_, by omega⟩
  ·show _ = sat _; rw [sat_mid (by omega), b']
  ·show _ = sat _; rw [sat_mid (by omega), c']
 ·left
  have b' : (300 : Int) < cntT owE 1 h ps [] := by
   have : (300 : Int) < ((0 : Nat) : Int) + cntT owE 1 h ps [] := b
   omega
  exact ⟨a, sat_big b'⟩
theorem agrees {h : Nd} {ps : To} (h0 : (Sc.rsvP h ps).2.2 = 0) (hg : allT GoodH (.cons h ps .nil)) (hz : ps.size <= 1000) : (300 < (Cn.eqsN h ps).1 /\ ofN h ps 300 = ([], 6)) ∨
    ((Cn.eqsN h ps).1 <= 300 /\ ∃ l N, ofN h ps 300 = (l, 0) /\ ((l.length : Nat) : Int) = (Cn.eqsN h ps).1 /\ N <= 10000 /\ ((N : Nat) : Int) = (Cn.varsN h ps).1 /\ ∀ t ∈ l, tyW N t.1 /\ tyW N t.2.1) := by
 have e : ofN h ps 300 = if (run 300 h ps).many then ([], 6) else ((run 300 h ps).eqs, 0) := ofN_run h0 (M := 300) (by omega)
 rcases run_cnt h0 hz with ⟨a, b⟩ | ⟨a, b, c, d, f⟩
 ·left
  rw [e, a]
  exact ⟨b, rfl⟩
 ·right
  refine ⟨by rw [<- b]; omega, (run 300 h ps).eqs, (run 300 h ps).next, by rw [e, a]; rfl, b, f, d, ?_⟩
  exact ((termM_w 300 h ps (noW_of _ (rsv0 h0).1 hg)).run ⟨[], 0, false⟩ (Nat.le_refl _) (fun e he => by cases he)).1
theorem rsv_eqs {h : Nd} {ps : To} (h0 : (Sc.rsvP h ps).2.2 ≠ 0) : Cn.eqsN h ps = (0, (Sc.rsvP h ps).2.2) /\ ofN h ps 300 = ([], (Sc.rsvP h ps).2.2) := by
 unfold Cn.eqsN Cn.clsd ofN
 rw [if_neg h0, if_neg h0]
 exact ⟨rfl, rfl⟩
end Em
end
section
open Go.RowKit
namespace Em
theorem tv_inj {a b : Nat} (h : tv a = tv b) : a = b := by
 have : ((a : Int), Fo.nil) = ((b : Int), Fo.nil) := (Prod.mk.inj h).2
 have := (Prod.mk.inj this).1
 omega
def RowV : List Value -> List Ty -> Prop
 | xs, [] => xs = []
 | xs, t :: r => ∃ (n : Nat) (o : Option Addr) (c : Nat) (ys : List Value), t = tv n /\ xs = [.int .i64 1, .int .i64 n, .slice o 0 c] ++ ys /\ RowV ys r
theorem RowV.snoc (n : Nat) (o : Option Addr) (c : Nat) : ∀ (l : List Ty) (xs : List Value), RowV xs l -> RowV (xs ++ [.int .i64 1, .int .i64 n, .slice o 0 c]) (l ++ [tv n])
 | [], xs, h => by cases h; exact ⟨n, o, c, [], rfl, by simp, rfl⟩
 | t :: r, xs, h => by
  obtain ⟨n', o', c', ys, e, rfl, hr⟩ := h
  exact ⟨n', o', c', _, e, by rw [List.append_assoc], RowV.snoc n o c r ys hr⟩
theorem RowV.get : ∀ (l : List Ty) (xs : List Value) (i : Nat), RowV xs l -> i < l.length -> ∃ (n : Nat) (o : Option Addr) (c : Nat), l[i]? = some (tv n) /\ xs[i * 3]? = some (.int .i64 1) /\ xs[i * 3 + 1]? = some (.int .i64 n) /\ xs[i * 3 + 2]? = some (.slice o 0 c)
 | [], xs, i, _, h => by simp at h
 | t :: r, xs, 0, h, _ => by
  obtain ⟨n, o, c, ys, rfl, rfl, hr⟩ := h
  exact ⟨n, o, c, by simp⟩
 | t :: r, xs, i + 1, h, hi => by
  obtain ⟨n, o, c, ys, rfl, rfl, hr⟩ := h
  obtain ⟨n', o', c', k⟩ := RowV.get r ys i hr (by simpa using hi)
  refine ⟨n', o', c', ?_⟩
  rw [show (i + 1) * 3 = i * 3 + 3 from by omega]
  simpa using k
theorem RowV.at {T : Nat -> Prop} {w : World} {g : Nat} (hg : T g) (hgl : g < w.heap.size) : ∀ (l : List Ty) (xs : List Value) (off : Nat), RowV xs l -> (∀ j u, xs[j]? = some u -> w.cell? ⟨g, off + j, none⟩ = some u) -> AtIn T w g off (foOf l)
 | [], _, _, _, _ => trivial
 | t :: r, xs, off, h, hc => by
  obtain ⟨n, o, c, ys, rfl, rfl, hr⟩ := h
  refine ⟨hg, hc 0 _ rfl, hc 1 _ rfl, ⟨o, 0, c, hc 2 _ rfl, rfl, Nat.zero_le _, fun h => absurd h (Nat.lt_irrefl _)⟩, RowV.at hg hgl r ys (off + 3) hr ?_⟩
  intro j u hj
  have := hc (j + 3) u (by simpa using hj)
  rw [<- this]; congr 2; omega
def PtAt (T : Nat -> Prop) (w : World) (o : Option Addr) (l : List Ty) : Prop := l.length <= maxLen /\ (l = [] ∨ ∃ g, o = some ⟨g, 0, none⟩ /\ T g /\ g < w.heap.size /\ ∃ xs, RowV xs l /\ ∀ j u, xs[j]? = some u -> w.cell? ⟨g, j, none⟩ = some u)
theorem foOf_length : ∀ l : List Ty, (foOf l).length = l.length
 | [] => rfl
 | t :: r => by simp only [foOf, Fo.length, List.length_cons]; rw [foOf_length r]
theorem PtAt.slc {T : Nat -> Prop} {w : World} {o : Option Addr} {l : List Ty} (h : PtAt T w o l) : SlcIn T w o l.length (foOf l) := by
 refine ⟨(foOf_length l).symm, h.1, fun hl => ?_⟩
 rcases h.2 with e | ⟨g, h1, h2, h3, xs, h4, h5⟩
 ·subst e; simp at hl
 ·exact ⟨g, 0, h1, RowV.at h2 h3 l xs 0 h4 (fun j u hj => by rw [Nat.zero_add]; exact h5 j u hj)⟩
theorem PtAt.get {T : Nat -> Prop} {w : World} {o : Option Addr} {l : List Ty} (h : PtAt T w o l) {i : Nat} (hi : i < l.length) : ∃ (g n : Nat) (oo : Option Addr) (cc : Nat), o = some ⟨g, 0, none⟩ /\ tat l i = tv n /\ w.cell? ⟨g, i * 3, none⟩ = some (.int .i64 1) /\ w.cell? ⟨g, i * 3 + 1, none⟩ = some (.int .i64 n) /\ w.cell? ⟨g, i * 3 + 2, none⟩ = some (.slice oo 0 cc) := by
 rcases h.2 with e | ⟨g, h1, h2, h3, xs, h4, h5⟩
 ·subst e; simp at hi
 ·obtain ⟨n, oo, cc, k0, k1, k2, k3⟩ := RowV.get l xs i h4 hi
  exact ⟨g, n, oo, cc, h1, by unfold tat; rw [List.getD_eq_getElem?_getD, k0]; rfl, h5 _ _ k1, h5 _ _ k2, h5 _ _ k3⟩
structure PRow (W0 W : World) (v : Value) (l : List Ty) (xs : List Value) : Prop where
 own : W.ownsRow 0 24 3 v l.length xs
 low : ∀ k, v.ownBlock = some k -> W0.heap.size <= k
 cells : RowV xs l
theorem PRow.nil (W0 W : World) : PRow W0 W (.slice none 0 0) [] [] := ⟨World.ownsRow_nil _ _ _ _, fun k hk => (by cases hk), rfl⟩
def PtQ (X : Nat -> Prop) (most : Int) (pb : Nat) (W : World) (r : List Ty × Mk) (x : Ending) (w' : World) : Prop := ∃ o c, x = .returned (.slice o r.1.length c) /\ r.1.length <= c /\ PtAt (TF X pb w') w' o r.1 /\ MkE X most pb w' r.2 /\ Later pb W w'
abbrev XO (X : Nat -> Prop) (v : Value) : Nat -> Prop := fun i => X i ∨ v.ownBlock = some i
theorem PRow.later {X : Nat -> Prop} {most : Int} {pb : Nat} {W0 W W' : World} {k : Mk} {v : Value} {l : List Ty} {xs : List Value} (h : PRow W0 W v l xs) (hm : MkE (XO X v) most pb W k) (hl : Later pb W W') : PRow W0 W' v l xs :=
 ⟨ownsRow_fr h.own hl.fr (fun _ hg => hm.far (.inr hg)), h.low, h.cells⟩
theorem PRow.snoc {X : Nat -> Prop} {most : Int} {pb : Nat} {W0 W w' : World} {k : Mk} {v : Value} {l : List Ty} {xs : List Value} (h : PRow W0 W v l xs) (hm : MkE (XO X v) most pb W k) (hl : Later pb W0 W) (hp : pb < W0.heap.size) (n : Nat) (o : Option Addr) (c : Nat) {g c' : Nat}
    (ho : w'.ownsRow 0 24 3 (.slice (some ⟨g, 0, none⟩) (l.length + 1) c') (l.length + 1) (xs ++ [.int .i64 1, .int .i64 n, .slice o 0 c])) (hf : Fr (fun i => v.ownBlock = some i) W w') (hg : v.ownBlock = some g ∨ (W.heap.size <= g /\ Quiet0 W w')) :
    PRow W0 w' (.slice (some ⟨g, 0, none⟩) (l.length + 1) c') (l ++ [tv n]) (xs ++ [.int .i64 1, .int .i64 n, .slice o 0 c]) /\ MkE (XO X (.slice (some ⟨g, 0, none⟩) (l.length + 1) c')) most pb w' k /\ Later pb W0 w' := by
 have hb : ∀ i, (Value.slice (some ⟨g, 0, none⟩) (l.length + 1) c').ownBlock = some i -> i = g := fun i hi => by simp [Value.ownBlock] at hi; exact hi.symm
 refine ⟨⟨by rw [List.length_append]; exact ho, fun i hi => ?_, RowV.snoc n o c l xs h.cells⟩, ?_, hl.put hf hp (fun i hi => h.low i hi)⟩
 ·rw [hb i hi]
  rcases hg with e | ⟨e, _⟩
  ·exact h.low g e
  ·exact Nat.le_trans hl.size e
 ·rcases hg with e | ⟨e, hq⟩
  ·exact (hm.put (hf.mono (fun i _ hi => .inr hi))).less (fun i hi => hi.elim .inl (fun hi => .inr (by rw [hb i hi]; exact e)))
  ·exact (hm.more hq (fun i => i = g) (fun i hi => by subst hi; exact ⟨e, (ho.lt i rfl).2⟩)).less (fun i hi => hi.elim (fun hx => .inl (.inl hx)) (fun hi => .inr (hb i hi)))
theorem ptq_of {X : Nat -> Prop} {most : Int} {pb : Nat} {W W' : World} {r : List Ty × Mk} {o : Option Addr} {n c : Nat} {xs : List Value} (hx : ∀ i, X i -> i < W.heap.size) (hn : n = r.1.length) (h : PRow W W' (.slice o n c) r.1 xs) (hm : MkE (XO X (.slice o n c)) most pb W' r.2) (hl : Later pb W W') (hz : r.1.length <= maxLen) : PtQ X most pb W r (.returned (.slice o n c)) W' := by
 subst hn
 have hc : r.1.length <= c /\ PtAt (TF X pb W') W' o r.1 := by
  rcases h.own.2 with ⟨h1, h2⟩ | ⟨g, cap, cur, h1, h2, h3, h4, h5, _⟩
  ·injection h1 with e1 e2 e3
   exact ⟨by omega, hz, .inl (List.eq_nil_of_length_eq_zero h2)⟩
  ·injection h1 with e1 e2 e3
   subst e1
   have hlow := h.low g rfl
   have hfar := hm.far (i := g) (.inr rfl)
   refine ⟨by omega, hz, .inr ⟨g, rfl, ⟨fun e => hfar (.inl e), fun e => hfar (.inr e), fun e => by have := hx g e; omega⟩, (h.own.lt g rfl).2, xs, h.cells, fun j u hj => ?_⟩⟩
   have := h.own.cells (g := g) rfl j u hj
   simpa [Addr.add_lit] using this
 exact ⟨o, c, rfl, hc.1, hc.2, hm.less (fun i hi => .inl hi), hl⟩
theorem elemTy : Elem Tryz.prog 22 24 (.agg #[.int .i64 0, .int .i64 0, .slice none 0 0]) 3 40 :=
 ⟨Tryz.underlying22, by kernel_rfl, by decide, by decide⟩
theorem mapE_drop (e : Env) : ∀ (vs : List (Env -> Pm Ty)) (i : Nat) (v : Env -> Pm Ty) (m : Mk), vs[i]? = some v -> mapE e (vs.drop i) m = ((v e m).1 :: (mapE e (vs.drop (i + 1)) (v e m).2).1, (mapE e (vs.drop (i + 1)) (v e m).2).2)
 | [], i, v, m, h => by simp at h
 | u :: r, 0, v, m, h => by simp at h; subst h; rfl
 | u :: r, i + 1, v, m, h => by simpa using mapE_drop e r i v m (by simpa using h)
theorem mapE_length (e : Env) : ∀ (vs : List (Env -> Pm Ty)) (m : Mk), (mapE e vs m).1.length = vs.length
 | [], _ => rfl
 | v :: r, m => by
  show ((v e m).1 :: (mapE e r (v e m).2).1).length = _
  rw [List.length_cons, mapE_length e r, List.length_cons]
def PtI (X : Nat -> Prop) (most : Int) (pb : Nat) (W0 : World) (E : Env) (vs : List (Env -> Pm Ty)) (fin : List Ty × Mk) (lo : Nat) (a t : Value) (wr : World) : Prop :=
 ∃ (i : Nat) (mki : Mk) (l : List Ty) (o : Option Addr) (c : Nat) (xs : List Value), t = .int .i64 i /\ a = .slice o i c /\ i <= vs.length /\ l.length = i /\ l ++ (mapE E (vs.drop i) mki).1 = fin.1 /\ (mapE E (vs.drop i) mki).2 = fin.2 /\ PRow W0 wr (.slice o i c) l xs /\ MkE (XO X (.slice o i c)) most pb wr mki /\ Later pb W0 wr /\ lo <= mki.next
theorem parts_any (h : Nd) (ps : To) (ih : ∀ i g qs, ps.get i = some (g, qs) -> TmT g qs) (W : World) (R X : Nat -> Prop) (most : Int) (pb : Nat) (mk : Mk) (o1 : Option Addr) (l1 c1 : Nat) (o2 : Option Addr) (l2 c2 : Nat) (eo : Option Addr) (en ec : Nat) (e : FEnv) (E : Env)
    (hs2 : TSlc R W o2 l2 ps) (hR : ∀ i, R i -> i < pb) (hm : MkE X most pb W mk) (hmost : most <= 4096) (hb : BfE pb W eo en e) (hec : en <= ec) (hz : en + ps.size <= 100000) (hE : EnvM most pb mk.next W e E) (hokl : okTL ps) (hfr : ∀ j g qs, ps.get j = some (g, qs) -> Sc.free1 (names e) g qs = []) (hN : (mapE E (valsM most ps) mk).2.next <= NBd) :
    Calls Tryz.prog 71 #[.pointer (some ⟨pb, 0, none⟩), tmv h o1 l1 c1 o2 l2 c2, .slice eo en ec] W (PtQ X most pb W (mapE E (valsM most ps) mk)) := by
 obtain ⟨W0, hW0⟩ : ∃ W0, W0 = W.alloc (.cells (cells9 h o1 l1 c1 o2 l2 c2) 29) := ⟨_, rfl⟩
 have hq0 : Quiet0 W W0 := by rw [hW0]; exact Quiet0.alloc _ _
 have h4 : Bx pb W0 W.heap.size (cells9 h o1 l1 c1 o2 l2 c2) 29 := Bx.new hm hq0 (Nat.le_refl _) (by rw [hW0]; exact heap_alloc_new W _)
 have hp := hm.lt
 have hl0 := Later.of_quiet hq0 hp
 have HL0 := hid hl0
 have HM := hid hm
 have HM0 := hid (hm.stay hq0)
 have HX := hid hm.old
 have H4 := hid h4
 have HP := hid hp
 have HS2 := hid hs2
 have HR := hid hR
 have HBF := hid hb
 have HE := hid hE
 have HOKL := hid hokl
 have HFR := hid hfr
 have HMO := hid hmost
 have HLEN : Hid (l2 = ps.length) := hs2.1
 have HMX : Hid (l2 <= 100000) := by have := To.length_le ps; rw [<- hs2.1] at this; show _ <= _; omega
 have HVL : Hid ((valsM most ps).length = l2) := by show _ = _; rw [valsM_length, hs2.1]
 have IH := hid ih
 have hmx : l2 <= 100000 := HMX.out
 obtain ⟨fin, hfin⟩ : ∃ fin, mapE E (valsM most ps) mk = fin := ⟨_, rfl⟩
 have HFIN := hid hfin
 have HNB : Hid (fin.2.next <= NBd) := by show _ <= _; rw [<- hfin]; exact hN
 have HFL : Hid (fin.1.length = l2) := by show _ = _; rw [<- hfin, mapE_length]; exact HVL.out
 rw [hfin]
 have HST : Hid (PtI X most pb W E (valsM most ps) fin mk.next (.slice none 0 0) (.int .i64 0) W0) := by
  refine ⟨0, mk, [], none, 0, [], rfl, rfl, Nat.zero_le _, rfl, by rw [List.drop_zero, HFIN.out]; rfl, by rw [List.drop_zero, HFIN.out], PRow.nil _ _, HM0.out.less (fun i hi => hi.elim id (fun hi => by cases hi)), HL0.out, Nat.le_refl _⟩
 have HNE := hid hE.ne
 clear ih hs2 hR hm hb hE hokl hfr hN hl0 hq0 h4 hp hfin hmost
 generalize hvs : valsM most ps = vs at *
 have HVS := hid hvs
 clear hvs
 unfold tmv
 go_enter Tryz.func71, Tryz.ntmps71
 generalize hBB : W.heap.size = B at *
 go_upto_region 1 with fail
 rw [<- hW0]
 clear hW0
 obtain ⟨a0, a1, a2, a3, a4, a5, a6, a7, a8⟩ := cells9_block H4.out.1
 go_wp2_with fail
 clear a0 a1 a2 a3 a4 a5 a6 a7 a8
 go_loopw [7, 13] (fun a t wr => PtI X most pb W E vs fin mk.next a t wr) (fun _ t _ => l2 - (intOf t).toNat)
 case atStart => exact HST.out
 case round =>
  have hPP : pb < W.heap.size := by rw [hBB]; exact HP.out
  have hXX : ∀ i, X i -> i < W.heap.size := by rw [hBB]; exact HX.out
  obtain ⟨i, mki, l, o, c, xs, rfl, rfl, hi, hll, hf1, hf2, hrow, hmi, hli, hlo⟩ := hrel
  have hil : i <= l2 := by rw [<- HVL.out]; exact hi
  by_cases hlt : i < l2
  ·have hlt' : (i : Int) < l2 := by omega
   obtain ⟨b, off, g, qs, p1, m1, d1, p2, m2, d2, rfl, hdr, hgt, hRb, hc9, hs3, hs4⟩ := HS2.out.nth hlt
   have hbp := HR.out b hRb
   have hc9' := cells_later hc9 hbp HM.out hli
   have HS3 := hid (slcin_later hs3 HR.out HM.out hli)
   have HS4 := hid (tslc_later hs4 HR.out HM.out hli)
   obtain ⟨a0, a1, a2, a3, a4, a5, a6, a7, a8⟩ := hc9'
   obtain ⟨W1, hW1⟩ : ∃ W1, W1 = wr.alloc (.cells (cells9 g p1 m1 d1 p2 m2 d2) 29) := ⟨_, rfl⟩
   have hqw : Quiet0 wr W1 := by rw [hW1]; exact Quiet0.alloc _ _
   have hbx := heap_alloc_new wr (.cells (cells9 g p1 m1 d1 p2 m2 d2) 29)
   rw [<- hW1] at hbx
   have hmw := hmi.stay hqw
   have hlw := hli.quiet hqw hPP
   have hrw := hrow.later hmi (Later.of_quiet hqw hmi.lt)
   have hvi : vs[i]? = some (termM most g qs) := by rw [<- HVS.out]; exact valsM_get most ps i g qs hgt
   have hmd := mapE_drop E vs i _ mki hvi
   rw [hmd] at hf1 hf2
   have hnx := mapE_nm HNE.out (vs := vs.drop (i + 1)) (fun v hv => by
    rw [<- HVS.out] at hv
    exact valsM_nm most ps v (List.mem_of_mem_drop hv)) (termM most g qs E mki).2
   replace hnx := hnx.1
   have hok := okTL_get ps i g qs HOKL.out hgt
   have hcall := IH.out i g qs hgt W1 R (XO X (.slice o i c)) most pb mki p1 m1 d1 p2 m2 d2 eo en ec e E (HS3.out.stay hqw) (HS4.out.stay hqw) HR.out hmw HMO.out (HBF.out.later hlw) hec (by have := To.size_get ps i g qs hgt; omega) (HE.out.later hlw hlo) hok.1 hok.2 (HFR.out i g qs hgt) (Nat.le_trans (by rw [<- hf2]; exact hnx) HNB.out)
   have HC := hid hcall
   have HMW := hid hmw
   have HLW := hid hlw
   have HRW := hid hrw
   have HF1 := hid hf1
   have HF2 := hid hf2
   have HNM := hid (termM_nm most g qs E HNE.out mki).1
   obtain ⟨d0, d1', d2', d3, d4, d5, d6, d7, d8⟩ := cells9_block hbx
   clear hf1 hf2 hrow hmi hli hmw hlw hrw hcall hnx hmd hqw hc9 hs3 hs4 hbx
   generalize termM most g qs E mki = res at *
   obtain ⟨rt, mk2⟩ := res
   dsimp only at HF1 HF2 HNM
   unfold tmv at HC
   go_upto_region 5 with fail
   change Code.wp _ _ _ _ (wr.alloc (.cells (cells9 g p1 m1 d1 p2 m2 d2) 29))
   rw [<- hW1]
   clear hW1 a0 a1 a2 a3 a4 a5 a6 a7 a8
   generalize hE1 : wr.heap.size = E1 at *
   go_wp2_with fail
   refine HC.out.mono ?_; rintro x w3 ⟨n3, o3, c3, hr3, rfl, hm3, hl3⟩
   dsimp only at hr3 hm3
   subst hr3
   have HM3 := hid hm3
   have HL3 := hid hl3
   have HR3 := hid (HRW.out.later HMW.out hl3)
   clear hm3 hl3 d0 d1' d2' d3 d4 d5 d6 d7 d8
   unfold tyv
   subst hll
   go_wp2_with (at_builtin; go_must (refine wpList_append_st w3 rfl (.tmp 17) (.tmp 22) 22 rfl 24 _ 3 40 elemTy (.slice o l.length c) l.length xs rfl HR3.out.own #[.int .i64 1, .int .i64 n3, .slice o3 0 c3] rfl rfl ?c1 (by unfold maxLen; omega) (by omega) ?_); (case c1 => simp [Value.oneCell']))
   intro g4 c4 w4 ho4 hf4 hg4
   obtain ⟨k1, k2, k3⟩ := HR3.out.snoc HM3.out (HLW.out.trans HL3.out) hPP n3 o3 c3 ho4 hf4 hg4
   have K1 := hid k1
   have K2 := hid k2
   have K3 := hid k3
   clear k1 k2 k3 ho4 hf4 hg4
   go_wp2_with fail
   go_roundw
   case rel =>
    refine ⟨l.length + 1, mk2, l ++ [tv n3], some ⟨g4, 0, none⟩, c4, _, by go_num, rfl, by rw [HVL.out]; omega, by simp, by rw [List.append_assoc]; exact HF1.out, HF2.out, K1.out, K2.out, K3.out, Nat.le_trans hlo HNM.out⟩
   case measure => simp [intOf]; omega
  ·have hlt' : ¬ (i : Int) < l2 := by omega
   have hi2 : i = l2 := by omega
   subst hi2
   have hd : vs.drop i = [] := List.drop_eq_nil_of_le (by rw [HVL.out]; exact Nat.le_refl _)
   rw [hd] at hf1 hf2
   have hl1 : l = fin.1 := by rw [<- hf1]; show l = l ++ []; simp
   have hm1 : mki = fin.2 := hf2
   subst hl1
   subst hm1
   have HEND := hid (ptq_of (r := fin) (c := c) (o := o) hXX hll.symm hrow hmi hli (by rw [hll]; unfold maxLen; omega))
   clear hrow hmi hli hf1 hf2
   go_wp2_with fail
   go_ret
   exact HEND.out
end Em
end
section
open Go.RowKit
namespace Em
def ArQ (W : World) (a b : Nat) (e : Ending) (w' : World) : Prop := ∃ o' cap', e = .returned (.agg #[.int .i64 4, .int .i64 0, .slice o' 2 cap']) /\ SlcIn (fun i => W.heap.size <= i) w' o' 2 (arrT (tv a) (tv b)).2.2 /\ Quiet0 W w'
theorem arr2_any {W : World} {g a b : Nat} {o1 : Option Addr} {c1 : Nat} {o2 : Option Addr} {c2 : Nat} (h : W.heap[g]? = some (.cells #[.int .i64 1, .int .i64 a, .slice o1 0 c1, .int .i64 1, .int .i64 b, .slice o2 0 c2] 24 (0, 0))) :
    Calls Tryz.prog 40 #[.slice (some ⟨g, 0, none⟩) 2 2] W (ArQ W a b) := by
 have hs : Slc W (some ⟨g, 0, none⟩) 2 (.cons 1 (a : Int) .nil (.cons 1 (b : Int) .nil .nil)) := by
  refine ⟨rfl, by unfold maxLen; omega, fun _ => ⟨g, 0, rfl, ?_⟩⟩
  have c : ∀ j (hj : j < 6), W.cell? ⟨g, j, none⟩ = (#[Value.int .i64 1, .int .i64 a, .slice o1 0 c1, .int .i64 1, .int .i64 b, .slice o2 0 c2] : Array Value)[j]? := fun j hj => by rw [cell_of_row _ _ _ _ _ (0, 0) h]
  exact ⟨c 0 (by omega), c 1 (by omega), ⟨o1, 0, c1, c 2 (by omega), rfl, Nat.zero_le _, fun h => absurd h (Nat.lt_irrefl _)⟩, c 3 (by omega), c 4 (by omega), ⟨o2, 0, c2, c 5 (by omega), rfl, Nat.zero_le _, fun h => absurd h (Nat.lt_irrefl _)⟩, trivial⟩
 refine (arrow_any _ W _ 2 2 hs (Nat.le_refl _) (by show Fo.size _ <= _; simp [Fo.size])).mono ?_
 rintro e w' ⟨o', len', cap', rfl, h2, h3⟩
 have hl : len' = 2 := h2.1
 subst hl
 exact ⟨o', cap', rfl, h2, h3⟩
def PkE (most : Int) (pb lo : Nat) (W : World) (o : Option Addr) (n : Nat) (e : FEnv) (E : Env) : Prop := BfE pb W o n e /\ EnvM most pb lo W e E
theorem PkE.later {most : Int} {pb lo : Nat} {W W' : World} {o : Option Addr} {n : Nat} {e : FEnv} {E : Env} (h : PkE most pb lo W o n e E) (hl : Later pb W W') : PkE most pb lo W' o n e E := ⟨h.1.later hl, h.2.later hl (Nat.le_refl _)⟩
theorem PkE.st {X : Nat -> Prop} {most : Int} {pb lo : Nat} {W W' : World} {k : Mk} {o : Option Addr} {n : Nat} {e : FEnv} {E : Env} (hm : MkE X most pb W k) (hq : Quiet0 W W') (h : PkE most pb lo W o n e E) : PkE most pb lo W' o n e E := h.later (Later.of_quiet hq hm.lt)
theorem MeanT.st {X : Nat -> Prop} {most : Int} {pb lo : Nat} {W W' : World} {k : Mk} {v : Value} {f : Pm Ty} (hm : MkE X most pb W k) (hq : Quiet0 W W') (h : MeanT most pb lo W v f) : MeanT most pb lo W' v f := h.later (Later.of_quiet hq hm.lt) (Nat.le_refl _)
def WtQ (most : Int) (pb lo : Nat) (W : World) (n : Nat) (e : FEnv) (E : Env) (x : Ending) (w' : World) : Prop := ∃ o c, x = .returned (.slice o n c) /\ n <= c /\ PkE most pb lo w' o n e E /\ Quiet0 W w'
theorem with2_any {X : Nat -> Prop} {most : Int} {pb lo : Nat} {W : World} {k : Mk} {eo : Option Addr} {en ec : Nat} {e : FEnv} {E : Env} {f : Pm Ty} {bs : Fn} {ls : Array Value} (s : ByteArray) (hm : MkE X most pb W k) (hb : BfE pb W eo en e) (hE : EnvM most pb lo W e E) (hec : en <= ec) (hz : en <= 900000) (hf : MeanT most pb lo W (.func bs #[] ls) f) (hn : NM f) :
    Calls Tryz.prog 68 #[.slice eo en ec, .string s, .func bs #[] ls] W (WtQ most pb lo W (en + 1) ((s, .func bs #[] ls) :: e) ((s, f) :: E)) := by
 refine (withF_any _ e s bs #[] ls eo en ec W hb hec hz).mono ?_
 rintro x w' ⟨o, c, rfl, h1, h2, hq⟩
 have hl := Later.of_quiet hq hm.lt
 rw [List.length_cons, <- hb.1] at h1 h2 ⊢
 exact ⟨o, c, rfl, h2, ⟨bf_new hm hq h1, .cons (hf.later hl (Nat.le_refl _)) hn (hE.later hl (Nat.le_refl _))⟩, hq⟩
theorem envOf_same {k : Int} (nm : ByteArray) {j : Nat} (x : List ByteArray) (h : Sc.bindsB k j = false) : Sc.envOf k nm j x = x := by unfold Sc.envOf; rw [h]; rfl
theorem envOf_more {k : Int} (nm : ByteArray) {j : Nat} (x : List ByteArray) (h : Sc.bindsB k j = true) : Sc.envOf k nm j x = nm :: x := by unfold Sc.envOf; rw [h]; rfl
theorem not_binds {k : Int} (h4 : k ≠ 4) (h6 : k ≠ 6) (h7 : k ≠ 7) (j : Nat) : Sc.bindsB k j = false := by unfold Sc.bindsB; simp [h4, h6, h7]
theorem cell_later {X : Nat -> Prop} {pb : Nat} {W W' : World} {g j : Nat} {v : Value} (hg : TF X pb W g) (hl : Later pb W W') (h : W.cell? ⟨g, j, none⟩ = some v) : W'.cell? ⟨g, j, none⟩ = some v :=
 (hl.fr.cellb (World.block_lt_of_cell? W _ h) (fun e => e.elim hg.1 hg.2.1)).trans h
theorem with_tf {X : Nat -> Prop} {most : Int} {pb : Nat} {W W' : World} {k : Mk} {g j : Nat} {v : Value} {G : Prop} (hm : MkE X most pb W k) (hq : Quiet0 W W') (hc : W.cell? ⟨g, j, none⟩ = some v) (ht : TF X pb W g) (K : TF X pb W' g -> G) : G := K ((Later.of_quiet hq hm.lt).tf (World.block_lt_of_cell? W _ hc) ht)
theorem PtAt.tf {T : Nat -> Prop} {w : World} {o : Option Addr} {l : List Ty} (h : PtAt T w o l) {g : Nat} (ho : o = some ⟨g, 0, none⟩) (hl : 0 < l.length) : T g := by
 rcases h.2 with e | ⟨g', h1, h2, _⟩
 ·subst e; simp at hl
 ·rw [ho] at h1; cases h1; exact h2
theorem mem_of_free {e : List ByteArray} {h : Nd} {ps : To} (hk : h.k = 1) (hf : Sc.free1 e h ps = []) : h.nm ∈ e := by
 unfold Sc.free1 at hf
 rw [if_pos hk] at hf
 by_cases hx : Sc.ix e h.nm < 0
 ·rw [if_pos hx] at hf; cases hf
 ·rcases Sc.ixE_spec e h.nm 0 with ⟨h1, _⟩ | ⟨j, h1, h2, _⟩
  ·exact absurd (show Sc.ix e h.nm < 0 by unfold Sc.ix; omega) hx
  ·exact List.mem_of_getElem? h2
theorem RowV.size : ∀ (l : List Ty) (xs : List Value), RowV xs l -> (foOf l).size = l.length
 | [], _, _ => rfl
 | t :: r, xs, h => by
  obtain ⟨n, o, c, ys, rfl, _, hr⟩ := h
  have := RowV.size r ys hr
  show Fo.size (.cons 1 (n : Int) .nil (foOf r)) = _
  simp only [Fo.size, List.length_cons]; omega
theorem PtAt.size {T : Nat -> Prop} {w : World} {o : Option Addr} {l : List Ty} (h : PtAt T w o l) : (foOf l).size = l.length := by
 rcases h.2 with e | ⟨g, h1, h2, h3, xs, h4, h5⟩
 ·subst e; rfl
 ·exact RowV.size l xs h4
def TpQ (X : Nat -> Prop) (most : Int) (pb : Nat) (W : World) (n : Nat) (r : List Ty × Mk) (x : Ending) (w' : World) : Prop := ∃ o c, x = .returned (.slice o n c) /\ SlcIn (TF X pb w') w' o n (foOf r.1) /\ (foOf r.1).size <= 100000 /\ MkE X most pb w' r.2 /\ Later pb W w'
def AnQ (X : Nat -> Prop) (most : Int) (pb : Nat) (W : World) (n : Nat) (r : List Ty × Mk) (x : Ending) (w' : World) : Prop := ∃ gp c n0 n0o n0c, x = .returned (.slice (some ⟨gp, 0, none⟩) n c) /\ tat r.1 0 = tv n0 /\ TF X pb w' gp /\ w'.cell? ⟨gp, 0 * 3, none⟩ = some (.int .i64 1) /\ w'.cell? ⟨gp, 0 * 3 + 1, none⟩ = some (.int .i64 n0) /\ w'.cell? ⟨gp, 0 * 3 + 2, none⟩ = some (.slice n0o 0 n0c) /\ MkE X most pb w' r.2 /\ Later pb W w'
def CoQ (W : World) (k n : Int) (len : Nat) (ps : Fo) (e : Ending) (w' : World) : Prop := ∃ o' cap', e = .returned (.agg #[.int .i64 k, .int .i64 n, .slice o' len cap']) /\ SlcIn (fun b => W.heap.size <= b) w' o' len ps /\ Quiet0 W w'
theorem eqP_nx (most : Int) (l r : Ty) (fr en : Int) (m : Mk) : (eqP most l r fr en m).2.next = m.next := eqP_next most l r fr en m
def SgQ (most : Int) (pb lo : Nat) (W : World) (f : Pm Ty) (x : Ending) (w' : World) : Prop := ∃ bs ls, x = .returned (.func bs #[] ls) /\ MeanT most pb lo w' (.func bs #[] ls) f /\ Quiet0 W w'
def TmN (h : Nd) (ps : To) : Prop := ∀ (W : World) (R X : Nat -> Prop) (most : Int) (pb : Nat) (mk : Mk) (o1 : Option Addr) (l1 c1 : Nat) (o2 : Option Addr) (l2 c2 : Nat) (eo : Option Addr) (en ec : Nat) (e : FEnv) (E : Env),
 SlcIn R W o1 l1 h.tp -> TSlc R W o2 l2 ps -> (∀ i, R i -> i < pb) -> MkE X most pb W mk -> most <= 4096 -> BfE pb W eo en e -> en <= ec -> en + ps.size <= 100000 -> EnvM most pb mk.next W e E -> okT h ps.length -> okTL ps -> Sc.free1 (names e) h ps = [] -> (termM most h ps E mk).2.next <= NBd -> mk.many = false ->
 Calls Tryz.prog 42 #[.pointer (some ⟨pb, 0, none⟩), tmv h o1 l1 c1 o2 l2 c2, .slice eo en ec] W (MkQ X most pb W (termM most h ps E mk))
end Em
end
section
open Go.RowKit
namespace Em
theorem term_int (h : Nd) (ps : To) (hk : h.k = 2) : TmN h ps := by
 intro W R X most pb mk o1 l1 c1 o2 l2 c2 eo en ec e E hs1 hs2 hR hm hmost hb hec hz hE hok hokl hfr hN hmany
 obtain ⟨W0, hW0⟩ : ∃ W0, W0 = (W.alloc (.cells (cells9 h o1 l1 c1 o2 l2 c2) 29)).alloc (.cells #[.int .i64 0, .int .i64 0, .slice none 0 0] 24) := ⟨_, rfl⟩
 have hq0 : Quiet0 W W0 := by rw [hW0]; exact (Quiet0.alloc _ _).trans (Quiet0.alloc _ _)
 have hz0 : W0.heap.size = W.heap.size + 2 := by rw [hW0]; simp
 have h4 : Bx pb W0 W.heap.size (cells9 h o1 l1 c1 o2 l2 c2) 29 := Bx.new hm hq0 (Nat.le_refl _) (by rw [hW0]; exact blk_after (Quiet0.alloc _ _) (heap_alloc_new W _))
 have h6 : Bx pb W0 (W.heap.size + 1) #[.int .i64 0, .int .i64 0, .slice none 0 0] 24 := Bx.new hm hq0 (by omega) (by
  rw [hW0]
  have := heap_alloc_new (W.alloc (.cells (cells9 h o1 l1 c1 o2 l2 c2) 29)) (.cells #[.int .i64 0, .int .i64 0, .slice none 0 0] 24)
  simpa using this)
 have hm0 := hm.more hq0 (fun i => i = W.heap.size + 1) (fun i hi => by subst hi; omega)
 have hp := hm.lt
 have hl0 := Later.of_quiet hq0 hp
 have hnx := (termM_nm most h ps E hE.ne mk).1
 have hnb : mk.next <= 500000000 := Nat.le_trans hnx hN
 have HTK := hid (take_any hm0 (by omega))
 have HL0 := hid hl0
 have H4 := hid h4
 have H6 := hid h6
 have HP := hid hp
 have HNB : Hid ((termM most h ps E mk).2.next <= NBd) := hN
 have HMO := hid hmost
 have HK := hid hk
 have HGO := hid (term_go most h ps E mk hmany)
 have HM0P := hid hm0.lt
 have t2 : (h.k == 2) = true := by rw [hk]; rfl
 obtain ⟨X1, hX1⟩ : ∃ X1, X1 = (fun i => X i ∨ i = W.heap.size + 1) := ⟨_, rfl⟩
 have HX1 : Hid (∀ i, X1 i = (X i ∨ i = W.heap.size + 1)) := fun i => by rw [hX1]
 rw [<- hX1] at HTK
 clear hs1 hs2 hR hm hb hE hok hokl hfr hN hm0 hl0 hq0 h4 h6 hX1 hnx hk hp hz0 hmost
 obtain ⟨fin, hfin⟩ : ∃ fin, (eqP most (tv mk.next) (2, 0, .nil) h.fr h.en { mk with next := mk.next + 1 }).2 = fin := ⟨_, rfl⟩
 have HRES : Hid (termM most h ps E mk = (tv mk.next, fin)) := by show _ = _; rw [HGO.out, body_int HK.out, hfin]
 have HFIN := hid hfin
 clear hfin
 unfold MkQ
 unfold tmv
 go_enter Tryz.func42, Tryz.ntmps42
 generalize hBB : W.heap.size = B at *
 go_upto_region 1 with fail
 rw [<- hW0]
 clear hW0
 go_wp2_with fail
 refine HTK.out.mono ?_; rintro x w1 ⟨n0, oo, cc, hn0, rfl, hm1, hl1⟩
 obtain rfl : mk.next = n0 := tv_inj hn0
 obtain ⟨W2, hW2⟩ : ∃ W2, W2 = w1.alloc (.cells #[.int .i64 1, .int .i64 mk.next, .slice oo 0 cc] 24) := ⟨_, rfl⟩
 have hq2 : Quiet0 w1 W2 := by rw [hW2]; exact Quiet0.alloc _ _
 have h7 : Bx pb W2 w1.heap.size #[.int .i64 1, .int .i64 mk.next, .slice oo 0 cc] 24 := Bx.new hm1 hq2 (Nat.le_refl _) (by rw [hW2]; exact heap_alloc_new w1 _)
 have H7 := hid h7
 have hm2 := hm1.stay hq2
 replace hm2 : MkE X1 most pb W2 { mk with next := mk.next + 1 } := hm2
 have hl2 := hl1.quiet hq2 HM0P.out
 have HM2 := hid hm2
 have HL2 := hid (HL0.out.trans hl2)
 have H42 := hid (H4.out.later hl2)
 have H62 := hid (H6.out.later hl2)
 clear hm1 hl1 hq2 h7 hm2 hl2 hn0 H4 H6 HL0 HTK
 unfold tyv
 go_upto_region 2 with fail
 change Code.wp _ _ _ _ (w1.alloc (.cells #[.int .i64 1, .int .i64 mk.next, .slice oo 0 cc] 24))
 rw [<- hW2]
 clear hW2
 generalize hC : w1.heap.size = C at *
 obtain ⟨ko, kc, kxs, hmka⟩ := HM2.out
 obtain ⟨_, _, _, q3⟩ := mk_cells hmka.box
 replace q3 : W2.cell? ⟨pb, 3, none⟩ = some (.bool false) := by rw [<- hmany]; exact q3
 obtain ⟨a0, a1, a2, a3, a4, a5, a6, a7, a8⟩ := cells9_block H42.out.1
 obtain ⟨b0, b1, b2, _, _, _⟩ := box_cells3 H7.out.1
 clear hmka
 have HEQ : Hid (Calls Tryz.prog 66 #[.pointer (some ⟨pb, 0, none⟩), .agg #[.int .i64 1, .int .i64 mk.next, .slice oo 0 cc], .agg #[.int .i64 2, .int .i64 0, .slice none 0 0], .agg #[.int .i64 h.fr, .int .i64 h.en]] W2 (MkU X1 most pb W2 fin)) := by
  have k := equate_any (o1 := oo) (l1 := 0) (c1 := cc) (o2 := none) (l2 := 0) (c2 := 0) HM2.out HMO.out (tv mk.next) (2, 0, .nil) h.fr h.en (SlcIn.nil _ _ _) (SlcIn.nil _ _ _) (by show Fo.nil.size <= _; decide) (by show Fo.nil.size <= _; decide)
  rw [HFIN.out] at k
  exact k
 go_wp2_with fail
 refine HEQ.out.mono ?_; rintro x w3 ⟨rfl, hm3, hl3⟩
 have HM3 := hid hm3
 have HL3 := hid hl3
 clear hm3 hl3
 clear a0 a1 a2 a3 a4 a5 a6 a7 a8 b0 b1 b2 q3
 obtain ⟨g0, g1, g2, _, _, _⟩ := box_cells3 (H7.out.later HL3.out).1
 have hb6 := (H62.out.later HL3.out).1
 have HB6 := hid hb6
 obtain ⟨d0, d1, d2, y0, y1, y2⟩ := box_cells3 hb6
 clear hb6
 go_wp2_with fail
 clear d0 d1 d2 y0 y1 y2
 have hf := put3_fr w3 (B + 1) (.int .i64 1) (.int .i64 mk.next) (.slice oo 0 cc)
 obtain ⟨f0, f1, f2⟩ := put3_cells (a := .int .i64 1) (b := .int .i64 mk.next) (c := .slice oo 0 cc) HB6.out
 change bodyPost _ _ _ _ _ (put3 w3 (B + 1) (.int .i64 1) (.int .i64 mk.next) (.slice oo 0 cc))
 generalize put3 w3 (B + 1) (.int .i64 1) (.int .i64 mk.next) (.slice oo 0 cc) = wf at *
 refine bodyPost_ret (by simp [results, Tryz.results42, go_sem, f0, f1, f2]; rfl) rfl ?_
 have hp : pb < W.heap.size := by rw [hBB]; exact HP.out
 refine ⟨mk.next, oo, cc, by rw [HRES.out], rfl, ?_, (HL2.out.trans HL3.out).put hf hp (fun i hi => by omega)⟩
 rw [HRES.out]
 exact (HM3.out.put (hf.mono (fun i _ e => by rw [HX1.out]; exact Or.inr (by omega)))).less (fun i hi => by rw [HX1.out]; exact Or.inl hi)
theorem term_bool (h : Nd) (ps : To) (hk : h.k = 3) : TmN h ps := by
 intro W R X most pb mk o1 l1 c1 o2 l2 c2 eo en ec e E hs1 hs2 hR hm hmost hb hec hz hE hok hokl hfr hN hmany
 obtain ⟨W0, hW0⟩ : ∃ W0, W0 = (W.alloc (.cells (cells9 h o1 l1 c1 o2 l2 c2) 29)).alloc (.cells #[.int .i64 0, .int .i64 0, .slice none 0 0] 24) := ⟨_, rfl⟩
 have hq0 : Quiet0 W W0 := by rw [hW0]; exact (Quiet0.alloc _ _).trans (Quiet0.alloc _ _)
 have hz0 : W0.heap.size = W.heap.size + 2 := by rw [hW0]; simp
 have h4 : Bx pb W0 W.heap.size (cells9 h o1 l1 c1 o2 l2 c2) 29 := Bx.new hm hq0 (Nat.le_refl _) (by rw [hW0]; exact blk_after (Quiet0.alloc _ _) (heap_alloc_new W _))
 have h6 : Bx pb W0 (W.heap.size + 1) #[.int .i64 0, .int .i64 0, .slice none 0 0] 24 := Bx.new hm hq0 (by omega) (by
  rw [hW0]
  have := heap_alloc_new (W.alloc (.cells (cells9 h o1 l1 c1 o2 l2 c2) 29)) (.cells #[.int .i64 0, .int .i64 0, .slice none 0 0] 24)
  simpa using this)
 have hm0 := hm.more hq0 (fun i => i = W.heap.size + 1) (fun i hi => by subst hi; omega)
 have hp := hm.lt
 have hl0 := Later.of_quiet hq0 hp
 have hnx := (termM_nm most h ps E hE.ne mk).1
 have hnb : mk.next <= 500000000 := Nat.le_trans hnx hN
 have HTK := hid (take_any hm0 (by omega))
 have HL0 := hid hl0
 have H4 := hid h4
 have H6 := hid h6
 have HP := hid hp
 have HNB : Hid ((termM most h ps E mk).2.next <= NBd) := hN
 have HMO := hid hmost
 have HK := hid hk
 have HGO := hid (term_go most h ps E mk hmany)
 have HM0P := hid hm0.lt
 have t2 : (h.k == 2) = false := by rw [hk]; rfl
 have t3 : (h.k == 3) = true := by rw [hk]; rfl
 obtain ⟨X1, hX1⟩ : ∃ X1, X1 = (fun i => X i ∨ i = W.heap.size + 1) := ⟨_, rfl⟩
 have HX1 : Hid (∀ i, X1 i = (X i ∨ i = W.heap.size + 1)) := fun i => by rw [hX1]
 rw [<- hX1] at HTK
 clear hs1 hs2 hR hm hb hE hok hokl hfr hN hm0 hl0 hq0 h4 h6 hX1 hnx hk hp hz0 hmost
 obtain ⟨fin, hfin⟩ : ∃ fin, (eqP most (tv mk.next) (3, 0, .nil) h.fr h.en { mk with next := mk.next + 1 }).2 = fin := ⟨_, rfl⟩
 have HRES : Hid (termM most h ps E mk = (tv mk.next, fin)) := by show _ = _; rw [HGO.out, body_bool HK.out, hfin]
 have HFIN := hid hfin
 clear hfin
 unfold MkQ
 unfold tmv
 go_enter Tryz.func42, Tryz.ntmps42
 generalize hBB : W.heap.size = B at *
 go_upto_region 1 with fail
 rw [<- hW0]
 clear hW0
 go_wp2_with fail
 refine HTK.out.mono ?_; rintro x w1 ⟨n0, oo, cc, hn0, rfl, hm1, hl1⟩
 obtain rfl : mk.next = n0 := tv_inj hn0
 obtain ⟨W2, hW2⟩ : ∃ W2, W2 = w1.alloc (.cells #[.int .i64 1, .int .i64 mk.next, .slice oo 0 cc] 24) := ⟨_, rfl⟩
 have hq2 : Quiet0 w1 W2 := by rw [hW2]; exact Quiet0.alloc _ _
 have h7 : Bx pb W2 w1.heap.size #[.int .i64 1, .int .i64 mk.next, .slice oo 0 cc] 24 := Bx.new hm1 hq2 (Nat.le_refl _) (by rw [hW2]; exact heap_alloc_new w1 _)
 have H7 := hid h7
 have hm2 := hm1.stay hq2
 replace hm2 : MkE X1 most pb W2 { mk with next := mk.next + 1 } := hm2
 have hl2 := hl1.quiet hq2 HM0P.out
 have HM2 := hid hm2
 have HL2 := hid (HL0.out.trans hl2)
 have H42 := hid (H4.out.later hl2)
 have H62 := hid (H6.out.later hl2)
 clear hm1 hl1 hq2 h7 hm2 hl2 hn0 H4 H6 HL0 HTK
 unfold tyv
 go_upto_region 2 with fail
 change Code.wp _ _ _ _ (w1.alloc (.cells #[.int .i64 1, .int .i64 mk.next, .slice oo 0 cc] 24))
 rw [<- hW2]
 clear hW2
 generalize hC : w1.heap.size = C at *
 obtain ⟨ko, kc, kxs, hmka⟩ := HM2.out
 obtain ⟨_, _, _, q3⟩ := mk_cells hmka.box
 replace q3 : W2.cell? ⟨pb, 3, none⟩ = some (.bool false) := by rw [<- hmany]; exact q3
 obtain ⟨a0, a1, a2, a3, a4, a5, a6, a7, a8⟩ := cells9_block H42.out.1
 obtain ⟨b0, b1, b2, _, _, _⟩ := box_cells3 H7.out.1
 clear hmka
 have HEQ : Hid (Calls Tryz.prog 66 #[.pointer (some ⟨pb, 0, none⟩), .agg #[.int .i64 1, .int .i64 mk.next, .slice oo 0 cc], .agg #[.int .i64 3, .int .i64 0, .slice none 0 0], .agg #[.int .i64 h.fr, .int .i64 h.en]] W2 (MkU X1 most pb W2 fin)) := by
  have k := equate_any (o1 := oo) (l1 := 0) (c1 := cc) (o2 := none) (l2 := 0) (c2 := 0) HM2.out HMO.out (tv mk.next) (3, 0, .nil) h.fr h.en (SlcIn.nil _ _ _) (SlcIn.nil _ _ _) (by show Fo.nil.size <= _; decide) (by show Fo.nil.size <= _; decide)
  rw [HFIN.out] at k
  exact k
 go_wp2_with fail
 refine HEQ.out.mono ?_; rintro x w3 ⟨rfl, hm3, hl3⟩
 have HM3 := hid hm3
 have HL3 := hid hl3
 clear hm3 hl3
 clear a0 a1 a2 a3 a4 a5 a6 a7 a8 b0 b1 b2 q3
 obtain ⟨g0, g1, g2, _, _, _⟩ := box_cells3 (H7.out.later HL3.out).1
 have hb6 := (H62.out.later HL3.out).1
 have HB6 := hid hb6
 obtain ⟨d0, d1, d2, y0, y1, y2⟩ := box_cells3 hb6
 clear hb6
 go_wp2_with fail
 clear d0 d1 d2 y0 y1 y2
 have hf := put3_fr w3 (B + 1) (.int .i64 1) (.int .i64 mk.next) (.slice oo 0 cc)
 obtain ⟨f0, f1, f2⟩ := put3_cells (a := .int .i64 1) (b := .int .i64 mk.next) (c := .slice oo 0 cc) HB6.out
 change bodyPost _ _ _ _ _ (put3 w3 (B + 1) (.int .i64 1) (.int .i64 mk.next) (.slice oo 0 cc))
 generalize put3 w3 (B + 1) (.int .i64 1) (.int .i64 mk.next) (.slice oo 0 cc) = wf at *
 refine bodyPost_ret (by simp [results, Tryz.results42, go_sem, f0, f1, f2]; rfl) rfl ?_
 have hp : pb < W.heap.size := by rw [hBB]; exact HP.out
 refine ⟨mk.next, oo, cc, by rw [HRES.out], rfl, ?_, (HL2.out.trans HL3.out).put hf hp (fun i hi => by omega)⟩
 rw [HRES.out]
 exact (HM3.out.put (hf.mono (fun i _ e => by rw [HX1.out]; exact Or.inr (by omega)))).less (fun i hi => by rw [HX1.out]; exact Or.inl hi)
end Em
end
end Go.Proofs.YtcninopmelmajaaGreatDoor
