/-
  Texts laid together (CnPlain, CnMem, CnBack, CnBr): what each one proves, and its conditions, stands at its head.
-/
import Derived.Test.YtnfodiedalhlhaaDoorST6
section
namespace Go.Proofs.YtnfodiedalhlhaaDoor
namespace Cn
abbrev Env := List (ByteArray × Int)
abbrev top : Int := 1099511627776
def brings : Env → ByteArray → Int
  | [], _ => 0
  | x :: r, s => if x.1 = s then x.2 else brings r s
def addS (n x : Int) : Int := min top (n + x)
def addL (l : List Int) : Int := l.foldl addS 0
def oneC (own : Int → Int) (rc : Int) (h : Nd) (vs : List (Env → Int)) (e : Env) : Int :=
  if h.k = 1 then addL [own h.k, brings e h.nm]
  else if h.k = 4 then addL [own h.k, vs.getD 0 (fun _ => 0) ((h.nm, 0) :: e)]
  else if h.k = 6 then addL [own h.k, vs.getD 0 (fun _ => 0) e, vs.getD 1 (fun _ => 0) ((h.nm, vs.getD 0 (fun _ => 0) e) :: e)]
  else if h.k = 7 then addL [own h.k, addL [rc, vs.getD 0 (fun _ => 0) ((h.nm, 0) :: e)], vs.getD 1 (fun _ => 0) ((h.nm, addL [rc, vs.getD 0 (fun _ => 0) ((h.nm, 0) :: e)]) :: e)]
  else vs.foldl (fun n v => addL [n, v e]) (own h.k)
def valsC (own : Int → Int) (rc : Int) : To → List (Env → Int)
  | .nil => []
  | .cons h ps r => oneC own rc h (valsC own rc ps) :: valsC own rc r
def cnt (own : Int → Int) (rc : Int) (h : Nd) (ps : To) (e : Env) : Int := oneC own rc h (valsC own rc ps) e
theorem valsC_get (own : Int → Int) (rc : Int) : ∀ (f : To) (i : Nat) (h : Nd) (qs : To), f.get i = some (h, qs) → (valsC own rc f)[i]? = some (cnt own rc h qs)
  | .nil, i, h, qs, e => by simp [To.get] at e
  | .cons h' ps r, 0, h, qs, e => by
    simp [To.get] at e
    obtain ⟨rfl, rfl⟩ := e
    rfl
  | .cons h' ps r, i + 1, h, qs, e => by
    show (valsC own rc r)[i]? = _
    exact valsC_get own rc r i h qs e
theorem valsC_length (own : Int → Int) (rc : Int) : ∀ f : To, (valsC own rc f).length = f.length
  | .nil => rfl
  | .cons _ _ r => by simp only [valsC, List.length_cons, To.length]; rw [valsC_length own rc r]
def InT (x : Int) : Prop := 0 ≤ x ∧ x ≤ top
theorem in0 : InT 0 := ⟨by decide, by decide⟩
theorem addS_in {n x : Int} (h : InT n) (k : InT x) : InT (addS n x) := by unfold InT addS top at *; omega
theorem addF_in : ∀ (l : List Int) (n : Int), InT n → (∀ x ∈ l, InT x) → InT (l.foldl addS n)
  | [], n, h, _ => h
  | x :: l, n, h, k => addF_in l _ (addS_in h (k x (by simp))) (fun y hy => k y (by simp [hy]))
theorem addL_in {l : List Int} (k : ∀ x ∈ l, InT x) : InT (addL l) := addF_in l 0 ⟨by decide, by decide⟩ k
def EnvIn (e : Env) : Prop := ∀ x ∈ e, InT x.2
theorem brings_in : ∀ (e : Env) (s : ByteArray), EnvIn e → InT (brings e s)
  | [], _, _ => in0
  | x :: r, s, h => by
    unfold brings; split
    · exact h x (by simp)
    · exact brings_in r s (fun y hy => h y (by simp [hy]))
theorem EnvIn.cons {e : Env} {s : ByteArray} {n : Int} (h : EnvIn e) (k : InT n) : EnvIn ((s, n) :: e) := fun x hx => by
  rcases List.mem_cons.1 hx with rfl | hx
  · exact k
  · exact h x hx
theorem getD_in {vs : List (Env → Int)} (h : ∀ v ∈ vs, ∀ e, EnvIn e → InT (v e)) (i : Nat) {e : Env} (he : EnvIn e) : InT (vs.getD i (fun _ => 0) e) := by
  rw [List.getD_eq_getElem?_getD]
  cases hi : vs[i]? with
  | none => exact in0
  | some v => exact h v (List.mem_of_getElem? hi) e he
theorem foldV_in : ∀ (vs : List (Env → Int)) (n : Int) (e : Env), InT n → (∀ v ∈ vs, ∀ e, EnvIn e → InT (v e)) → EnvIn e → InT (vs.foldl (fun n v => addL [n, v e]) n)
  | [], n, e, h, _, _ => h
  | v :: vs, n, e, h, k, he => foldV_in vs _ e (addL_in (by intro x hx; simp at hx; rcases hx with rfl | rfl; exact h; exact k v (by simp) e he)) (fun u hu => k u (by simp [hu])) he
theorem oneC_in {own : Int → Int} {rc : Int} (ho : ∀ k, InT (own k)) (hr : InT rc) (h : Nd) {vs : List (Env → Int)} (k : ∀ v ∈ vs, ∀ e, EnvIn e → InT (v e)) {e : Env} (he : EnvIn e) : InT (oneC own rc h vs e) := by
  have z : InT 0 := ⟨by decide, by decide⟩
  unfold oneC
  split
  · exact addL_in (by intro x hx; simp at hx; rcases hx with rfl | rfl; exact ho _; exact brings_in _ _ he)
  · split
    · exact addL_in (by intro x hx; simp at hx; rcases hx with rfl | rfl; exact ho _; exact getD_in k 0 (he.cons z))
    · split
      · exact addL_in (by intro x hx; simp at hx; rcases hx with rfl | rfl | rfl; exact ho _; exact getD_in k 0 he; exact getD_in k 1 (he.cons (getD_in k 0 he)))
      · split
        · have hk : InT (addL [rc, vs.getD 0 (fun _ => 0) ((h.nm, 0) :: e)]) := addL_in (by intro x hx; simp at hx; rcases hx with rfl | rfl; exact hr; exact getD_in k 0 (he.cons z))
          exact addL_in (by intro x hx; simp at hx; rcases hx with rfl | rfl | rfl; exact ho _; exact hk; exact getD_in k 1 (he.cons hk))
        · exact foldV_in vs _ e (ho _) k he
theorem valsC_in {own : Int → Int} {rc : Int} (ho : ∀ k, InT (own k)) (hr : InT rc) : ∀ (f : To), ∀ v ∈ valsC own rc f, ∀ e, EnvIn e → InT (v e)
  | .nil, v, hv, _, _ => by simp [valsC] at hv
  | .cons h ps r, v, hv, e, he => by
    rcases List.mem_cons.1 hv with rfl | hv
    · exact oneC_in ho hr h (valsC_in ho hr ps) he
    · exact valsC_in ho hr r v hv e he
theorem cnt_in {own : Int → Int} {rc : Int} (ho : ∀ k, InT (own k)) (hr : InT rc) (h : Nd) (ps : To) {e : Env} (he : EnvIn e) : InT (cnt own rc h ps e) := oneC_in ho hr h (valsC_in ho hr ps) he
def ownE (k : Int) : Int := if k = 8 then 3 else if k = 10 then 2 else 1
theorem ownE_in (k : Int) : InT (ownE k) := by unfold ownE InT top; split <;> (try split) <;> omega
end Cn
end Go.Proofs.YtnfodiedalhlhaaDoor
end
section
namespace Go.Proofs.YtnfodiedalhlhaaDoor
open Go.RowKit Go.Shelf
namespace Cn
def cells2 (e : Env) : List Value := e.reverse.flatMap (fun x => [.string x.1, .int .i64 x.2])
def BnIn (T : Nat → Prop) (w : World) (o : Option Addr) (n : Nat) (e : Env) : Prop :=
  n = e.length ∧ n ≤ maxLen ∧ (0 < n → ∃ b, o = some ⟨b, 0, none⟩ ∧ T b ∧ b < w.heap.size ∧ ∀ j u, (cells2 e)[j]? = some u → w.cell? ⟨b, j, none⟩ = some u)
theorem BnIn.nil (T : Nat → Prop) (w : World) (o : Option Addr) : BnIn T w o 0 [] := ⟨rfl, Nat.zero_le _, fun h => absurd h (Nat.lt_irrefl _)⟩
theorem BnIn.fr {T T' S : Nat → Prop} {w w' : World} {o : Option Addr} {n : Nat} {e : Env} (h : BnIn T w o n e) (hf : Fr S w w') (hT : ∀ k, k < w.heap.size → T k → T' k ∧ ¬ S k) : BnIn T' w' o n e := by
  refine ⟨h.1, h.2.1, fun hn => ?_⟩
  obtain ⟨b, he, ht, hl, hc⟩ := h.2.2 hn
  obtain ⟨h1, h2⟩ := hT b hl ht
  exact ⟨b, he, h1, Nat.lt_of_lt_of_le hl hf.size, fun j u hj => (hf.cellb hl h2).trans (hc j u hj)⟩
theorem BnIn.stay {T : Nat → Prop} {w w' : World} {o : Option Addr} {n : Nat} {e : Env} (h : BnIn T w o n e) (hq : Quiet0 w w') : BnIn T w' o n e := h.fr hq (fun _ _ hk => ⟨hk, fun h => h⟩)
theorem BnIn.mono {T T' : Nat → Prop} {w : World} {o : Option Addr} {n : Nat} {e : Env} (h : BnIn T w o n e) (hk : ∀ k, k < w.heap.size → T k → T' k) : BnIn T' w o n e := h.fr (Fr.refl (fun _ => False) w) (fun k hl ht => ⟨hk k hl ht, fun h => h⟩)
theorem BnIn.nothing {T : Nat → Prop} {w : World} {n : Nat} {e : Env} (h : BnIn T w none n e) : n = 0 := by
  rcases Nat.eq_zero_or_pos n with h0 | h0
  · exact h0
  · obtain ⟨b, he, _⟩ := h.2.2 h0; cases he
theorem cells2_len : ∀ l : Env, (l.flatMap (fun x => [Value.string x.1, .int .i64 x.2])).length = l.length * 2
  | [] => rfl
  | x :: l => by simp only [List.flatMap_cons, List.length_append, List.length_cons, List.length_nil]; rw [cells2_len l]; omega
theorem cells2_get : ∀ (l : Env) (i : Nat) (x : ByteArray × Int), l[i]? = some x → (l.flatMap (fun x => [Value.string x.1, .int .i64 x.2]))[i * 2]? = some (.string x.1) ∧ (l.flatMap (fun x => [Value.string x.1, .int .i64 x.2]))[i * 2 + 1]? = some (.int .i64 x.2)
  | [], i, x, h => by simp at h
  | y :: l, 0, x, h => by simp at h; subst h; simp
  | y :: l, i + 1, x, h => by
    have ih := cells2_get l i x (by simpa using h)
    rw [show (i + 1) * 2 = i * 2 + 1 + 1 by omega]
    simpa [List.flatMap_cons] using ih
theorem BnIn.at {T : Nat → Prop} {w : World} {o : Option Addr} {n : Nat} {e : Env} (h : BnIn T w o n e) {i : Nat} {x : ByteArray × Int} (hi : e.reverse[i]? = some x) : ∃ b, o = some ⟨b, 0, none⟩ ∧ w.cell? ⟨b, i * 2, none⟩ = some (.string x.1) ∧ w.cell? ⟨b, i * 2 + 1, none⟩ = some (.int .i64 x.2) := by
  have hl := (List.getElem?_eq_some_iff.1 hi).1
  simp at hl
  obtain ⟨b, he, _, _, hc⟩ := h.2.2 (by have := h.1; omega)
  obtain ⟨c1, c2⟩ := cells2_get e.reverse i x hi
  exact ⟨b, he, hc _ _ c1, hc _ _ c2⟩
theorem elemBn : Elem Tryd.prog 84 89 (.agg #[.string ⟨#[]⟩, .int .i64 0]) 2 24 :=
  ⟨Tryd.underlying84, by kernel_rfl, by decide, by decide⟩
theorem bn_cells {T : Nat → Prop} {w : World} {o : Option Addr} {n : Nat} {e : Env} (h : BnIn T w o n e) : ∀ b, o = some b → ∀ j u, (cells2 e)[j]? = some u → w.cell? (b.add j) = some u := by
  rintro b rfl j u hj
  have hl := (List.getElem?_eq_some_iff.1 hj).1
  have hlen : (cells2 e).length = e.length * 2 := by unfold cells2; rw [cells2_len]; simp
  obtain ⟨b', he, _, _, hc⟩ := h.2.2 (by have := h.1; omega)
  injection he with he
  subst he
  rw [Addr.add_lit, Nat.zero_add]
  exact hc j u hj
theorem BnIn.of_own {T : Nat → Prop} {w : World} {base g n c : Nat} {e : Env} {s : ByteArray} {v : Int} (ho : w.ownsRow base 89 2 (.slice (some ⟨g, 0, none⟩) n c) n (cells2 e ++ [.string s, .int .i64 v])) (hn : n = e.length + 1) (hm : n ≤ maxLen) (ht : T g) : BnIn T w (some ⟨g, 0, none⟩) n ((s, v) :: e) := by
  refine ⟨by simpa using hn, hm, fun _ => ⟨g, rfl, ht, (ho.lt g rfl).2, fun j u hj => ?_⟩⟩
  have hx : (cells2 e ++ [.string s, .int .i64 v])[j]? = some u := by
    have : cells2 ((s, v) :: e) = cells2 e ++ [.string s, .int .i64 v] := by unfold cells2; simp
    rw [← this]; exact hj
  have := ho.cells (g := g) rfl j u hx
  simpa [Addr.add_lit] using this
theorem wpList_append_bn {ops : Array Oper} {rest : List Oper} {o : Oper} {a : Act} {Q : Exit → Act → World → Prop} (W : World) (hgd : o.guard = none) (s x : Operand)
    (hop : o.op = Op.call { callee := Callee.builtin Builtin.append, args := #[s, x], argTypes := #[84, 84] }) {T : Nat → Prop} {ao : Option Addr} {n : Nat} {e : Env} (hN : BnIn T W ao n e) (str : ByteArray) (v : Int)
    (hs : a.eval s = .slice ao n n) (hx : a.eval x = .slice (some ⟨W.heap.size, 0, none⟩) 1 1) (b1 : n + 1 ≤ 1000000)
    (hK : ∀ g c w', BnIn (fun k => W.heap.size ≤ k) w' (some ⟨g, 0, none⟩) (n + 1) ((str, v) :: e) → n + 1 ≤ c → Quiet0 W w' → wpList Tryd.prog ops Q rest (a.put o.dst (.slice (some ⟨g, 0, none⟩) (n + 1) c)) w') :
    wpList Tryd.prog ops Q (o :: rest) a (W.alloc (.cells #[.string str, .int .i64 v] 89)) := by
  obtain ⟨i0, hi, hz0, hz1, hz2⟩ := info_parts elemBn.info
  have hN2 := hN.stay (Quiet0.alloc W (.cells #[.string str, .int .i64 v] 89))
  have hlen : (cells2 e).length = e.length * 2 := by unfold cells2; rw [cells2_len]; simp
  refine wpList_append_grows (W.alloc (.cells #[.string str, .int .i64 v] 89)) hgd s x 84 hop 89 i0 (.agg #[.string ⟨#[]⟩, .int .i64 0]) 2 24 elemBn.under hi hz0 hz1 hz2 elemBn.cells elemBn.pos ao n n (cells2 e) hs
    (fun h => by subst h; exact ⟨hN.nothing, hN.nothing⟩) (by rw [hlen, hN.1]) (bn_cells hN2) ⟨W.heap.size, 0, none⟩ 1 1 [.string str, .int .i64 v] hx rfl ?_ (by simp [Value.oneCell']) (by omega) (by unfold maxLen; omega) (by omega) ?_
  · intro j u hu
    rw [Addr.add_lit, cell_of_row (W.alloc (.cells #[.string str, .int .i64 v] 89)) W.heap.size (0 + j) #[.string str, .int .i64 v] 89 (0, 0) (heap_alloc_new W _)]
    simpa using hu
  · intro v' w' hown hgr
    obtain ⟨g, c, rfl, hb, _⟩ := hown.form (by omega)
    have hcap : n + 1 ≤ c := by
      rcases hown.2 with ⟨h1, h0⟩ | ⟨g', cap, cur, he, _, _, hc, _⟩
      · cases h1
      · injection he with _ _ h3; omega
    simp at hb
    exact hK g c w' (BnIn.of_own hown (by rw [hN.1]) (by unfold maxLen; omega) (by omega)) hcap ((Quiet0.alloc _ _).trans (Fr.grown hgr (fun k hk => by cases hk)))
theorem clipB_any (o : Option Addr) (n c : Nat) (w : World) (hc : n ≤ c) (_ : o = none → n = 0) : Calls Tryd.prog 94 #[.slice o n c] w fun e w' => e = .returned (.slice o n n) ∧ w = w' := by
  go_enter Tryd.func94, Tryd.ntmps94
  go_wp2_with fail
  go_ret
  exact ⟨rfl, rfl⟩
def BnPost (W : World) (e : Env) (x : Ending) (w' : World) : Prop := ∃ o c, x = .returned (.slice o e.length c) ∧ BnIn (fun k => W.heap.size ≤ k) w' o e.length e ∧ e.length ≤ c ∧ Quiet0 W w'
set_option maxHeartbeats 1000000 in
theorem with_any (T : Nat → Prop) (e : Env) (s : ByteArray) (v : Int) (o : Option Addr) (n c : Nat) (w : World) (h : BnIn T w o n e) (hc : n ≤ c) (hn : n ≤ 900000) :
    Calls Tryd.prog 63 #[.slice o n c, .string s, .int .i64 v] w (BnPost w ((s, v) :: e)) := by
  have HN := Lib.hid h
  have HCL := Lib.hid (clipB_any o n c w hc (fun hx => by subst hx; exact h.nothing))
  have HL := Lib.hid h.1
  clear h
  go_enter Tryd.func63, Tryd.ntmps63
  go_wp2_with fail
  refine HCL.out.mono ?_; rintro x w1 ⟨rfl, rfl⟩
  go_wp2_with (at_builtin; go_must (refine wpList_append_bn w rfl (.tmp 8) (.tmp 12) rfl HN.out s v rfl rfl (by omega) ?_))
  intro g c' w2 hb hcap hq
  have HB := Lib.hid hb
  have HQ := Lib.hid hq
  clear hb hq
  go_wp2_with fail
  go_ret
  exact ⟨some ⟨g, 0, none⟩, c', by rw [List.length_cons, ← HL.out]; rfl, by rw [List.length_cons, ← HL.out]; exact HB.out, by rw [List.length_cons, ← HL.out]; exact hcap, HQ.out⟩
set_option maxHeartbeats 1000000 in
theorem add_any (l : List Int) (b n c : Nat) (w : World) (hn : n = l.length) (hz : n ≤ 1000) (hc : ∀ j x, l[j]? = some x → w.cell? ⟨b, j, none⟩ = some (.int .i64 x)) (hl : ∀ x ∈ l, InT x) :
    Calls Tryd.prog 110 #[.slice (some ⟨b, 0, none⟩) n c] w fun x w' => x = .returned (.int .i64 (addL l)) ∧ w = w' := by
  have HC := Lib.hid hc
  have HI := Lib.hid hl
  have HN := Lib.hid hn
  clear hc hl hn
  go_enter Tryd.func110, Tryd.ntmps110
  go_wp2_with fail
  go_loopw [3, 8] (fun v t wr => ∃ (i : Nat) (s : Int), t = .int .i64 i ∧ v = .int .i64 s ∧ i ≤ n ∧ (l.take i).foldl addS 0 = s ∧ InT s ∧ w = wr) (fun _ t _ => n - (intOf t).toNat)
  case atStart => exact ⟨0, 0, rfl, rfl, Nat.zero_le _, rfl, ⟨by decide, by decide⟩, rfl⟩
  case round =>
    obtain ⟨i, s, rfl, rfl, hi, hs, hst, rfl⟩ := hrel
    have HS := Lib.hid hs
    have HST := Lib.hid hst
    clear hs hst
    by_cases hlt : i < n
    · have hlt' : (i : Int) < n := by omega
      obtain ⟨x, hx⟩ : ∃ x, l[i]? = some x := ⟨_, List.getElem?_eq_getElem (by have := HN.out; omega)⟩
      have c0 := HC.out i x hx
      have hxt := HI.out x (List.mem_of_getElem? hx)
      have hs2 := HST.out
      have hb1 : -9223372036854775808 ≤ s + x := by unfold InT top at hxt hs2; omega
      have hb2 : s + x ≤ 9223372036854775807 := by unfold InT top at hxt hs2; omega
      have hw : IntKind.i64.wrap (s + x) = s + x := IntWalk.i64_in _ (by omega)
      have HF : Hid ((l.take (i + 1)).foldl addS 0 = addS s x) := by show _ = _; rw [List.take_add_one, hx, List.foldl_append, HS.out]; rfl
      have HT2 : Hid (InT (addS s x)) := addS_in hs2 hxt
      have HMN : Hid (min (1099511627776 : Int) (s + x) = addS s x) := rfl
      clear hx hxt hs2 hb1 hb2
      go_wp2_with fail
      go_roundw
      case rel => exact ⟨i + 1, addS s x, by go_num, by first | rfl | (unfold addS top; split <;> (congr 1; omega)) | (show _ = Value.int .i64 (addS s x); rw [← HMN.out]), by omega, HF.out, HT2.out, trivial⟩
      case measure => simp [intOf]; omega
    · have hlt' : ¬ (i : Int) < n := by omega
      have HE : Hid (addL l = s) := by show _ = _; have h := HS.out; rw [List.take_of_length_le (by have := HN.out; omega)] at h; exact h
      go_wp2_with fail
      go_ret
      exact ⟨by rw [HE.out]; rfl, rfl⟩
end Cn
end Go.Proofs.YtnfodiedalhlhaaDoor
end
section
namespace Go.Proofs.YtnfodiedalhlhaaDoor
open Go.RowKit Go.Shelf
attribute [local go_sem] Oper.semAt_some
namespace Cn
def EncB (n : Nat) (i : Nat) (x : ByteArray × Int) (va : Array Value) (_ : World) : Prop := va = #[.int .i64 ((n : Int) - 1 - i), .agg #[.string x.1, .int .i64 x.2]]
set_option maxHeartbeats 4000000 in
set_option maxRecDepth 100000 in
theorem back_seq (n : Nat) (R : Nat → Prop) (e : Env) (o : Option Addr) (m c sb : Nat) (w : World) (hRw : ∀ k, R k → k < w.heap.size) (hb : w.heap[sb]? = some (.cells #[.slice o m c] 84 (0, 0))) (hRt : R sb) (he : BnIn R w o m e) (hz : m ≤ 1000000) :
    SeqC n Tryd.prog 93 #[.pointer (some ⟨sb, 0, none⟩)] (EncB m) R e w := by
  intro l J Jx W D0 hW hown hst hstx hY hJ
  have hbW := blk_fr hW (fun h => h) hb
  have hle := hW.size
  have c0 := cell_of_one hbW
  have HE : Hid (BnIn R W o m e) := he.fr hW (fun k _ hk => ⟨hk, fun h => h⟩)
  have HL := Lib.hid he.1
  have HB := Lib.hid hbW
  have HJ := Lib.hid hJ
  clear he hb hJ hbW
  refine callsIn_of_wp Tryd.func93 rfl trivial ?_ rfl
  simp only [Tryd.ntmps93, List.size_toArray, List.length_cons, List.length_nil, Nat.reduceAdd, Nat.reduceSub, Array.replicate_succ, Array.replicate_zero, List.push_toArray, List.append_toArray, List.nil_append, List.cons_append]
  gi_wp2
  gi_loopw [3] (fun t wr => ∃ (i : Nat) (D' : Nat → Prop), t = .int .i64 ((m : Int) - 1 - i) ∧ i ≤ m ∧ J i D' wr ∧ Fr (fun k => D0 k ∨ W.heap.size ≤ k) W wr ∧ ∀ k, D' k → D0 k ∨ W.heap.size ≤ k) (fun t wr => (intOf t + 1).toNat)
  case atStart => exact ⟨0, D0, by simp, Nat.zero_le _, HJ.out, Fr.refl _ _, fun k hk => .inl hk⟩
  case round =>
    obtain ⟨i, D', rfl, hi, hj, hf, hd⟩ := hrel
    have hRD : ∀ k, R k → ¬ (D0 k ∨ W.heap.size ≤ k) := fun k hk h => by
      rcases h with h | h
      · exact (hown _ _ _ HJ.out k h).2 hk
      · have := hRw k hk; omega
    by_cases hlt : i < m
    · obtain ⟨x, hx⟩ : ∃ x, e[i]? = some x := ⟨_, List.getElem?_eq_getElem (by have := HL.out; omega)⟩
      have hrev : e.reverse[m - 1 - i]? = some x := by
        rw [List.getElem?_reverse (by have := HL.out; omega), ← hx]; congr 1; have := HL.out; omega
      have hbn := HE.out.fr hf (T' := R) (fun k _ hk => ⟨hk, hRD k hk⟩)
      obtain ⟨b, rfl, k0, k1⟩ := hbn.at hrev
      have c1 := cell_of_one (blk_fr hf (hRD _ hRt) HB.out)
      have hidx : ((m : Int) - 1 - i).toNat = m - 1 - i := by omega
      have hp0 : (0 : Int) ≤ (m : Int) - 1 - i := by omega
      have hp1 : (m : Int) - 1 - i ≥ 0 := by omega
      have hp2 : (m : Int) - 1 - i < m := by omega
      obtain ⟨fn, tmps, assign, body, hyr, hR⟩ := yield_any (n - 1) (hY i x #[.int .i64 ((m : Int) - 1 - i), .agg #[.string x.1, .int .i64 x.2]] D' wr hx rfl hj)
      have HR := Lib.hid hR
      have HF := Lib.hid hf
      have HD := Lib.hid hd
      have HJ2 := Lib.hid hj
      clear hR hf hd hj hx hrev hbn
      gi_wp2
      refine ⟨fun h => (by cases h), HR.out.mono ?_⟩
      rintro e W3 (⟨rfl, D3, hJ3, hf3, hd3⟩ | ⟨rfl, hx3⟩)
      · have HJ3 := Lib.hid hJ3
        have HF3 : Hid (Fr (fun k => D0 k ∨ W.heap.size ≤ k) W W3) := HF.out.trans (hf3.mono (fun k _ h => HD.out k h))
        have HD3 : Hid (∀ k, D3 k → D0 k ∨ W.heap.size ≤ k) := fun k hk => by
          rcases hd3 k hk with h | h
          · exact HD.out k h
          · have := HF.out.size; exact .inr (by omega)
        clear hJ3 hf3 hd3
        gi_wp2
        go_roundw
        case rel => exact ⟨i + 1, D3, by congr 1; omega, by omega, HJ3.out, HF3.out, HD3.out⟩
        case measure => simp [intOf] <;> omega
      · gi_wp2
        refine bodyPost_ret (by first | (simp [results, Tryd.results93, go_sem]; done) | (simp [results, Tryd.results93, go_sem]; rfl)) rfl ?_
        exact ⟨⟨_, rfl⟩, .inr hx3⟩
    · have hp1 : ¬ ((m : Int) - 1 - i ≥ 0) := by omega
      have hp2 : ¬ ((0 : Int) ≤ (m : Int) - 1 - i) := by omega
      have HE2 : Hid (J e.length D' wr) := by show J _ _ _; rw [← HL.out, show m = i by omega]; exact hj
      clear hj hf hd
      gi_wp2
      go_end0
      exact ⟨⟨_, rfl⟩, .inl ⟨D', HE2.out⟩⟩
theorem back_call (o : Option Addr) (m c : Nat) (w : World) : Calls Tryd.prog 62 #[.slice o m c] w fun e w' => e = .returned (.func (.func 93) #[] #[.pointer (some ⟨w.heap.size, 0, none⟩)]) ∧ w' = w.alloc (.cells #[.slice o m c] 84) := by
  go_enter Tryd.func62, Tryd.ntmps62
  go_wp2_with fail
  go_ret
  exact ⟨rfl, rfl⟩
theorem encB_size {n i : Nat} {x : ByteArray × Int} {va : Array Value} {W : World} (h : EncB n i x va W) : va.size = 2 := by unfold EncB at h; rw [h]; rfl
end Cn
end Go.Proofs.YtnfodiedalhlhaaDoor
end
section
namespace Go.Proofs.YtnfodiedalhlhaaDoor
open Go.RowKit Go.Shelf
attribute [local go_sem] Oper.semAt_some
namespace Cn
theorem brings_drop {e : Env} {i : Nat} {x : ByteArray × Int} (h : e[i]? = some x) (s : ByteArray) : brings (e.drop i) s = if x.1 = s then x.2 else brings (e.drop (i + 1)) s := by
  obtain ⟨hk, hs⟩ := List.getElem?_eq_some_iff.1 h
  rw [List.drop_eq_getElem_cons hk, hs]; rfl
def BrI (e : Env) (s : ByteArray) (w : World) (i : Nat) (D : Nat → Prop) (W : World) : Prop :=
  (∀ j, D j ↔ j = w.heap.size + 1) ∧ W.heap[w.heap.size]? = some (.cells #[.string s] 9 (0, 0)) ∧ W.heap[w.heap.size + 1]? = some (.cells #[.int .i64 0] 3 (0, 0)) ∧ Quiet0 w W ∧ brings e s = brings (e.drop i) s
theorem BrI.fr {e : Env} {s : ByteArray} {w : World} {i : Nat} {D S : Nat → Prop} {W W' : World} (h : BrI e s w i D W) (hf : Fr S W W') (h1 : ¬ S w.heap.size) (h2 : ¬ S (w.heap.size + 1)) (h4 : ∀ k, k < w.heap.size → ¬ S k) : BrI e s w i D W' :=
  ⟨h.1, blk_fr hf h1 h.2.1, blk_fr hf h2 h.2.2.1, Fr.trans' h.2.2.2.1 hf (fun k hk hs => h4 k hk hs), h.2.2.2.2⟩
def BrX (e : Env) (s : ByteArray) (w : World) (W : World) : Prop := W.heap[w.heap.size + 1]? = some (.cells #[.int .i64 (brings e s)] 3 (0, 0)) ∧ Quiet0 w W
set_option maxHeartbeats 4000000 in
set_option maxRecDepth 100000 in
theorem brings_any (T : Nat → Prop) (e : Env) (s : ByteArray) (o : Option Addr) (n c : Nat) (w : World) (h : BnIn T w o n e) (hz : n ≤ 1000000) :
    Calls Tryd.prog 111 #[.slice o n c, .string s] w fun x w' => x = .returned (.int .i64 (brings e s)) ∧ Quiet0 w w' := by
  refine (callsIn_wide (n := 5)).1 ?_
  refine callsIn_of_wp_marks Tryd.func111 rfl trivial ?_ rfl
  simp only [Tryd.ntmps111, List.size_toArray, List.length_cons, List.length_nil, Nat.reduceAdd, Nat.reduceSub, Array.replicate_succ, Array.replicate_zero, List.push_toArray, List.append_toArray, List.nil_append, List.cons_append]
  have HC := fun W => (callsIn_wide (n := 4)).2 (back_call o n c W)
  gi_wp2_with (fail)
  refine ⟨trivial, (HC _).mono ?_⟩; rintro x W2' ⟨rfl, hW2⟩
  obtain ⟨W1, hW1⟩ : ∃ W1, W1 = (w.alloc (.cells #[.string s] 9)).alloc (.cells #[.int .i64 0] 3) := ⟨_, rfl⟩
  have hz1 : W1.heap.size = w.heap.size + 2 := by rw [hW1]; simp
  have hq1 : Quiet0 w W1 := by rw [hW1]; exact (Quiet0.alloc _ _).trans (Quiet0.alloc _ _)
  have hW2' : W2' = W1.alloc (.cells #[.slice o n c] 84) := by rw [hW1]; exact hW2
  have hb1 : W1.heap[w.heap.size]? = some (.cells #[.string s] 9 (0, 0)) := by
    rw [hW1, Below.heap_alloc _ _ _ (by simp)]; exact heap_alloc_new w _
  have hb2 : W1.heap[w.heap.size + 1]? = some (.cells #[.int .i64 0] 3 (0, 0)) := by
    rw [hW1]
    have := heap_alloc_new (w.alloc (.cells #[.string s] 9)) (.cells #[.int .i64 0] 3)
    simpa using this
  have hq12 : Quiet0 W1 W2' := by rw [hW2']; exact Quiet0.alloc _ _
  have hq2 : Quiet0 w W2' := hq1.trans hq12
  have htb : W2'.heap[W1.heap.size]? = some (.cells #[.slice o n c] 84 (0, 0)) := by rw [hW2']; exact heap_alloc_new W1 _
  have hz2 : W2'.heap.size = w.heap.size + 3 := by rw [hW2']; simp; omega
  have hseq := back_seq (5 - 1) (fun k => k < w.heap.size ∨ k = W1.heap.size) e o n c W1.heap.size W2' (fun k hk => by omega) htb (.inr rfl) ((h.mono (T' := fun k => k < w.heap.size ∨ k = W1.heap.size) (fun k hk _ => .inl hk)).stay hq2) hz
  rw [hz1] at hseq
  have HSEQ := Lib.hid hseq
  have HST : Hid (BrI e s w 0 (fun j => j = w.heap.size + 1) W2') := ⟨fun j => Iff.rfl, blk_after hq12 hb1, blk_after hq12 hb2, hq2, by simp⟩
  clear hW1 hW2 hW2' hq1 hb1 hq2 hb2 htb hseq HC hq12 h
  gi_wp2_with (fail)
  refine wpIn_range_c (w := W2') rfl (enters_of Tryd.func93 (by kernel_rfl) rfl) HSEQ.out (fun k hk => by omega) (Fr.refl _ _) (fun i x va W he => encB_size he)
    (BrI e s w)
    (fun i x a' D W => BrI e s w i D W ∧ ∃ (xb : Nat) (t9 t10 : Value), W.heap[xb]? = some (.cells #[.string x.1, .int .i64 x.2] 89 (0, 0)) ∧ xb ≠ W2'.heap.size + 1 ∧ a' = { tmps := #[.slice o n c, .string s, undef, .pointer (some ⟨w.heap.size, 0, none⟩), .pointer (some ⟨w.heap.size + 1, 0, none⟩), undef, .pointer (some ⟨xb, 0, none⟩), .slice o n c, .func (.func 93) #[] #[.pointer (some ⟨w.heap.size + 1 + 1, 0, none⟩)], t9, t10, undef, undef, undef, undef, undef, undef], defers := [] })
    (fun c W => c = .ret ∧ BrX e s w W) (fun k => k = w.heap.size + 1) ?own ?stay ?stayM ?stayX ?start ?assign ?body ?done ?stop
  case own =>
    rintro i D A ⟨hd, h1, h2, hq, hle⟩ k hk
    have e := (hd k).1 hk
    have hl := lt_of_block h2
    exact ⟨by omega, by omega, .inl (by omega)⟩
  case stay =>
    rintro i D A B hI hf
    exact hI.fr hf (fun h => by have := h.1; omega) (fun h => h.2 ((hI.1 _).2 rfl)) (fun k hk h => by have := h.1; omega)
  case stayM =>
    rintro i x a' D A B ⟨hI, xb, t9, t10, hxb, hne, ha⟩ hf
    exact ⟨hI.fr hf (by omega) (by omega) (fun k hk h => by omega), xb, t9, t10, blk_fr hf hne hxb, hne, ha⟩
  case stayX =>
    rintro c A B ⟨hc, hb2, hq⟩ hf
    exact ⟨hc, blk_fr hf (by omega) hb2, hq.trans' hf (fun k hk h => by omega)⟩
  case start => exact HST.out
  case assign =>
    rintro l i y va D W K hx hva hI hWs hK
    unfold EncB at hva
    subst hva
    have hq := Quiet0.alloc W (.cells #[.string y.1, .int .i64 y.2] 89)
    have hnew := heap_alloc_new W (.cells #[.string y.1, .int .i64 y.2] 89)
    have hne : W.heap.size ≠ W2'.heap.size + 1 := by omega
    have hI2 := hI.fr (S := fun _ => False) hq (fun h => h) (fun h => h) (fun _ _ h => h)
    clear hI hWs
    gi_wp2
    exact hK _ _ ⟨hI2, W.heap.size, .int .i64 ((n : Int) - 1 - i), .agg #[.string y.1, .int .i64 y.2], hnew, hne, by simp⟩ hq
  case body =>
    rintro l i y a' D W hx ⟨hI, xb, t9, t10, hxb, hne, rfl⟩ hW
    have a0 : W.cell? ⟨xb, 0, none⟩ = some (.string y.1) := by rw [cell_of_row _ _ _ _ _ (0, 0) hxb]; rfl
    have a1 : W.cell? ⟨xb, 1, none⟩ = some (.int .i64 y.2) := by rw [cell_of_row _ _ _ _ _ (0, 0) hxb]; rfl
    have ck := cell_of_one hI.2.1
    have hst := hI.2.2.2.2
    rw [brings_drop hx] at hst
    by_cases hik : y.1 = s
    · have hbe : (y.1.toList == s.toList) = true := by rw [hik]; simp
      rw [if_pos hik] at hst
      have HI := Lib.hid hI
      have HS := Lib.hid hst
      have cr := cell_of_one hI.2.2.1
      have zr := free_of_one hI.2.2.1
      clear hI hst hx hik hxb
      gi_wp2
      have hfs := Fr.setCell (fun k => k = w.heap.size + 1) W ⟨w.heap.size + 1, 0, none⟩ (.int .i64 y.2) rfl
      exact ⟨⟨rfl, by rw [HS.out]; exact one_setCell HI.out.2.2.1, HI.out.2.2.2.1.trans' hfs (fun k hk e => by omega)⟩, hfs.mono (fun k _ e => (HI.out.1 k).2 e)⟩
    · have hbe : (y.1.toList == s.toList) = false := by
        cases hx : (y.1.toList == s.toList)
        · rfl
        · exact absurd (Sc.str_eq.1 hx) hik
      rw [if_neg hik] at hst
      have HI := Lib.hid hI
      have HS := Lib.hid hst
      clear hI hst hx hik hxb
      gi_wp2
      exact ⟨D, ⟨HI.out.1, HI.out.2.1, HI.out.2.2.1, HI.out.2.2.2.1, HS.out⟩, Fr.refl _ _, fun k hk => .inl hk⟩
  case done =>
    rintro D W hI hdef
    have hst := hI.2.2.2.2
    rw [List.drop_length] at hst
    have HS : Hid (brings e s = 0) := hst
    have cr := cell_of_one hI.2.2.1
    have zr := free_of_one hI.2.2.1
    have HI := Lib.hid hI
    clear hI hst
    gi_wp2
    have hfs := Fr.setCell (fun k => k = w.heap.size + 1) W ⟨w.heap.size + 1, 0, none⟩ (.int .i64 0) rfl
    have hdef2 := blk_fr hfs (by omega) hdef
    refine ⟨by simp, .inl ⟨_, _, rfl, run_takeDeferred hdef2, ?_⟩⟩
    have hfp := Fr.putObj (fun k => k = W2'.heap.size) (W.setCell ⟨w.heap.size + 1, 0, none⟩ (.int .i64 0)) W2'.heap.size (.deferred none) rfl
    have cq := cell_of_one (blk_fr hfp (by omega) (one_setCell (u := .int .i64 0) HI.out.2.2.1))
    refine ⟨_, by simp [results, Tryd.results111, go_sem, cq]; rfl, by rw [HS.out], ?_⟩
    exact (HI.out.2.2.2.1.trans' hfs (fun k hk e => by omega)).trans' hfp (fun k hk e => by omega)
  case stop =>
    rintro c W ⟨rfl, hb2, hq⟩ hdef
    gi_wp2
    refine ⟨by simp, .inl ⟨_, _, rfl, run_takeDeferred hdef, ?_⟩⟩
    have hfp := Fr.putObj (fun k => k = W2'.heap.size) W W2'.heap.size (.deferred none) rfl
    have cr := cell_of_one (blk_fr hfp (by omega) hb2)
    refine ⟨_, by simp [results, Tryd.results111, go_sem, cr], rfl, ?_⟩
    exact hq.trans' hfp (fun k hk e => by omega)
end Cn
end Go.Proofs.YtnfodiedalhlhaaDoor
end
