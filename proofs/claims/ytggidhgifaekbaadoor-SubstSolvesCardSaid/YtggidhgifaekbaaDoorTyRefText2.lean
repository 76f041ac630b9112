/-
  The reference's Text of an arrow or a tuple: the loop over the parts. Conditions: as TyText's; no table is read.
-/
import Derived.Test.YtggidhgifaekbaaDoorTyRefText
import Derived.Test.YtggidhgifaekbaaDoorTyText5
import Derived.Deep.RegionHeld3
namespace Go.Proofs.YtggidhgifaekbaaDoor
open Go.RowKit

/-- the parts' texts, in brackets where they have to be -/
def pcs (k : Int) (ts : List (Int × List UInt8)) : List (List UInt8) := ts.mapIdx fun i t => brackL (t.1 == 4 && (k == 5 || i == 0)) t.2
def sepOf (k : Int) : List UInt8 := if k == 5 then [32, 42, 32] else [32, 45, 62, 32]
theorem join_snoc : ∀ (xs : List (List UInt8)) (y sep : List UInt8), Lib.join (xs ++ [y]) sep = (if xs = [] then [] else Lib.join xs sep ++ sep) ++ y
  | [], y, sep => by simp [Lib.join]
  | x :: r, y, sep => by
    rw [List.cons_append, Lib.join_cons, Lib.join_cons, if_neg (by simp)]
    unfold Lib.joinTail
    simp [List.append_assoc]
theorem join_bound (sep : List UInt8) (M : Nat) : ∀ (xs : List (List UInt8)), (∀ x ∈ xs, x.length + sep.length ≤ M) → (Lib.join xs sep).length ≤ xs.length * M := by
  intro xs h
  cases xs with
  | nil => simp [Lib.join]
  | cons x r =>
    rw [Lib.join_cons, List.length_append]
    have h0 := h x (by simp)
    have h1 : ∀ r : List (List UInt8), (∀ x ∈ r, x.length + sep.length ≤ M) → (Lib.joinTail sep r).length ≤ r.length * M := by
      intro r
      induction r with
      | nil => intro _; simp [Lib.joinTail]
      | cons y s ih =>
        intro h
        have h1 := h y (by simp)
        have h2 := ih (fun x hx => h x (by simp [hx]))
        simp [Lib.joinTail] at h2 ⊢
        rw [Nat.add_mul]; omega
    have h2 := h1 r (fun y hy => h y (by simp [hy]))
    simp only [List.length_cons, Nat.add_mul]; omega
theorem pcs_get (k : Int) (ts : List (Int × List UInt8)) (i : Nat) (t : Int × List UInt8) (h : ts[i]? = some t) : (pcs k ts)[i]? = some (brackL (t.1 == 4 && (k == 5 || i == 0)) t.2) := by
  unfold pcs; rw [List.getElem?_mapIdx, h]; rfl
theorem pcs_len (k : Int) (ts : List (Int × List UInt8)) : (pcs k ts).length = ts.length := by unfold pcs; simp
theorem pcs_txt5 (n : Int) (ts : List (Int × List UInt8)) : [40] ++ Lib.join (pcs 5 ts) (sepOf 5) ++ [41] = txt 5 n ts := by
  have e : pcs 5 ts = ts.map fun t => brackL (t.1 == 4) t.2 := by
    unfold pcs
    apply List.ext_getElem?
    intro i
    rw [List.getElem?_mapIdx, List.getElem?_map]
    simp
  rw [e]; rfl
theorem pcs_txt4 (n : Int) (ts : List (Int × List UInt8)) (h : ts.length = 2) : Lib.join (pcs 4 ts) (sepOf 4) = txt 4 n ts := by
  match ts, h with
  | [a, b], _ =>
    have e : pcs 4 [a, b] = [brackL (a.1 == 4) a.2, b.2] := by
      simp [pcs, brackL]
    rw [e, Lib.join_cons]
    simp [Lib.joinTail, txt, sepOf]
theorem pcs_mem (k : Int) (f : Fo) (x : List UInt8) (h : x ∈ pcs k f.texts) : x.length ≤ 15 + 18 * f.size := by
  obtain ⟨i, hi⟩ := List.getElem?_of_mem h
  have hlt : i < f.texts.length := by have := (List.getElem?_eq_some_iff.1 hi).1; rwa [pcs_len] at this
  rw [Fo.texts_length] at hlt
  obtain ⟨k1, n1, qs, _, hg⟩ := Fo.drop_get f i hlt
  have h1 := pcs_get k f.texts i _ (Fo.texts_get f i k1 n1 qs hg)
  rw [h1] at hi
  cases hi
  have h2 := txt_bound k1 n1 qs
  have h3 := Fo.size_get f i k1 n1 qs hg
  have h4 := brackL_len (k1 == 4 && (k == 5 || i == 0)) (txt k1 n1 qs.texts)
  exact Nat.le_trans h4 (by omega)

set_option maxHeartbeats 4000000 in
set_option maxRecDepth 100000 in
theorem refText_5 (n : Int) (ps : Fo) (ih : ∀ i k' n' qs, ps.get i = some (k', n', qs) → TRefText k' n' qs) : TRefText 5 n ps := by
  intro w o len cap hs hp hr hsz
  have hl : 2 ≤ len ∧ len ≤ 8 := by
    have := hs.1
    simp [Fo.plain] at hp
    omega
  obtain ⟨hl2, hl8⟩ := hl
  have HS := Lib.hid hs
  have HL := Lib.hid hs.1
  have HR := Lib.hid hr
  have IH := Lib.hid ih
  obtain ⟨sj, hsj⟩ : ∃ s, s = tb (Lib.join (pcs 5 ps.texts) (sepOf 5)) := ⟨_, rfl⟩
  have HB : Hid (∀ i, i ≤ len → (tb (Lib.join ((pcs 5 ps.texts).take i) (sepOf 5))).size ≤ 200000) := by
    intro i hi
    rw [tb_size]
    have h := join_bound (sepOf 5) 18020 ((pcs 5 ps.texts).take i) (fun x hx => by
      have h1 := pcs_mem 5 ps x (List.mem_of_mem_take hx)
      have h2 : (sepOf 5).length = 3 := rfl
      omega)
    have h3 : ((pcs 5 ps.texts).take i).length ≤ 8 := by rw [List.length_take]; omega
    have h4 : ((pcs 5 ps.texts).take i).length * 18020 ≤ 8 * 18020 := Nat.mul_le_mul_right _ h3
    omega
  have HJ : Hid (tb (Lib.join ((pcs 5 ps.texts).take len) (sepOf 5)) = sj) := by
    show _ = _
    rw [List.take_of_length_le (by rw [pcs_len, Fo.texts_length]; exact Nat.le_of_eq hs.1.symm), hsj]
  have hjz : sj.size ≤ 200000 := by have := HB.out len (Nat.le_refl _); rw [HJ.out] at this; exact this
  have HFIN : Hid (⟨#[40]⟩ ++ sj ++ ⟨#[41]⟩ = tb (txt 5 n ps.texts)) := by
    show _ = _
    rw [← pcs_txt5, hsj, ← tb_app, ← tb_app]; rfl
  have u1 : (⟨#[40]⟩ ++ sj : ByteArray).size = sj.size + 1 := by rw [ByteArray.size_append, Nat.add_comm]; rfl
  rw [← HFIN.out]
  clear hs hp hr ih hsj HFIN
  unfold tyv
  go_enter Tryd.func18, Tryd.ntmps18
  go_wp2_with fail
  obtain ⟨W0, hW0⟩ : ∃ W0, W0 = w.alloc (.cells #[.int .i64 5, .int .i64 n, .slice o len cap] 24) := ⟨_, rfl⟩
  change Code.wp _ _ _ _ (w.alloc (.cells #[.int .i64 5, .int .i64 n, .slice o len cap] 24))
  have HBB : Hid (∀ W, Quiet0 W0 W → W.cell? ⟨w.heap.size, 0, none⟩ = some (.int .i64 5) ∧ W.cell? ⟨w.heap.size, 2, none⟩ = some (.slice o len cap)) := by
    intro W hq; rw [hW0] at hq
    have := box_cells w 5 n o len cap _ W hq
    exact ⟨this.1, this.2.2⟩
  have HQ0 : Hid (Quiet0 w W0) := by rw [hW0]; exact Quiet0.alloc _ _
  rw [← hW0]
  clear hW0
  generalize w.heap.size = B at *
  go_loopw [4, 5, 6] (fun s t _ wr => ∃ i : Nat, t = .int .i64 i ∧ i ≤ len ∧ s = .string (tb (Lib.join ((pcs 5 ps.texts).take i) (sepOf 5))) ∧ Quiet0 W0 wr) (fun _ t _ _ => len - (intOf t).toNat)
  case atStart => exact ⟨0, rfl, Nat.zero_le _, rfl, Quiet0.refl _⟩
  case round =>
    obtain ⟨i, rfl, hi, rfl, hq⟩ := hrel
    have HQ := Lib.hid hq
    obtain ⟨c0, c2⟩ := HBB.out _ hq
    have hsz0 := HB.out i hi
    by_cases hlt : i < len
    · have hlt' : (i : Int) < len := by omega
      obtain ⟨b, off, k1, n1, qs, o1, len1, cap1, rfl, hd, hg, e0, e1, e2, hs1⟩ := (HS.out.stay (HQ0.out.trans hq)).nth hlt
      have hsq := Fo.size_get ps i k1 n1 qs hg
      obtain ⟨hp1, hr1⟩ := Fo.right_get _ _ _ _ _ HR.out hg
      have HC : Hid (∀ W, Quiet0 wr W → Calls Tryd.prog 18 #[.agg #[.int .i64 k1, .int .i64 n1, .slice o1 len1 cap1]] W fun e w' => e = .returned (.string (tb (txt k1 n1 qs.texts))) ∧ Quiet0 W w') := by
        intro W hq; exact IH.out i k1 n1 qs hg W o1 len1 cap1 (hs1.stay hq) hp1 hr1 (by omega)
      have hpg := pcs_get 5 ps.texts i _ (Fo.texts_get _ _ _ _ _ hg)
      have HNEW : Hid (tb (Lib.join ((pcs 5 ps.texts).take (i + 1)) (sepOf 5)) = (if i = 0 then ⟨#[]⟩ else tb (Lib.join ((pcs 5 ps.texts).take i) (sepOf 5)) ++ ⟨#[32, 42, 32]⟩) ++ tb (brackL (k1 == 4 && ((5 : Int) == 5 || i == 0)) (txt k1 n1 qs.texts))) := by
        show _ = _
        rw [List.take_add_one, hpg]
        show tb (Lib.join (_ ++ [_]) _) = _
        rw [join_snoc, ← tb_app]
        congr 1
        by_cases h0 : i = 0
        · rw [if_pos h0, h0, List.take_zero, if_pos rfl]; rfl
        · rw [if_neg h0, if_neg (by
            intro h
            have := congrArg List.length h
            rw [List.length_take, pcs_len, Fo.texts_length] at this
            have := HL.out
            have h7 : ([] : List (List UInt8)).length = 0 := rfl
            omega), ← tb_app]; rfl
      have hbr : tb (brackL true (txt k1 n1 qs.texts)) = ⟨#[40]⟩ ++ tb (txt k1 n1 qs.texts) ++ ⟨#[41]⟩ := by
        have e : brackL true (txt k1 n1 qs.texts) = [40] ++ txt k1 n1 qs.texts ++ [41] := rfl
        rw [e, ← tb_app, ← tb_app]; rfl
      have hbn : tb (brackL false (txt k1 n1 qs.texts)) = tb (txt k1 n1 qs.texts) := rfl
      have hpz : (tb (txt k1 n1 qs.texts)).size ≤ 20000 := by rw [tb_size]; have := txt_bound k1 n1 qs; omega
      have HZ0 : Hid (i = 0 → (⟨#[]⟩ : ByteArray) = tb (Lib.join ((pcs 5 ps.texts).take i) (sepOf 5))) := by intro h; subst h; rfl
      have HBR := Lib.hid hbr
      have HBN := Lib.hid hbn
      clear hd hg hs1 hsq hp1 hr1 hpg hq hbr hbn
      generalize tb (txt k1 n1 qs.texts) = p1 at *
      generalize tb (Lib.join ((pcs 5 ps.texts).take i) (sepOf 5)) = s0 at *
      have v1 : (⟨#[40]⟩ ++ p1 : ByteArray).size = p1.size + 1 := by rw [ByteArray.size_append, Nat.add_comm]; rfl
      have v2 : (⟨#[40]⟩ ++ p1 ++ ⟨#[41]⟩ : ByteArray).size = p1.size + 2 := by rw [ByteArray.size_append, v1]; rfl
      have v3 : (s0 ++ ⟨#[32, 42, 32]⟩ : ByteArray).size = s0.size + 3 := by rw [ByteArray.size_append]; rfl
      cases hk4 : (k1 == 4)
      all_goals
        have HK4 := Lib.hid hk4
        by_cases hi0 : i = 0
      all_goals
        have HI0 := Lib.hid hi0
      · have q0 : ((i : Int) == 0) = true := by subst hi0; rfl
        have q1 : decide ((0 : Int) < (i : Int)) = false := by subst hi0; rfl
        have q2 : ¬ (0 : Int) < (i : Int) := by omega
        clear hi0
        have HEQ : Hid (tb (Lib.join ((pcs 5 ps.texts).take (i + 1)) (sepOf 5)) = s0 ++ p1) := by
          show _ = _
          rw [HNEW.out, HK4.out, if_pos HI0.out]
          rw [show (false && ((5 : Int) == 5 || i == 0)) = false from by rw [HI0.out]; rfl, HBN.out]; rw [HZ0.out HI0.out]
        go_wp2_with fail
        refine (HC.out _ (Quiet0.refl _)).mono ?_; rintro e w1 ⟨rfl, hq1⟩
        have f0 := hq1.at e0
        have g0 := hq1.at c0
        have g2 := hq1.at c2
        have HQ1 := Lib.hid (HQ.out.trans hq1)
        clear hq1
        go_wp2_with fail
        go_roundw
        case rel => exact ⟨i + 1, by go_num, by omega, by rw [HEQ.out], HQ1.out⟩
        case measure => simp [intOf]; omega
      · have q0 : ((i : Int) == 0) = false := by simp; omega
        have q1 : decide ((0 : Int) < (i : Int)) = true := by simp; omega
        have q2 : (0 : Int) < (i : Int) := by omega
        clear hi0
        have HEQ : Hid (tb (Lib.join ((pcs 5 ps.texts).take (i + 1)) (sepOf 5)) = s0 ++ ⟨#[32, 42, 32]⟩ ++ p1) := by
          show _ = _
          rw [HNEW.out, HK4.out, if_neg HI0.out]
          rw [show (false && ((5 : Int) == 5 || i == 0)) = false from by rfl, HBN.out]
        go_wp2_with fail
        refine (HC.out _ (Quiet0.refl _)).mono ?_; rintro e w1 ⟨rfl, hq1⟩
        have f0 := hq1.at e0
        have g0 := hq1.at c0
        have g2 := hq1.at c2
        have HQ1 := Lib.hid (HQ.out.trans hq1)
        clear hq1
        go_wp2_with fail
        go_roundw
        case rel => exact ⟨i + 1, by go_num, by omega, by rw [HEQ.out], HQ1.out⟩
        case measure => simp [intOf]; omega
      · have q0 : ((i : Int) == 0) = true := by subst hi0; rfl
        have q1 : decide ((0 : Int) < (i : Int)) = false := by subst hi0; rfl
        have q2 : ¬ (0 : Int) < (i : Int) := by omega
        clear hi0
        have HEQ : Hid (tb (Lib.join ((pcs 5 ps.texts).take (i + 1)) (sepOf 5)) = s0 ++ (⟨#[40]⟩ ++ p1 ++ ⟨#[41]⟩)) := by
          show _ = _
          rw [HNEW.out, HK4.out, if_pos HI0.out]
          rw [show (true && ((5 : Int) == 5 || i == 0)) = true from by rw [HI0.out]; rfl, HBR.out]; rw [HZ0.out HI0.out]
        go_wp2_with fail
        refine (HC.out _ (Quiet0.refl _)).mono ?_; rintro e w1 ⟨rfl, hq1⟩
        have f0 := hq1.at e0
        have g0 := hq1.at c0
        have g2 := hq1.at c2
        have HQ1 := Lib.hid (HQ.out.trans hq1)
        clear hq1
        go_wp2_with fail
        go_roundw
        case rel => exact ⟨i + 1, by go_num, by omega, by rw [HEQ.out], HQ1.out⟩
        case measure => simp [intOf]; omega
      · have q0 : ((i : Int) == 0) = false := by simp; omega
        have q1 : decide ((0 : Int) < (i : Int)) = true := by simp; omega
        have q2 : (0 : Int) < (i : Int) := by omega
        clear hi0
        have HEQ : Hid (tb (Lib.join ((pcs 5 ps.texts).take (i + 1)) (sepOf 5)) = s0 ++ ⟨#[32, 42, 32]⟩ ++ (⟨#[40]⟩ ++ p1 ++ ⟨#[41]⟩)) := by
          show _ = _
          rw [HNEW.out, HK4.out, if_neg HI0.out]
          rw [show (true && ((5 : Int) == 5 || i == 0)) = true from by rfl, HBR.out]
        go_wp2_with fail
        refine (HC.out _ (Quiet0.refl _)).mono ?_; rintro e w1 ⟨rfl, hq1⟩
        have f0 := hq1.at e0
        have g0 := hq1.at c0
        have g2 := hq1.at c2
        have HQ1 := Lib.hid (HQ.out.trans hq1)
        clear hq1
        go_wp2_with fail
        go_roundw
        case rel => exact ⟨i + 1, by go_num, by omega, by rw [HEQ.out], HQ1.out⟩
        case measure => simp [intOf]; omega
    · have hil : i = len := by omega
      subst hil
      have hlt' : ¬ (i : Int) < i := by omega
      rw [HJ.out]
      go_wp2_with fail
      go_ret
      exact ⟨rfl, HQ0.out.trans HQ.out⟩

set_option maxHeartbeats 4000000 in
set_option maxRecDepth 100000 in
theorem refText_4 (n : Int) (ps : Fo) (ih : ∀ i k' n' qs, ps.get i = some (k', n', qs) → TRefText k' n' qs) : TRefText 4 n ps := by
  intro w o len cap hs hp hr hsz
  have hl : 2 ≤ len ∧ len ≤ 8 := by
    have := hs.1
    simp [Fo.plain] at hp
    omega
  have hl2' : ps.length = 2 := by
    simp [Fo.plain] at hp
    omega
  obtain ⟨hl2, hl8⟩ := hl
  have HS := Lib.hid hs
  have HL := Lib.hid hs.1
  have HR := Lib.hid hr
  have IH := Lib.hid ih
  obtain ⟨sj, hsj⟩ : ∃ s, s = tb (Lib.join (pcs 4 ps.texts) (sepOf 4)) := ⟨_, rfl⟩
  have HB : Hid (∀ i, i ≤ len → (tb (Lib.join ((pcs 4 ps.texts).take i) (sepOf 4))).size ≤ 200000) := by
    intro i hi
    rw [tb_size]
    have h := join_bound (sepOf 4) 18020 ((pcs 4 ps.texts).take i) (fun x hx => by
      have h1 := pcs_mem 4 ps x (List.mem_of_mem_take hx)
      have h2 : (sepOf 4).length = 4 := rfl
      omega)
    have h3 : ((pcs 4 ps.texts).take i).length ≤ 8 := by rw [List.length_take]; omega
    have h4 : ((pcs 4 ps.texts).take i).length * 18020 ≤ 8 * 18020 := Nat.mul_le_mul_right _ h3
    omega
  have HJ : Hid (tb (Lib.join ((pcs 4 ps.texts).take len) (sepOf 4)) = sj) := by
    show _ = _
    rw [List.take_of_length_le (by rw [pcs_len, Fo.texts_length]; exact Nat.le_of_eq hs.1.symm), hsj]
  have hjz : sj.size ≤ 200000 := by have := HB.out len (Nat.le_refl _); rw [HJ.out] at this; exact this
  have HFIN : Hid (sj = tb (txt 4 n ps.texts)) := by
    show _ = _
    rw [hsj, pcs_txt4 n ps.texts (by rw [Fo.texts_length]; exact hl2')]
  have u1 : (⟨#[40]⟩ ++ sj : ByteArray).size = sj.size + 1 := by rw [ByteArray.size_append, Nat.add_comm]; rfl
  rw [← HFIN.out]
  clear hs hp hr ih hsj HFIN hl2'
  unfold tyv
  go_enter Tryd.func18, Tryd.ntmps18
  go_wp2_with fail
  obtain ⟨W0, hW0⟩ : ∃ W0, W0 = w.alloc (.cells #[.int .i64 4, .int .i64 n, .slice o len cap] 24) := ⟨_, rfl⟩
  change Code.wp _ _ _ _ (w.alloc (.cells #[.int .i64 4, .int .i64 n, .slice o len cap] 24))
  have HBB : Hid (∀ W, Quiet0 W0 W → W.cell? ⟨w.heap.size, 0, none⟩ = some (.int .i64 4) ∧ W.cell? ⟨w.heap.size, 2, none⟩ = some (.slice o len cap)) := by
    intro W hq; rw [hW0] at hq
    have := box_cells w 4 n o len cap _ W hq
    exact ⟨this.1, this.2.2⟩
  have HQ0 : Hid (Quiet0 w W0) := by rw [hW0]; exact Quiet0.alloc _ _
  rw [← hW0]
  clear hW0
  generalize w.heap.size = B at *
  go_loopw [4, 5, 6] (fun s t _ wr => ∃ i : Nat, t = .int .i64 i ∧ i ≤ len ∧ s = .string (tb (Lib.join ((pcs 4 ps.texts).take i) (sepOf 4))) ∧ Quiet0 W0 wr) (fun _ t _ _ => len - (intOf t).toNat)
  case atStart => exact ⟨0, rfl, Nat.zero_le _, rfl, Quiet0.refl _⟩
  case round =>
    obtain ⟨i, rfl, hi, rfl, hq⟩ := hrel
    have HQ := Lib.hid hq
    obtain ⟨c0, c2⟩ := HBB.out _ hq
    have hsz0 := HB.out i hi
    by_cases hlt : i < len
    · have hlt' : (i : Int) < len := by omega
      obtain ⟨b, off, k1, n1, qs, o1, len1, cap1, rfl, hd, hg, e0, e1, e2, hs1⟩ := (HS.out.stay (HQ0.out.trans hq)).nth hlt
      have hsq := Fo.size_get ps i k1 n1 qs hg
      obtain ⟨hp1, hr1⟩ := Fo.right_get _ _ _ _ _ HR.out hg
      have HC : Hid (∀ W, Quiet0 wr W → Calls Tryd.prog 18 #[.agg #[.int .i64 k1, .int .i64 n1, .slice o1 len1 cap1]] W fun e w' => e = .returned (.string (tb (txt k1 n1 qs.texts))) ∧ Quiet0 W w') := by
        intro W hq; exact IH.out i k1 n1 qs hg W o1 len1 cap1 (hs1.stay hq) hp1 hr1 (by omega)
      have hpg := pcs_get 4 ps.texts i _ (Fo.texts_get _ _ _ _ _ hg)
      have HNEW : Hid (tb (Lib.join ((pcs 4 ps.texts).take (i + 1)) (sepOf 4)) = (if i = 0 then ⟨#[]⟩ else tb (Lib.join ((pcs 4 ps.texts).take i) (sepOf 4)) ++ ⟨#[32, 45, 62, 32]⟩) ++ tb (brackL (k1 == 4 && ((4 : Int) == 5 || i == 0)) (txt k1 n1 qs.texts))) := by
        show _ = _
        rw [List.take_add_one, hpg]
        show tb (Lib.join (_ ++ [_]) _) = _
        rw [join_snoc, ← tb_app]
        congr 1
        by_cases h0 : i = 0
        · rw [if_pos h0, h0, List.take_zero, if_pos rfl]; rfl
        · rw [if_neg h0, if_neg (by
            intro h
            have := congrArg List.length h
            rw [List.length_take, pcs_len, Fo.texts_length] at this
            have := HL.out
            have h7 : ([] : List (List UInt8)).length = 0 := rfl
            omega), ← tb_app]; rfl
      have hbr : tb (brackL true (txt k1 n1 qs.texts)) = ⟨#[40]⟩ ++ tb (txt k1 n1 qs.texts) ++ ⟨#[41]⟩ := by
        have e : brackL true (txt k1 n1 qs.texts) = [40] ++ txt k1 n1 qs.texts ++ [41] := rfl
        rw [e, ← tb_app, ← tb_app]; rfl
      have hbn : tb (brackL false (txt k1 n1 qs.texts)) = tb (txt k1 n1 qs.texts) := rfl
      have hpz : (tb (txt k1 n1 qs.texts)).size ≤ 20000 := by rw [tb_size]; have := txt_bound k1 n1 qs; omega
      have HZ0 : Hid (i = 0 → (⟨#[]⟩ : ByteArray) = tb (Lib.join ((pcs 4 ps.texts).take i) (sepOf 4))) := by intro h; subst h; rfl
      have HBR := Lib.hid hbr
      have HBN := Lib.hid hbn
      clear hd hg hs1 hsq hp1 hr1 hpg hq hbr hbn
      generalize tb (txt k1 n1 qs.texts) = p1 at *
      generalize tb (Lib.join ((pcs 4 ps.texts).take i) (sepOf 4)) = s0 at *
      have v1 : (⟨#[40]⟩ ++ p1 : ByteArray).size = p1.size + 1 := by rw [ByteArray.size_append, Nat.add_comm]; rfl
      have v2 : (⟨#[40]⟩ ++ p1 ++ ⟨#[41]⟩ : ByteArray).size = p1.size + 2 := by rw [ByteArray.size_append, v1]; rfl
      have v3 : (s0 ++ ⟨#[32, 45, 62, 32]⟩ : ByteArray).size = s0.size + 4 := by rw [ByteArray.size_append]; rfl
      cases hk4 : (k1 == 4)
      all_goals
        have HK4 := Lib.hid hk4
        by_cases hi0 : i = 0
      all_goals
        have HI0 := Lib.hid hi0
      · have q0 : ((i : Int) == 0) = true := by subst hi0; rfl
        have q1 : decide ((0 : Int) < (i : Int)) = false := by subst hi0; rfl
        have q2 : ¬ (0 : Int) < (i : Int) := by omega
        clear hi0
        have HEQ : Hid (tb (Lib.join ((pcs 4 ps.texts).take (i + 1)) (sepOf 4)) = s0 ++ p1) := by
          show _ = _
          rw [HNEW.out, HK4.out, if_pos HI0.out]
          rw [show (false && ((4 : Int) == 5 || i == 0)) = false from by rw [HI0.out]; rfl, HBN.out]; rw [HZ0.out HI0.out]
        go_wp2_with fail
        refine (HC.out _ (Quiet0.refl _)).mono ?_; rintro e w1 ⟨rfl, hq1⟩
        have f0 := hq1.at e0
        have g0 := hq1.at c0
        have g2 := hq1.at c2
        have HQ1 := Lib.hid (HQ.out.trans hq1)
        clear hq1
        go_wp2_with fail
        go_roundw
        case rel => exact ⟨i + 1, by go_num, by omega, by rw [HEQ.out], HQ1.out⟩
        case measure => simp [intOf]; omega
      · have q0 : ((i : Int) == 0) = false := by simp; omega
        have q1 : decide ((0 : Int) < (i : Int)) = true := by simp; omega
        have q2 : (0 : Int) < (i : Int) := by omega
        clear hi0
        have HEQ : Hid (tb (Lib.join ((pcs 4 ps.texts).take (i + 1)) (sepOf 4)) = s0 ++ ⟨#[32, 45, 62, 32]⟩ ++ p1) := by
          show _ = _
          rw [HNEW.out, HK4.out, if_neg HI0.out]
          rw [show (false && ((4 : Int) == 5 || i == 0)) = false from by rfl, HBN.out]
        go_wp2_with fail
        refine (HC.out _ (Quiet0.refl _)).mono ?_; rintro e w1 ⟨rfl, hq1⟩
        have f0 := hq1.at e0
        have g0 := hq1.at c0
        have g2 := hq1.at c2
        have HQ1 := Lib.hid (HQ.out.trans hq1)
        clear hq1
        go_wp2_with fail
        go_roundw
        case rel => exact ⟨i + 1, by go_num, by omega, by rw [HEQ.out], HQ1.out⟩
        case measure => simp [intOf]; omega
      · have q0 : ((i : Int) == 0) = true := by subst hi0; rfl
        have q1 : decide ((0 : Int) < (i : Int)) = false := by subst hi0; rfl
        have q2 : ¬ (0 : Int) < (i : Int) := by omega
        clear hi0
        have HEQ : Hid (tb (Lib.join ((pcs 4 ps.texts).take (i + 1)) (sepOf 4)) = s0 ++ (⟨#[40]⟩ ++ p1 ++ ⟨#[41]⟩)) := by
          show _ = _
          rw [HNEW.out, HK4.out, if_pos HI0.out]
          rw [show (true && ((4 : Int) == 5 || i == 0)) = true from by rw [HI0.out]; rfl, HBR.out]; rw [HZ0.out HI0.out]
        go_wp2_with fail
        refine (HC.out _ (Quiet0.refl _)).mono ?_; rintro e w1 ⟨rfl, hq1⟩
        have f0 := hq1.at e0
        have g0 := hq1.at c0
        have g2 := hq1.at c2
        have HQ1 := Lib.hid (HQ.out.trans hq1)
        clear hq1
        go_wp2_with fail
        go_roundw
        case rel => exact ⟨i + 1, by go_num, by omega, by rw [HEQ.out], HQ1.out⟩
        case measure => simp [intOf]; omega
      · have q0 : ((i : Int) == 0) = false := by simp; omega
        have q1 : decide ((0 : Int) < (i : Int)) = true := by simp; omega
        have q2 : (0 : Int) < (i : Int) := by omega
        clear hi0
        have HEQ : Hid (tb (Lib.join ((pcs 4 ps.texts).take (i + 1)) (sepOf 4)) = s0 ++ ⟨#[32, 45, 62, 32]⟩ ++ p1) := by
          show _ = _
          rw [HNEW.out, HK4.out, if_neg HI0.out]
          rw [show (true && ((4 : Int) == 5 || i == 0)) = false from by have := HI0.out; simp; omega, HBN.out]
        go_wp2_with fail
        refine (HC.out _ (Quiet0.refl _)).mono ?_; rintro e w1 ⟨rfl, hq1⟩
        have f0 := hq1.at e0
        have g0 := hq1.at c0
        have g2 := hq1.at c2
        have HQ1 := Lib.hid (HQ.out.trans hq1)
        clear hq1
        go_wp2_with fail
        go_roundw
        case rel => exact ⟨i + 1, by go_num, by omega, by rw [HEQ.out], HQ1.out⟩
        case measure => simp [intOf]; omega
    · have hil : i = len := by omega
      subst hil
      have hlt' : ¬ (i : Int) < i := by omega
      rw [HJ.out]
      go_wp2_with fail
      go_ret
      exact ⟨rfl, HQ0.out.trans HQ.out⟩
theorem refText_any (k n : Int) (ps : Fo) : TRefText k n ps := by
  refine Fo.ind' (T := TRefText) ?_ k n ps
  intro k n ps ih
  by_cases h : k = 1 ∨ k = 2 ∨ k = 3
  · exact refText_123 k n ps h
  · by_cases h4 : k = 4
    · subst h4; exact refText_4 n ps ih
    · by_cases h5 : k = 5
      · subst h5; exact refText_5 n ps ih
      · intro w o len cap hs hp
        exfalso
        have q1 : ¬ k = 1 := fun e => h (.inl e)
        have q2 : ¬ k = 2 := fun e => h (.inr (.inl e))
        have q3 : ¬ k = 3 := fun e => h (.inr (.inr e))
        simp [Fo.plain, q1, q2, q3, h4, h5] at hp
end Go.Proofs.YtggidhgifaekbaaDoor
