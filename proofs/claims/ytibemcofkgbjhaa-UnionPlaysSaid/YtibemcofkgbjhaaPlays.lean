/-
  UnionPlays, the walk: it returns true and turns nothing that was there. Conditions: the calls' cells are as told, at most 80 of them.
-/
import Derived.Test.YtibemcofkgbjhaaPlay2
import Derived.Deep.CutBlock
import Derived.Deep.RegionHeld3
namespace Go.Proofs.Ytibemcofkgbjhaa
open Go.RowKit

set_option maxRecDepth 1000000 in
set_option maxHeartbeats 40000000 in
theorem unionPlays_walk (N : Nat) (o : Option Addr) (len cap : Nat) (K : Nat → Nat) (A B : Nat → Int) (w : World) (hN : N ≤ 255) (hl : OpsAt w o len K A B) (hlen : len ≤ 80) :
    Calls Try.prog 6 #[.int .u8 N, .slice o len cap] w fun e w' => e = .returned (.bool true) ∧ Quiet0 w w' := by
  have H1 := Lib.hid hl
  clear hl
  have g1 : ¬ 80 < len := by omega
  go_enter Try.func6, Try.ntmps6
  go_wp2_with fail
  obtain ⟨m, hm⟩ : ∃ m : Nat, m = N % 20 := ⟨_, rfl⟩
  have hmc : ((N : Int) % 20) = (m : Int) := by omega
  have hm20 : m < 20 := by omega
  have HMC := Lib.hid hmc
  rw [hmc]
  clear hmc hm
  refine (new_any m _ (by omega)).mono ?_; rintro e w1 ⟨rfl, uv, rv, hF, hfr1, hu, hr⟩
  have HF : Hid (FG w1 w.heap.size uv rv m (fun x => x) m 0) := ⟨_, _, by simp, hF, wood_new m⟩
  have HU := Lib.hid hu
  have HR := Lib.hid hr
  have hlt1 := HF.out.lts
  clear hF hu hr
  go_wp2_with fail
  rw [HMC.out]
  refine (refNew m _ (by omega)).mono ?_; rintro e w2 ⟨v0, rfl, hI, hfr2, hb2⟩
  have hw1 : w.heap.size ≤ w1.heap.size := hfr1.size
  have HB0 : Hid (Both w2 w.heap.size w.heap.size m (fun x => x) m 0 v0 (List.range m)) := by
    refine ⟨⟨uv, rv, HF.out.fr hfr2 (fun _ _ h => h), ?_, ?_⟩, hI, Agree.start m, ?_, ?_⟩
    · rintro k (rfl | hk | hk)
      · exact Nat.le_refl _
      · have := HU.out k hk; omega
      · have := HR.out k hk; omega
    · intro k hk hS; have := hlt1 k hS; have := hb2 k hk; omega
    · intro x hx; simp [hx]; omega
    · intro k hk; have := hb2 k hk; omega
  have hfr := hfr1.trans hfr2
  obtain ⟨vo, vc, hv⟩ := hI.form
  rw [List.length_range] at hv
  subst hv
  clear hI hb2 HF HU HR hlt1 hfr1 hfr2 hw1
  go_wp2_with fail
  generalize hfb : w.heap.size = fb at *
  have HFB := Lib.hid hfb
  clear hfb
  go_loopw [4, 7, 8, 9, 10] (fun _ v tc tw t wr => ∃ i n R sets st xs calls was, i ≤ len ∧ t = .int .i64 (i : Nat) ∧ n ≤ 19 + i ∧ Both wr fb fb n R sets st v xs ∧ tc = .int .i64 (calls : Nat) ∧ 1 ≤ calls ∧ calls ≤ 1 + 102 * i ∧ tw = .int .i64 (was : Nat) ∧ was ≤ st ∧ st ≤ calls * (4 * digs n + 8) ∧ Fr (fun _ => False) w wr) (fun _ _ _ _ t _ => len - (intOf t).toNat)
  case atStart => exact ⟨0, m, _, m, 0, _, 1, 0, Nat.zero_le _, rfl, by omega, HB0.out, rfl, by omega, by omega, rfl, by omega, by omega, hfr⟩
  case round =>
    obtain ⟨i, n, R, sets, st, xs, calls, was, hi, rfl, hn, hB, rfl, hc0, hc, rfl, hws, hst, hfr2⟩ := hrel
    have HB := Lib.hid hB
    have HST := Lib.hid hst
    clear hB hst
    by_cases hlt : i < len
    · obtain ⟨b, off, rfl, ck, ca, cb, hk⟩ := H1.out.fr hfr2 i hlt
      obtain ⟨vo2, vc2, hv⟩ := HB.out.row.form
      rw [HB.out.agree.1] at hv
      subst hv
      go_upto_block 2 with (fail)
      have HW : Hid (Fr (fun _ => False) wr (wr.alloc (.cells #[.int .u8 (K i), .int .i64 (A i), .int .i64 (B i)] 47))) := Fr.alloc _ _ _
      have HB1 := Lib.hid (HB.out.fr HW.out (fun _ _ h => h.elim))
      obtain ⟨uv1, rv1, hG0, hS, hD⟩ := HB.out.forest
      have hxb : Hid (∀ k, SG fb uv1 rv1 k → k < wr.heap.size) := hG0.lts
      have HG := Lib.hid (hG0.fr HW.out (fun _ _ h => h))
      have HSS := Lib.hid hS
      have HDD := Lib.hid hD
      obtain ⟨oo, cc, _, _, hnn⟩ := hG0.form
      clear hG0 hS hD
      have hfr3 := hfr2.trans HW.out
      have k0 : (wr.alloc (.cells #[.int .u8 (K i), .int .i64 (A i), .int .i64 (B i)] 47)).cell? ⟨wr.heap.size, 0, none⟩ = some (.int .u8 (K i)) := by unfold World.cell?; rw [heap_alloc_new]; rfl
      have k1 : (wr.alloc (.cells #[.int .u8 (K i), .int .i64 (A i), .int .i64 (B i)] 47)).cell? ⟨wr.heap.size, 1, none⟩ = some (.int .i64 (A i)) := by unfold World.cell?; rw [heap_alloc_new]; rfl
      have k2 : (wr.alloc (.cells #[.int .u8 (K i), .int .i64 (A i), .int .i64 (B i)] 47)).cell? ⟨wr.heap.size, 2, none⟩ = some (.int .i64 (B i)) := by unfold World.cell?; rw [heap_alloc_new]; rfl
      have kl : wr.heap.size < (wr.alloc (.cells #[.int .u8 (K i), .int .i64 (A i), .int .i64 (B i)] 47)).heap.size := by simp
      have kfb : fb ≤ wr.heap.size := by have := hfr2.size; have := HFB.out; omega
      clear ck ca cb HB HW hfr2
      generalize wr.alloc (.cells #[.int .u8 (K i), .int .i64 (A i), .int .i64 (B i)] 47) = W at *
      generalize wr.heap.size = xb at *
      generalize K i = kk at *
      generalize A i = aa at *
      generalize B i = bb at *
      go_cut [4, 7, 8] (fun _ v tc wx => ∃ n' R' sets' st' xs' calls', n' ≤ 20 + i ∧ Both wx fb fb n' R' sets' st' v xs' ∧ tc = .int .i64 (calls' : Nat) ∧ 1 ≤ calls' ∧ calls' ≤ 1 + 102 * (i + 1) ∧ was ≤ st' ∧ st' ≤ calls' * (4 * digs n' + 8) ∧ Fr (fun _ => False) w wx)
      case first =>
        by_cases hk0 : kk = 0
        · as_aux_lemma =>
            subst hk0
            go_wp2_with fail
            refine (add_g fb uv1 rv1 n R sets st _ HG.out (by omega)).mono ?_
            rintro e w3 ⟨rfl, uv2, rv2, sets2, hG2, hS2, hf2⟩
            have hrow3 := HB1.out.row.fr hf2 (fun k hk => HDD.out k hk)
            have hfr5 := hfr3.trans' hf2 (fun k h1 h2 => by have := HSS.out k h2; have := HFB.out; omega)
            have hR3 : Hid ((w3.alloc (.cells #[] 3)).ownsRow 0 3 1 (.slice vo2 n vc2) n (iv xs)) := by
              have := hrow3.own; rw [HB1.out.agree.1] at this; exact this.alloc _
            have hwW : W.heap.size ≤ w3.heap.size := hf2.size
            have HG2 := Lib.hid hG2
            have HS2 := Lib.hid hS2
            have hE3 : Hid ((w3.alloc (.cells #[] 3)).ownsRow 0 3 1 (.slice (some ⟨w3.heap.size, 0, none⟩) 0 0) 0 []) := World.ownsRow_lit w3 #[] 0 (Nat.zero_le _) (by simp [maxLen]) rfl
            have hlv : Hid (∀ k, (Value.slice vo2 n vc2).ownBlock = some k → k < w3.heap.size) := fun k hk => hrow3.lt k hk
            clear hG2 hS2 hrow3 hf2
            go_wp2_with (first | (at_builtin; refine wpList_append_row _ rfl (.tmp 73) (.tmp 74) 38 rfl 3 (.int .i64 0) 1 8 elem38 _ _ _ _ rfl hE3.out _ _ _ rfl hR3.out (by intro u hu; simp [iv] at hu; obtain ⟨y, _, rfl⟩ := hu; rfl) (by unfold maxLen; omega) (by omega) ?_; intro g4 c4 w4 ho4 hf4 hg4; simp only [Nat.zero_add, List.nil_append] at ho4) | (at_builtin; refine wpList_append_one _ rfl (.tmp 75) (.tmp 79) 38 rfl 3 (.int .i64 0) 1 8 elem38 _ _ _ rfl ho4 #[.int .i64 (n + 1000)] rfl rfl (by intro u hu; simp at hu; subst hu; rfl) (by unfold maxLen; omega) (by omega) ?_; intro g5 c5 w5 ho5 hf5 hg5))
            go_meet
            have hz4 : w3.heap.size + 1 ≤ w4.heap.size := by simpa using hf4.size
            have hF2l := HG2.out.lts
            have hg4' : w3.heap.size ≤ g4 := by
              rcases hg4 with h | h
              · omega
              · simp at h; omega
            have hf5' : Fr (fun k => (Value.slice (some ⟨g4, 0, none⟩) n c4).ownBlock = some k) w4 w5 := hf5
            have hg5x : (Value.slice (some ⟨g4, 0, none⟩) n c4).ownBlock = some g5 ∨ w4.heap.size ≤ g5 := hg5
            have hg5' : w3.heap.size ≤ g5 := by
              rcases hg5x with h | h
              · simp [Value.ownBlock] at h; omega
              · omega
            have hFG : FG w5 fb uv2 rv2 (n + 1) (addR R n) sets2 st :=
              ((HG2.out.fr (Fr.alloc (fun _ => False) w3 (.cells #[] 3)) (fun _ _ h => h)).fr hf4 (fun k hk h => by have := hF2l k hk; omega)).fr hf5' (fun k hk h => by have := hF2l k hk; simp [Value.ownBlock] at h; omega)
            have hfr6 : Fr (fun _ => False) w w5 :=
              ((hfr5.trans (Fr.alloc _ _ _)).trans' hf4 (fun k h1 h2 => by have := hfr5.size; omega)).trans' hf5' (fun k h1 h2 => by have := hfr5.size; simp [Value.ownBlock] at h2; omega)
            refine ⟨n + 1, addR R n, sets2, st, xs ++ [n + 1000], calls, by omega, ⟨⟨uv2, rv2, hFG, ?_, ?_⟩, ?_, ?_, low_add HB1.out.agree.1 HB1.out.low, ?_⟩, rfl, hc0, by omega, by omega, ?_, hfr6⟩
            · intro k hk
              rcases HS2.out k hk with h | h
              · exact HSS.out k h
              · omega
            · intro k hk hS; simp [Value.ownBlock] at hk; have := hF2l k hS; omega
            · unfold IRow
              rw [List.length_append, HB1.out.agree.1, show iv (xs ++ [n + 1000]) = iv xs ++ [.int .i64 ((n : Int) + 1000)] from by simp [iv]]
              exact ho5
            · exact HB1.out.agree.add HB1.out.low (fun x hx => (HG.out.root hx).1)
            · intro k hk; simp [Value.ownBlock] at hk; omega
            · exact Nat.le_trans HST.out (Nat.mul_le_mul_left _ (by have := digs_mono (a := n) (b := n + 1) (by omega); omega))
        · have hlog : Hid (4 * Nat.log2 n + 4 ≤ 4 * digs n + 8) := by have := log_digs n; show _ ≤ _; omega
          have hdl := digs_le n
          have hst3 : st ≤ 8162 * 408 := Nat.le_trans HST.out (Nat.mul_le_mul (by omega) (by omega))
          have hxl : Hid (xs.length = n) := HB1.out.agree.1
          have hx1 : Hid (xs.length ≤ 100000) := by have := hxl.out; show _ ≤ _; omega
          have hstep : Hid (∀ d, d ≤ 4 * digs n + 8 → st + d ≤ (calls + 1) * (4 * digs n + 8)) := by
            intro d hd
            have h5 := HST.out
            rw [Nat.succ_mul calls (4 * digs n + 8)]
            omega
          have hin : Hid (∀ i : Int, decide (0 ≤ i ∧ i < (n : Int)) = inN n i) := fun i => rfl
          have hsame : Hid (∀ (i : Int) (k : Nat), k < n → (inB xs i && xs.getD i.toNat 0 == xs.getD k 0) = (inN n i && (R i.toNat == R k))) := by
            intro i k hk
            unfold inB inN
            rw [hxl.out]
            by_cases hi : 0 ≤ i ∧ i < (n : Int)
            · have e : decide (0 ≤ i ∧ i < (n : Int)) = true := by simp [hi]
              rw [e, Bool.true_and, Bool.true_and, Bool.eq_iff_iff, beq_iff_eq, beq_iff_eq]
              exact HB1.out.agree.2 i.toNat k (by omega) hk
            · have e : decide (0 ≤ i ∧ i < (n : Int)) = false := by simp; omega
              rw [e, Bool.false_and, Bool.false_and]
          have hn100 : n ≤ 100 := by omega
          by_cases hk1 : kk = 1
          · as_aux_lemma =>
              subst hk1
              clear hk0
              by_cases hab : inN n aa = true ∧ inN n bb = true
              · obtain ⟨ia, ib⟩ := hab
                obtain ⟨a, rfl, ha⟩ := inN_yes ia
                obtain ⟨b', rfl, hb⟩ := inN_yes ib
                have IA := Lib.hid ia
                have IB := Lib.hid ib
                clear ia ib
                go_wp2_with fail
                refine (join_in fb uv1 rv1 n R sets st _ HG.out a b' ha hb (by have := hlog.out; omega)).mono ?_
                rintro e w3 ⟨x, y, sets3, hp, rfl, uv3, rv3, st3, hG3, hS3, h3a, h3b, hf3⟩
                have f1 := (hf3.cellb (b := xb) (off := 1) kl (fun h => by have := hxb.out xb h; omega)).trans k1
                have f2 := (hf3.cellb (b := xb) (off := 2) kl (fun h => by have := hxb.out xb h; omega)).trans k2
                have hrow3 := Lib.hid (HB1.out.row.fr hf3 (fun k hk => HDD.out k hk))
                have hfr5 := hfr3.trans' hf3 (fun k h1 h2 => by have := HSS.out k h2; have := HFB.out; omega)
                have hag3 := Lib.hid (HB1.out.agree.join ha hb hp)
                have hw3s : W.heap.size ≤ w3.heap.size := hf3.size
                have hfx : Hid (x < n ∧ joined R x y x = joined R x y a) := by
                  have ra := HG.out.root ha
                  have rb := HG.out.root hb
                  unfold joined
                  rcases hp with ⟨rfl, rfl⟩ | ⟨rfl, rfl⟩
                  · refine ⟨ra.1, ?_⟩; rw [ra.2]
                  · refine ⟨rb.1, ?_⟩; rw [rb.2, if_pos rfl]; split <;> rfl
                have HG3 := Lib.hid hG3
                have HS3 := Lib.hid hS3
                have hl3 := HG3.out.lts
                clear hp hG3 hS3 hf3 k1 k2 k0
                go_wp2_with fail
                refine (refIn_b vo2 n vc2 a _ true (by omega) IA.out).mono ?_; rintro e w4 ⟨rfl, rfl⟩
                go_wp2_with fail
                refine (refIn_b vo2 n vc2 b' _ true (by omega) IB.out).mono ?_; rintro e w4 ⟨rfl, rfl⟩
                go_wp2_with fail
                refine (refSame _ xs a b' _ hrow3.out hx1.out (by rw [hxl.out]; exact hb)).mono ?_; rintro e w4 ⟨rfl, nq, rfl⟩
                rw [hsame.out a b' hb, IA.out, Bool.true_and, Int.toNat_natCast]
                have hrow4 : Hid (IRow (w3.drewN nq) (.slice vo2 n vc2) xs) := hrow3.out
                have f1' : (w3.drewN nq).cell? ⟨xb, 1, none⟩ = some (.int .i64 a) := f1
                have f2' : (w3.drewN nq).cell? ⟨xb, 2, none⟩ = some (.int .i64 b') := f2
                have HG4 : Hid (FG (w3.drewN nq) fb uv3 rv3 n (joined R x y) sets3 st3) := HG3.out.fr (Fr.drewN (fun _ => False) _ nq) (fun _ _ h => h)
                have hfr6 := hfr5.trans (Fr.drewN _ _ nq)
                have hl4 : ∀ k, SG fb uv3 rv3 k → k < (w3.drewN nq).heap.size := hl3
                have hx4 : xb < (w3.drewN nq).heap.size := World.block_lt_of_cell? _ _ f1'
                have hw4s : fb ≤ (w3.drewN nq).heap.size := by omega
                clear f1 f2 HG3 hfr5 hrow3
                generalize w3.drewN nq = w4 at *
                generalize (R a == R b') = tt
                cases tt
                all_goals
                  go_wp2_with fail
                  refine (refJoin _ xs a b' _ hrow4.out hx1.out (by rw [hxl.out]; exact ha) (by rw [hxl.out]; exact hb)).mono ?_
                  rintro e w5 ⟨v5, rfl, hI5, hf5, hb5⟩
                  have f1'' := (hf5.cellb (b := xb) (off := 1) hx4 (fun h => h)).trans f1'
                  have HI5 := Lib.hid hI5
                  have HG5 := Lib.hid (HG4.out.fr hf5 (fun _ _ h => h))
                  have HB5 := Lib.hid hb5
                  have hfr7 := hfr6.trans hf5
                  clear hI5 hb5 hf5
                  go_wp2_with fail
                  refine (refSame v5 _ x a _ HI5.out (by simpa using hx1.out) (by simp; rw [hxl.out]; exact ha)).mono ?_; rintro e w6 ⟨rfl, nq2, rfl⟩
                  have hfin : (inB (xs.map (jcol xs a b')) (x : Int) && (xs.map (jcol xs a b')).getD (x : Int).toNat 0 == (xs.map (jcol xs a b')).getD a 0) = true := by
                    have h1 := hfx.out
                    have hl := hag3.out.1
                    have e1 : inB (xs.map (jcol xs a b')) (x : Int) = true := by unfold inB; rw [hl]; simp; omega
                    rw [e1, Bool.true_and, Int.toNat_natCast, beq_iff_eq]
                    exact (hag3.out.2 x a h1.1 ha).2 h1.2
                  rw [hfin]
                  clear hfin
                  go_wp2_with fail
                  go_meet
                  refine ⟨n, joined R x y, sets3, st3, _, calls + 1, by omega, ⟨⟨uv3, rv3, HG5.out.fr (Fr.drewN (fun _ => False) _ nq2) (fun _ _ h => h), fun k hk => HSS.out k (HS3.out k hk), fun k hk hS => ?_⟩, HI5.out.fr (Fr.drewN (fun _ => False) _ nq2) (fun _ _ h => h), hag3.out, low_join hxl.out ha HB1.out.low, fun k hk => ?_⟩, by go_num, by omega, by omega, by omega, ?_, hfr7.trans (Fr.drewN _ _ nq2)⟩
                  · have := HB5.out k hk; have := hl4 k hS; omega
                  · have := HB5.out k hk; omega
                  · exact Nat.le_trans (by omega) (hstep.out (4 * Nat.log2 n + 4) hlog.out)
              · by_cases ia : inN n aa = true
                · have ib : inN n bb = false := (Bool.not_eq_true _).mp (fun h => hab ⟨ia, h⟩)
                  have IA := Lib.hid ia
                  have IB := Lib.hid ib
                  clear hab ia ib
                  go_wp2_with fail
                  refine (join_out fb uv1 rv1 n R sets st _ HG.out aa bb (.inr IB.out)).mono ?_; rintro e w3 ⟨rfl, rfl⟩
                  go_wp2_with fail
                  refine (refIn_b vo2 n vc2 aa _ true (by omega) IA.out).mono ?_; rintro e w3 ⟨rfl, rfl⟩
                  go_wp2_with fail
                  refine (refIn_b vo2 n vc2 bb _ false (by omega) IB.out).mono ?_; rintro e w3 ⟨rfl, rfl⟩
                  go_wp2
                  go_roundw
                  case rel => exact ⟨i + 1, n, R, sets, st, xs, calls + 1, was, by omega, by go_num, by omega, HB1.out, by go_num, by omega, by omega, rfl, hws, hstep.out 0 (by omega), hfr3⟩
                  case measure => simp [intOf]; omega
                · have ia' : inN n aa = false := (Bool.not_eq_true _).mp ia
                  have IA := Lib.hid ia'
                  clear hab ia ia'
                  go_wp2_with fail
                  refine (join_out fb uv1 rv1 n R sets st _ HG.out aa bb (.inl IA.out)).mono ?_; rintro e w3 ⟨rfl, rfl⟩
                  go_wp2_with fail
                  refine (refIn_b vo2 n vc2 aa _ false (by omega) IA.out).mono ?_; rintro e w3 ⟨rfl, rfl⟩
                  go_wp2
                  go_roundw
                  case rel => exact ⟨i + 1, n, R, sets, st, xs, calls + 1, was, by omega, by go_num, by omega, HB1.out, by go_num, by omega, by omega, rfl, hws, hstep.out 0 (by omega), hfr3⟩
                  case measure => simp [intOf]; omega
          · by_cases hk2 : kk = 2
            · as_aux_lemma =>
                subst hk2
                clear hk0 hk1 k0
                by_cases ia : inN n aa = true
                · obtain ⟨a, rfl, ha⟩ := inN_yes ia
                  have IA := Lib.hid ia
                  clear ia
                  have hra : Hid ((inB xs ((R a : Nat) : Int) && xs.getD ((R a : Nat) : Int).toNat 0 == xs.getD a 0) = true) := by
                    show _ = _
                    rw [hsame.out _ a ha, Int.toNat_natCast]
                    have r1 := HG.out.root ha
                    have e : inN n ((R a : Nat) : Int) = true := by unfold inN; simp; omega
                    rw [e, r1.2]; simp
                  have hran : R a < n := (HG.out.root ha).1
                  go_wp2_with fail
                  refine (root_in fb uv1 rv1 n R sets st _ HG.out a ha (by have := hlog.out; omega)).mono ?_
                  rintro e w3 ⟨rfl, uv3, rv3, st3, hG3, hS3, h3a, h3b, hf3⟩
                  have f1 := (hf3.cellb (b := xb) (off := 1) kl (fun h => by have := hxb.out xb h; omega)).trans k1
                  have f2 := (hf3.cellb (b := xb) (off := 2) kl (fun h => by have := hxb.out xb h; omega)).trans k2
                  have hrow3 := Lib.hid (HB1.out.row.fr hf3 (fun k hk => HDD.out k hk))
                  have hfr5 := hfr3.trans' hf3 (fun k h1 h2 => by have := HSS.out k h2; have := HFB.out; omega)
                  have hl3 := World.block_lt_of_cell? _ _ f1
                  have HG3 := Lib.hid hG3
                  have HS3 := Lib.hid hS3
                  clear hG3 hS3 hf3 k1 k2
                  by_cases ib : inN n bb = true
                  · obtain ⟨b', rfl, hb⟩ := inN_yes ib
                    have IB := Lib.hid ib
                    clear ib
                    go_wp2_with fail
                    refine (root_in fb uv3 rv3 n R sets st3 _ HG3.out b' hb (by have := hlog.out; omega)).mono ?_
                    rintro e w4 ⟨rfl, uv4, rv4, st4, hG4, hS4, h4a, h4b, hf4⟩
                    have f1' := (hf4.cellb (b := xb) (off := 1) hl3 (fun h => by have := hxb.out xb (HS3.out xb h); omega)).trans f1
                    have f2' := (hf4.cellb (b := xb) (off := 2) hl3 (fun h => by have := hxb.out xb (HS3.out xb h); omega)).trans f2
                    have hrow4 := Lib.hid (hrow3.out.fr hf4 (fun k hk hS => HDD.out k hk (HS3.out k hS)))
                    have hfr6 := hfr5.trans' hf4 (fun k h1 h2 => by have := HSS.out k (HS3.out k h2); have := HFB.out; omega)
                    have HG4 := Lib.hid hG4
                    have HS4 := Lib.hid hS4
                    clear hG4 hS4 hf4 f1 f2 HG3 hrow3 hfr5
                    go_wp2_with fail
                    refine (refIn_b vo2 n vc2 a _ true (by omega) IA.out).mono ?_; rintro e w5 ⟨rfl, rfl⟩
                    go_wp2_with fail
                    refine (refIn_b vo2 n vc2 b' _ true (by omega) IB.out).mono ?_; rintro e w5 ⟨rfl, rfl⟩
                    go_wp2_with fail
                    refine (refSame _ xs (R a : Nat) a _ hrow4.out hx1.out (by rw [hxl.out]; exact ha)).mono ?_; rintro e w5 ⟨rfl, nq, rfl⟩
                    rw [hra.out]
                    have hrow5 : Hid (IRow (w4.drewN nq) (.slice vo2 n vc2) xs) := hrow4.out
                    have f1'' : (w4.drewN nq).cell? ⟨xb, 1, none⟩ = some (.int .i64 a) := f1'
                    have f2'' : (w4.drewN nq).cell? ⟨xb, 2, none⟩ = some (.int .i64 b') := f2'
                    have HG5 := Lib.hid (HG4.out.fr (Fr.drewN (fun _ => False) w4 nq) (fun _ _ h => h))
                    have hfr7 := hfr6.trans (Fr.drewN _ _ nq)
                    clear f1' f2' hrow4 HG4 hfr6
                    generalize w4.drewN nq = w5 at *
                    have hs2 : Hid ((inB xs (a : Int) && xs.getD (a : Int).toNat 0 == xs.getD b' 0) = (R a == R b')) := by
                      show _ = _
                      rw [hsame.out a b' hb, IA.out, Bool.true_and, Int.toNat_natCast]
                    have hbe := beq_nat_int (R a) (R b')
                    generalize hra2 : R a = ra at *
                    generalize hrb2 : R b' = rb at *
                    have HRA := Lib.hid hra2
                    have HRB := Lib.hid hrb2
                    clear hra2 hrb2
                    have HBE := Lib.hid hbe
                    clear hbe
                    by_cases hab : ra = rb
                    · have hbb := beq_cast _ _ hab
                      have htt : Hid ((ra == rb) = true) := by show _ = _; simp [hab]
                      clear hab
                      go_wp2_with fail
                      refine (refSame _ xs a b' _ hrow5.out hx1.out (by rw [hxl.out]; exact hb)).mono ?_; rintro e w6 ⟨rfl, nq2, rfl⟩
                      rw [hs2.out, htt.out]
                      go_wp2_with fail
                      go_meet
                      refine ⟨n, R, sets, st4, xs, calls + 2, by omega, ⟨⟨uv4, rv4, HG5.out.fr (Fr.drewN (fun _ => False) _ nq2) (fun _ _ h => h), fun k hk => HSS.out k (HS3.out k (HS4.out k hk)), fun k hk hS => HDD.out k hk (HS3.out k (HS4.out k hS))⟩, hrow5.out.fr (Fr.drewN (fun _ => False) _ nq2) (fun _ _ h => h), HB1.out.agree, HB1.out.low, HB1.out.blk⟩, by go_num, by omega, by omega, by omega, ?_, hfr7.trans (Fr.drewN _ _ nq2)⟩
                      exact Nat.le_trans (by omega) (Nat.le_trans (hstep.out (4 * Nat.log2 n + 4) hlog.out) (Nat.mul_le_mul_right _ (by omega)))
                    · have hbb := beq_cast_ne _ _ hab
                      have htt : Hid ((ra == rb) = false) := by show _ = _; simp [hab]
                      clear hab
                      go_wp2_with fail
                      refine (refSame _ xs a b' _ hrow5.out hx1.out (by rw [hxl.out]; exact hb)).mono ?_; rintro e w6 ⟨rfl, nq2, rfl⟩
                      rw [hs2.out, htt.out]
                      go_wp2_with fail
                      go_meet
                      refine ⟨n, R, sets, st4, xs, calls + 2, by omega, ⟨⟨uv4, rv4, HG5.out.fr (Fr.drewN (fun _ => False) _ nq2) (fun _ _ h => h), fun k hk => HSS.out k (HS3.out k (HS4.out k hk)), fun k hk hS => HDD.out k hk (HS3.out k (HS4.out k hS))⟩, hrow5.out.fr (Fr.drewN (fun _ => False) _ nq2) (fun _ _ h => h), HB1.out.agree, HB1.out.low, HB1.out.blk⟩, by go_num, by omega, by omega, by omega, ?_, hfr7.trans (Fr.drewN _ _ nq2)⟩
                      exact Nat.le_trans (by omega) (Nat.le_trans (hstep.out (4 * Nat.log2 n + 4) hlog.out) (Nat.mul_le_mul_right _ (by omega)))
                  · have IB : Hid (inN n bb = false) := (Bool.not_eq_true _).mp ib
                    clear ib
                    go_wp2_with fail
                    refine (root_out fb uv3 rv3 n R sets st3 _ HG3.out bb IB.out).mono ?_; rintro e w4 ⟨rfl, rfl⟩
                    go_wp2_with fail
                    refine (refIn_b vo2 n vc2 a _ true (by omega) IA.out).mono ?_; rintro e w5 ⟨rfl, rfl⟩
                    go_wp2_with fail
                    refine (refIn_b vo2 n vc2 bb _ false (by omega) IB.out).mono ?_; rintro e w5 ⟨rfl, rfl⟩
                    go_wp2_with fail
                    refine (refSame _ xs (R a : Nat) a _ hrow3.out hx1.out (by rw [hxl.out]; exact ha)).mono ?_; rintro e w5 ⟨rfl, nq, rfl⟩
                    rw [hra.out]
                    go_wp2_with fail
                    go_meet
                    refine ⟨n, R, sets, st3, xs, calls + 2, by omega, ⟨⟨uv3, rv3, HG3.out.fr (Fr.drewN (fun _ => False) _ nq) (fun _ _ h => h), fun k hk => HSS.out k (HS3.out k hk), fun k hk hS => HDD.out k hk (HS3.out k hS)⟩, hrow3.out.fr (Fr.drewN (fun _ => False) _ nq) (fun _ _ h => h), HB1.out.agree, HB1.out.low, HB1.out.blk⟩, by go_num, by omega, by omega, by omega, ?_, hfr5.trans (Fr.drewN _ _ nq)⟩
                    exact Nat.le_trans (by omega) (Nat.le_trans (hstep.out (4 * Nat.log2 n + 4) hlog.out) (Nat.mul_le_mul_right _ (by omega)))
                · have IA : Hid (inN n aa = false) := (Bool.not_eq_true _).mp ia
                  clear ia
                  go_wp2_with fail
                  refine (root_out fb uv1 rv1 n R sets st _ HG.out aa IA.out).mono ?_; rintro e w3 ⟨rfl, rfl⟩
                  by_cases ib : inN n bb = true
                  · obtain ⟨b', rfl, hb⟩ := inN_yes ib
                    have IB := Lib.hid ib
                    clear ib
                    go_wp2_with fail
                    refine (root_in fb uv1 rv1 n R sets st _ HG.out b' hb (by have := hlog.out; omega)).mono ?_
                    rintro e w3 ⟨rfl, uv3, rv3, st3, hG3, hS3, h3a, h3b, hf3⟩
                    have f1 := (hf3.cellb (b := xb) (off := 1) kl (fun h => by have := hxb.out xb h; omega)).trans k1
                    have f2 := (hf3.cellb (b := xb) (off := 2) kl (fun h => by have := hxb.out xb h; omega)).trans k2
                    have hrow3 := Lib.hid (HB1.out.row.fr hf3 (fun k hk => HDD.out k hk))
                    have hfr5 := hfr3.trans' hf3 (fun k h1 h2 => by have := HSS.out k h2; have := HFB.out; omega)
                    have HG3 := Lib.hid hG3
                    have HS3 := Lib.hid hS3
                    clear hG3 hS3 hf3 k1 k2
                    go_wp2_with fail
                    refine (refIn_b vo2 n vc2 aa _ false (by omega) IA.out).mono ?_; rintro e w5 ⟨rfl, rfl⟩
                    go_wp2_with fail
                    refine (refIn_b vo2 n vc2 b' _ true (by omega) IB.out).mono ?_; rintro e w5 ⟨rfl, rfl⟩
                    go_wp2_with fail
                    go_meet
                    refine ⟨n, R, sets, st3, xs, calls + 2, by omega, ⟨⟨uv3, rv3, HG3.out, fun k hk => HSS.out k (HS3.out k hk), fun k hk hS => HDD.out k hk (HS3.out k hS)⟩, hrow3.out, HB1.out.agree, HB1.out.low, HB1.out.blk⟩, by go_num, by omega, by omega, by omega, ?_, hfr5⟩
                    exact Nat.le_trans (by omega) (Nat.le_trans (hstep.out (4 * Nat.log2 n + 4) hlog.out) (Nat.mul_le_mul_right _ (by omega)))
                  · have IB : Hid (inN n bb = false) := (Bool.not_eq_true _).mp ib
                    clear ib
                    go_wp2_with fail
                    refine (root_out fb uv1 rv1 n R sets st _ HG.out bb IB.out).mono ?_; rintro e w4 ⟨rfl, rfl⟩
                    go_wp2_with fail
                    refine (refIn_b vo2 n vc2 aa _ false (by omega) IA.out).mono ?_; rintro e w5 ⟨rfl, rfl⟩
                    go_wp2_with fail
                    refine (refIn_b vo2 n vc2 bb _ false (by omega) IB.out).mono ?_; rintro e w5 ⟨rfl, rfl⟩
                    go_wp2_with fail
                    go_meet
                    refine ⟨n, R, sets, st, xs, calls + 2, by omega, ⟨⟨uv1, rv1, HG.out, HSS.out, HDD.out⟩, HB1.out.row, HB1.out.agree, HB1.out.low, HB1.out.blk⟩, by go_num, by omega, by omega, by omega, ?_, hfr3⟩
                    exact Nat.le_trans (by omega) (Nat.le_trans (hstep.out (4 * Nat.log2 n + 4) hlog.out) (Nat.mul_le_mul_right _ (by omega)))
            · by_cases hk3 : kk = 3
              · as_aux_lemma =>
                  subst hk3
                  have hmul : Hid ((n + 1) * (2 * Nat.log2 n + 2) ≤ (n + 1) * (4 * digs n + 8)) := Nat.mul_le_mul_left _ (by have := hlog.out; omega)
                  have hmul2 : Hid ((n + 1) * (2 * Nat.log2 n + 2) ≤ 101 * 408) := Nat.mul_le_mul (by omega) (by have := hlog.out; omega)
                  have hstep3 : Hid (∀ d, d ≤ (n + 1) * (4 * digs n + 8) → st + d ≤ (calls + n + 1) * (4 * digs n + 8)) := by
                    intro d hd
                    have h5 := HST.out
                    rw [show calls + n + 1 = calls + (n + 1) from by omega, Nat.add_mul calls (n + 1) (4 * digs n + 8)]
                    omega
                  have heqc : Hid (colorSet xs aa = (List.range n).filter (fun k => inN n aa && R aa.toNat == R k)) := by
                    show _ = _
                    unfold colorSet
                    rw [hxl.out]
                    apply List.filter_congr
                    intro k hk
                    exact hsame.out aa k (by simpa using hk)
                  clear hk0 hk1 hk2 k0 k2
                  go_wp2_with fail
                  go_region_held3 (fun w' => w'.cell? ⟨xb, 1, none⟩ = some (.int .i64 aa))
                    (first
                      | (go_keep; done)
                      | (exact f1)
                      | (exact f5))
                    (first
                      | (go_at_call 18; refine (set_g fb uv1 rv1 n R sets st _ (FG.fr HG.out (Fr.drew (fun _ => False) W) (fun _ _ h => h)) aa (by have := hmul2.out; omega) (by omega)).mono ?_; rintro e w3 ⟨v3, rfl, ⟨uv3, rv3, st3, hG3, hS3, h3a, h3b, hf3⟩, hI3, hb3⟩; have f1 := (hf3.cellb (b := xb) (off := 1) kl (fun h => by have := hxb.out xb h; omega)).trans k1; have hl3 := World.block_lt_of_cell? w3 _ f1; have hrow3 := Lib.hid (HB1.out.row.fr ((Fr.drew (SG fb uv1 rv1) W).trans hf3) (fun k hk => HDD.out k hk)); have HI3 := Lib.hid hI3; have HG3 := Lib.hid hG3; have HS3 := Lib.hid hS3; have HF3 := Lib.hid hf3; clear hI3 hG3 hS3 hf3)
                      | (go_at_call 19; refine (refSet _ xs aa _ hrow3.out hx1.out).mono ?_; rintro e w5 ⟨v5, rfl, hI5, hf5, hb5⟩; have f5 := (hf5.cellb (b := xb) (off := 1) hl3 (fun h => h)).trans f1; have HI5 := Lib.hid hI5; have HF5 := Lib.hid hf5; clear hI5 hf5)
                      | (go_at_call 17; refine (refInts _ _ _ _ _ (HI3.out.fr HF5.out (fun _ _ h => h)) HI5.out (Nat.le_trans (filter_range_len _ _) (by omega)) (by rw [heqc.out]; exact Nat.le_trans (filter_range_len _ _) (by omega))).mono ?_; rintro e w6 ⟨rfl, nq, rfl⟩; rw [heqc.out]; simp only [decide_true]))
                  all_goals
                    go_wp2_with fail
                    go_meet
                    have hfr5 := (hfr3.trans (Fr.drew _ _)).trans' HF3.out (fun k h1 h2 => by have := HSS.out k h2; have := HFB.out; omega)
                    refine ⟨n, R, sets, st3, xs, calls + n + 1, by omega, ⟨⟨uv3, rv3, (HG3.out.fr HF5.out (fun _ _ h => h)).fr (Fr.drewN (fun _ => False) _ nq) (fun _ _ h => h), fun k hk => HSS.out k (HS3.out k hk), fun k hk hS => HDD.out k hk (HS3.out k hS)⟩, (hrow3.out.fr HF5.out (fun _ _ h => h)).fr (Fr.drewN (fun _ => False) _ nq) (fun _ _ h => h), HB1.out.agree, HB1.out.low, HB1.out.blk⟩, by go_num, by omega, by omega, by omega, ?_, (hfr5.trans HF5.out).trans (Fr.drewN _ _ nq)⟩
                    exact Nat.le_trans (by omega) (hstep3.out ((n + 1) * (2 * Nat.log2 n + 2)) hmul.out)
              · as_aux_lemma =>
                  clear k0
                  have hb0 : ((kk : Int) == 0) = false := by simp; omega
                  have hb1 : ((kk : Int) == 1) = false := by simp; omega
                  have hb2 : ((kk : Int) == 2) = false := by simp; omega
                  have hb3 : ((kk : Int) == 3) = false := by simp; omega
                  have hsame2 : Hid ((inB xs aa && inB xs bb && xs.getD aa.toNat 0 == xs.getD bb.toNat 0) = (inN n aa && inN n bb && (R aa.toNat == R bb.toNat))) := by
                    have e : inB xs bb = inN n bb := by unfold inB inN; rw [hxl.out]
                    have e2 : inB xs aa = inN n aa := by unfold inB inN; rw [hxl.out]
                    show _ = _
                    rw [e, e2]
                    cases hbb : inN n bb
                    · simp
                    · obtain ⟨k, rfl, hk⟩ := inN_yes hbb
                      have := hsame.out aa k hk
                      rw [e2] at this
                      simpa using this
                  clear hk0 hk1 hk2 hk3
                  go_wp2_with fail
                  go_region_held3 (fun w' => w'.cell? ⟨xb, 1, none⟩ = some (.int .i64 aa) ∧ w'.cell? ⟨xb, 2, none⟩ = some (.int .i64 bb))
                    (first
                      | (go_keep; done)
                      | (exact ⟨f1, f2⟩))
                    (first
                      | (go_at_call 11; refine (same_g fb uv1 rv1 n R sets st _ (FG.fr HG.out (Fr.drew (fun _ => False) W) (fun _ _ h => h)) aa bb (by have := hlog.out; omega)).mono ?_; rintro e w3 ⟨rfl, uv3, rv3, st3, hG3, hS3, h3a, h3b, hf3⟩; have f1 := (hf3.cellb (b := xb) (off := 1) kl (fun h => by have := hxb.out xb h; omega)).trans k1; have f2 := (hf3.cellb (b := xb) (off := 2) kl (fun h => by have := hxb.out xb h; omega)).trans k2; have hrow3 := Lib.hid (HB1.out.row.fr ((Fr.drew (SG fb uv1 rv1) W).trans hf3) (fun k hk => HDD.out k hk)); have HG3 := Lib.hid hG3; have HS3 := Lib.hid hS3; have HF3 := Lib.hid hf3; clear hG3 hS3 hf3)
                      | (go_at_call 22; refine (refSame2 _ xs aa bb _ hrow3.out hx1.out).mono ?_; rintro e w6 ⟨rfl, nq, rfl⟩; rw [hsame2.out]))
                  all_goals
                    generalize (inN n aa && inN n bb && (R aa.toNat == R bb.toNat)) = tt
                    have hfr5 := (hfr3.trans (Fr.drew _ _)).trans' HF3.out (fun k h1 h2 => by have := HSS.out k h2; have := HFB.out; omega)
                    cases tt
                    all_goals
                      go_wp2_with fail
                      go_meet
                      refine ⟨n, R, sets, st3, xs, calls + 1, by omega, ⟨⟨uv3, rv3, HG3.out.fr (Fr.drewN (fun _ => False) _ nq) (fun _ _ h => h), fun k hk => HSS.out k (HS3.out k hk), fun k hk hS => HDD.out k hk (HS3.out k hS)⟩, hrow3.out.fr (Fr.drewN (fun _ => False) _ nq) (fun _ _ h => h), HB1.out.agree, HB1.out.low, HB1.out.blk⟩, by go_num, by omega, by omega, by omega, ?_, hfr5.trans (Fr.drewN _ _ nq)⟩
                      exact Nat.le_trans (by omega) (hstep.out (4 * Nat.log2 n + 4) hlog.out)
      case rest =>
        as_aux_lemma =>
          obtain ⟨n', R', sets', st', xs', calls', hn', hB', rfl, hc0', hc', hws', hst', hfr4⟩ := hcut
          have HB' := Lib.hid hB'
          have HST' := Lib.hid hst'
          clear hB' hst'
          obtain ⟨vo3, vc3, hv⟩ := HB'.out.row.form
          rw [HB'.out.agree.1] at hv
          subst hv
          obtain ⟨uv3, rv3, hG, hS, hD⟩ := HB'.out.forest
          obtain ⟨o3, c3, _, c0, hn3⟩ := hG.form
          have e2 := hG.c2
          have e3 := hG.c3
          have hcount : Hid (roots (firstOf xs') xs'.length = sets') := by
            show _ = _
            rw [HB'.out.agree.1, HB'.out.agree.count (fun x hx => hG.root hx), hG.num]
          have hsl : sets' ≤ 100 := by rw [hG.num]; exact Nat.le_trans (filter_range_len _ _) (by omega)
          have hdl := digs_le n'
          have hst3 : st' ≤ 8162 * 408 := Nat.le_trans HST'.out (Nat.mul_le_mul (by omega) (by omega))
          have hP : Hid ((calls' : Int) * (4 * (digs n' : Nat) + 8) = ((calls' * (4 * digs n' + 8) : Nat) : Int)) := by show _ = _; simp
          have hp1 : 0 ≤ (calls' : Int) * (4 * (digs n' : Nat) + 8) := by rw [hP.out]; omega
          have hp2 : (calls' : Int) * (4 * (digs n' : Nat) + 8) ≤ 8162 * 408 := by
            rw [hP.out]
            have : calls' * (4 * digs n' + 8) ≤ 8162 * 408 := Nat.mul_le_mul (by omega) (by omega)
            omega
          have hp3 : (st' : Int) ≤ (calls' : Int) * (4 * (digs n' : Nat) + 8) := by rw [hP.out]; have := HST'.out; omega
          have HG := Lib.hid hG
          have hxs : xs'.length ≤ 100000 := by rw [HB'.out.agree.1]; omega
          clear hG hS hD
          go_wp2_with fail
          refine (len_any fb n' c3 o3 _ c0 (by omega)).mono ?_; rintro e w3 ⟨rfl, rfl⟩
          go_wp2_with fail
          refine (sets_any fb sets' _ e2).mono ?_; rintro e w3 ⟨rfl, rfl⟩
          go_wp2_with fail
          refine (refCount _ xs' _ HB'.out.row hxs).mono ?_; rintro e w3 ⟨rfl, hf3⟩
          rw [hcount.out]
          have f3 := (hf3.cellb (b := fb) (off := 3) (World.block_lt_of_cell? _ _ e3) (fun h => h)).trans e3
          have HB3 := Lib.hid (HB'.out.fr hf3 (fun _ _ h => h.elim))
          have hfr5 := hfr4.trans hf3
          clear hf3 c0 e2 e3
          go_wp2_with fail
          refine (steps_any fb st' _ f3).mono ?_; rintro e w4 ⟨rfl, rfl⟩
          go_wp2_with fail
          refine (steps_any fb st' _ f3).mono ?_; rintro e w4 ⟨rfl, rfl⟩
          go_wp2_with fail
          refine (digits_any n' _ (by omega)).mono ?_; rintro e w4 ⟨rfl, rfl⟩
          go_wp2_with fail
          refine (steps_any fb st' _ f3).mono ?_; rintro e w4 ⟨rfl, rfl⟩
          go_wp2
          go_roundw
          case rel => exact ⟨i + 1, n', R', sets', st', xs', calls', st', by omega, by go_num, by omega, HB3.out, rfl, hc0', by omega, rfl, Nat.le_refl _, HST'.out, hfr5⟩
          case measure => simp [intOf]; omega
    · go_wp2_with fail
      refine (awake_any _).mono ?_; rintro e w3 ⟨rfl, hq⟩
      go_wp2
      go_ret
      exact ⟨rfl, hfr2.trans hq⟩

set_option maxRecDepth 1000000 in
theorem unionPlays_all (N : Nat) (o : Option Addr) (len cap : Nat) (K : Nat → Nat) (A B : Nat → Int) (w : World) (hN : N ≤ 255) (hl : OpsAt w o len K A B) :
    Calls Try.prog 6 #[.int .u8 N, .slice o len cap] w fun e w' => e = .returned (.bool true) ∧ Quiet0 w w' := by
  by_cases h : 80 < len
  · clear hl
    go_enter Try.func6, Try.ntmps6
    go_wp2_with fail
    refine (awake_any _).mono ?_; rintro e w6 ⟨rfl, hq⟩
    go_wp2
    go_ret
    exact ⟨rfl, hq⟩
  · exact unionPlays_walk N o len cap K A B w hN hl (by omega)
end Go.Proofs.Ytibemcofkgbjhaa
