/-
  Copy of a forest: another one, in new memory, that is as this one. Conditions: the forest lies in memory (FS).
-/
import Derived.Test.YtibemcofkgbjhaaSet
import Derived.Deep.RegionHeld3
namespace Go.Proofs.Ytibemcofkgbjhaa
open Go.RowKit

/-- append(nil, xs...) in a region that draws its order -/
theorem step_clone {P : Program} {ops : Array Oper} {o : Oper} {a : Act} {w : World} {K : Act → World → Prop} {Q : Exit → Act → World → Prop} {E : Prop}
    (hg : o.guard = none) (s x : Operand) (t : TypeId) (hop : o.op = Op.call { callee := Callee.builtin Builtin.append, args := #[s, x], argTypes := #[t, t] })
    (e : TypeId) (z : Value) (size bytes : Nat) (he : Elem P t e z size bytes) (hs : a.eval s = .slice none 0 0)
    (g m c : Nat) (news : List Value) (hx : a.eval x = .slice (some ⟨g, 0, none⟩) m c) (hown : w.ownsRow 0 e size (.slice (some ⟨g, 0, none⟩) m c) m news)
    (hm : 0 < m) (b1 : m ≤ maxLen) (b2 : m * bytes ≤ 140737488355328)
    (hK : ∀ cap w', w'.ownsRow 0 e size (.slice (some ⟨w.heap.size, 0, none⟩) m cap) m news → Fr (fun _ => False) w w' → w'.heap.size = w.heap.size + 1 → K (a.put o.dst (.slice (some ⟨w.heap.size, 0, none⟩) m cap)) w') :
    if Region.wanted o (yielded ops a.tmps) = true then Oper.wp P o a w K Q else E := by
  have hw : Region.wanted o (yielded ops a.tmps) = true := by simp [Region.wanted, hg]
  rw [if_pos hw]
  obtain ⟨i, hi, hz, hsz, hby⟩ := info_parts he.info
  have hl : news.length = m * i.size := by rw [hsz]; exact hown.1
  have hc : ∀ j v, news[j]? = some v → w.cell? ((⟨g, 0, none⟩ : Addr).add j) = some v := hown.cells (g := g) rfl
  have hr := run_append_nil (P := P) w t o.type e i z he.under hi hz ⟨g, 0, none⟩ m c news hl hc hm (by simp only [maxLen] at b1; omega) (by rw [hby]; omega)
  have hge := grownCap_ge w m 0 e
  have hcm := grownCap_le_maxLen w m 0 e b1
  unfold Oper.wp
  simp [execOp, hop, resolve, invoke, builtin, hs, hx, hr, Result.andThen]
  refine hK _ _ ⟨hown.1, .inr ⟨w.heap.size, _, _, rfl, Nat.zero_le _, heap_alloc_new w.drew _, hge, hcm, ?_, ?_⟩⟩ ((Fr.drew _ w).trans (Fr.alloc _ _ _)) (by simp)
  · simp only [Array.size_append, List.size_toArray, size_zeroCells, he.cells]
    rw [hown.1, ← Nat.add_mul]
    congr 1
    omega
  · simp only [Array.toList_append]
    rw [← hown.1]
    exact List.take_left

def CopyPost (n : Nat) (R : Nat → Nat) (sets steps : Nat) (w : World) (e : Ending) (w' : World) : Prop :=
  ∃ gb gu gr, e = .returned (.pointer (some ⟨gb, 0, none⟩)) ∧ FS w' gb gu gr n R sets steps ∧ Fr (fun _ => False) w w' ∧ w.heap.size ≤ gb ∧ w.heap.size ≤ gu ∧ w.heap.size ≤ gr

theorem FAt.fr {S : Nat → Prop} {w w' : World} {fb ub rb uc rc : Nat} {up rk : List Nat} {sets steps : Nat} (h : FAt w fb ub rb uc rc up rk sets steps) (hf : Fr S w w') (h1 : ¬ S fb) (h2 : ¬ S ub) (h3 : ¬ S rb) : FAt w' fb ub rb uc rc up rk sets steps :=
  h.keep (hf.block _ (Array.getElem?_eq_some_iff.1 h.blk).1 h1) (hf.block _ (h.ups.lt ub rfl).2 h2) (hf.block _ (h.rks.lt rb rfl).2 h3)

set_option maxHeartbeats 1000000 in
theorem copy_any (fb ub rb n : Nat) (R : Nat → Nat) (sets steps : Nat) (w : World) (h : FS w fb ub rb n R sets steps) (hn : 0 < n) :
    Calls Try.prog 15 #[.pointer (some ⟨fb, 0, none⟩)] w (CopyPost n R sets steps w) := by
  obtain ⟨up, rk, uc, rc, rfl, hf, hw⟩ := h
  have hrl := hw.len
  have hbig := hf.big
  have k0 := hf.c0
  have k1 := hf.c1
  have k2 := hf.c2
  have k3 := hf.c3
  have HW := Lib.hid hw
  have HRL := Lib.hid hrl
  have hr0 : 0 < rk.length := by omega
  have hrb : rk.length ≤ 1048576 := by omega
  clear hw hrl
  go_enter Try.func15, Try.ntmps15
  go_wp2_with fail
  go_region_held3 (fun w' => w'.cell? ⟨fb, 0, none⟩ = some (.slice (some ⟨ub, 0, none⟩) up.length uc) ∧ w'.cell? ⟨fb, 1, none⟩ = some (.slice (some ⟨rb, 0, none⟩) rk.length rc) ∧ w'.cell? ⟨fb, 2, none⟩ = some (.int .i64 sets) ∧ w'.cell? ⟨fb, 3, none⟩ = some (.int .i64 steps) ∧ FAt w' fb ub rb uc rc up rk sets steps)
    (first
      | (go_keep; done)
      | (exact ⟨hf.drew.c0, hf.drew.c1, hf.drew.c2, hf.drew.c3, hf.drew⟩)
      | (exact ⟨hF1.c0, hF1.c1, hF1.c2, hF1.c3, hF1⟩)
      | (exact ⟨hF2.c0, hF2.c1, hF2.c2, hF2.c3, hF2⟩)
      | (have hF3 := FAt.fr hF2 (Fr.alloc (fun _ => False) w2 (.cells #[.slice (some ⟨w.heap.size, 0, none⟩) up.length cap, .slice (some ⟨w.heap.size + 1, 0, none⟩) rk.length cap2, .int .i64 sets, .int .i64 steps] 54)) (fun h => h) (fun h => h) (fun h => h); exact ⟨hF3.c0, hF3.c1, hF3.c2, hF3.c3, hF3⟩))
    (first
      | (refine step_clone (by rfl) (.const (.slice none 0 0)) (.tmp 8) 37 (by rfl) 3 (.int .i64 0) 1 8 elem37 (by rfl) ub up.length uc (iv up) (by rfl) (FAt.ups (fb := fb) (rb := rb) (rc := rc) (rk := rk) (sets := sets) (steps := steps) (by first | assumption | exact FAt.drew (by assumption))) hn (by unfold maxLen; omega) (by omega) ?_; intro cap w1 hown1 hfr1 hz1; have hF1 := FAt.fr hf.drew hfr1 (fun h => h) (fun h => h) (fun h => h))
      | (refine step_clone (by rfl) (.const (.slice none 0 0)) (.tmp 13) 37 (by rfl) 3 (.int .i64 0) 1 8 elem37 (by rfl) rb rk.length rc (iv rk) (by rfl) (FAt.rks (fb := fb) (ub := ub) (uc := uc) (up := up) (sets := sets) (steps := steps) hF1) hr0 (by unfold maxLen; omega) (by omega) ?_; intro cap2 w2 hown2 hfr2 hz2; have hF2 := FAt.fr hF1 hfr2 (fun h => h) (fun h => h) (fun h => h)))
  go_wp2
  go_ret
  have hz1' : w1.heap.size = w.heap.size + 1 := by simpa using hz1
  have hz2' : w2.heap.size = w.heap.size + 2 := by omega
  refine ⟨w.heap.size + 1 + 1, w.heap.size, w.heap.size + 1, rfl, ⟨up, rk, cap, cap2, rfl, ⟨?_, ?_, ?_, by omega, by omega, by omega, hbig⟩, HW.out⟩, ?_, by omega, by omega, by omega⟩
  · have := heap_alloc_new w2 (.cells #[.slice (some ⟨w.heap.size, 0, none⟩) up.length cap, .slice (some ⟨w.heap.size + 1, 0, none⟩) rk.length cap2, .int .i64 sets, .int .i64 steps] 54)
    rw [hz2'] at this; exact this
  · exact (ownsRow_fr hown1 hfr2 (fun _ _ h => h)).alloc _
  · exact World.ownsRow.alloc (by simpa [hz1'] using hown2) _
  · exact (((Fr.drew _ w).trans hfr1).trans hfr2).trans (Fr.alloc _ _ _)
end Go.Proofs.Ytibemcofkgbjhaa
