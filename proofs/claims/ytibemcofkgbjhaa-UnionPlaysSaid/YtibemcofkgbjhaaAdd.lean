/-
  Add: one more element, alone. Conditions: the forest lies in memory as told (FV), fewer than 2^20 elements.
-/
import Derived.Test.YtibemcofkgbjhaaJoin
namespace Go.Proofs.Ytibemcofkgbjhaa
open Go.RowKit

theorem info3 : (Try.prog.info? 3).map (fun i => (i.zero, i.size, i.bytes)) = some (some (.int .i64 0), 1, 8) := by kernel_rfl

def AddPost (fb : Nat) (uv rv : Value) (up rk : List Nat) (sets steps : Nat) (w w' : World) : Prop :=
  ∃ uv' rv' ku kr, FV w' fb uv' rv' (up ++ [up.length]) (rk ++ [0]) (sets + 1) steps ∧ Fr (fun k => k = fb ∨ uv.ownBlock = some k ∨ rv.ownBlock = some k) w w' ∧
    uv'.ownBlock = some ku ∧ (uv.ownBlock = some ku ∨ w.heap.size ≤ ku) ∧ rv'.ownBlock = some kr ∧ (rv.ownBlock = some kr ∨ w.heap.size ≤ kr)

theorem add_nil (w : World) : Calls Try.prog 16 #[.pointer none] w fun e w' => e = .returned (.int .i64 (-1)) ∧ w = w' := by
  go_enter Try.func16, Try.ntmps16
  go_wp2
  go_ret
  exact ⟨rfl, rfl⟩

set_option maxHeartbeats 1000000 in
theorem add_any (fb : Nat) (uv rv : Value) (up rk : List Nat) (sets steps : Nat) (w : World) (h : FV w fb uv rv up rk sets steps) (hlt : up.length < 1048576) (hset : sets ≤ 1048576) :
    Calls Try.prog 16 #[.pointer (some ⟨fb, 0, none⟩)] w fun e w' => e = .returned (.int .i64 (up.length : Nat)) ∧ AddPost fb uv rv up rk sets steps w w' := by
  obtain ⟨i0, hi, hz0, hz1, hz2⟩ := info_parts info3
  obtain ⟨uo, uc, hue⟩ := ownsRow_len h.ups
  obtain ⟨ro, rc, hre⟩ := ownsRow_len h.rks
  subst hue
  subst hre
  have hfbl : fb < w.heap.size := (Array.getElem?_eq_some_iff.1 h.blk).1
  have c0 : w.cell? ⟨fb, 0, none⟩ = some (.slice uo up.length uc) := by simp [World.cell?, h.blk]
  have c1 : w.cell? ⟨fb, 1, none⟩ = some (.slice ro rk.length rc) := by simp [World.cell?, h.blk]
  have c2 : w.cell? ⟨fb, 2, none⟩ = some (.int .i64 sets) := by simp [World.cell?, h.blk]
  have z0 : w.frozen? ⟨fb, 0, none⟩ = false := by simp [World.frozen?, h.blk]
  have H := Lib.hid h
  clear h
  have hne := beq_cast_ne up.length 1048576 (by omega)
  go_enter Try.func16, Try.ntmps16
  go_wp2_with (at_builtin; refine wpList_append_two _ rfl (.tmp 23) (.tmp 25) 37 rfl 0 3 i0 (.int .i64 0) 1 8 Try.underlying37 hi hz0 hz1 hz2 rfl (by decide) _ _ _ rfl (H.out.ups.alloc _) ⟨w.heap.size, 0, none⟩ 1 1 [.int .i64 up.length] rfl rfl ?c1 ?c2 (by decide) ?c3 ?c4 (Nat.zero_le _) ?_)
  case c1 =>
    intro j u hj
    match j, hj with
    | 0, hj => simp at hj; subst hj; simp [Addr.add]
  case c2 => intro u hu; simp at hu; subst hu; rfl
  case c3 => unfold maxLen; omega
  case c4 => omega
  intro v1 w1 hown1 hgrow1 k1 hk1 hk1'
  obtain ⟨g1, n1, rfl⟩ := ownsRow_some hown1 (by omega)
  have hb1 := Lib.hid ((hgrow1.block fb (by simp; omega) (fun e => H.out.d1 e.symm)).trans ((Below.heap_alloc w _ fb hfbl).trans H.out.blk))
  have e0 : w1.cell? ⟨fb, 0, none⟩ = some (.slice uo up.length uc) := by simp [World.cell?, hb1.out]
  have e1 : w1.cell? ⟨fb, 1, none⟩ = some (.slice ro rk.length rc) := by simp [World.cell?, hb1.out]
  have y0 : w1.frozen? ⟨fb, 0, none⟩ = false := by simp [World.frozen?, hb1.out]
  have hsz1 := hgrow1.size
  simp at hsz1
  have ho2 := Lib.hid (ownsRow_setCell_other (ownsRow_same H.out.rks (fun k hk => (hgrow1.block k (by have := (H.out.rks.lt k hk).2; simp; omega) (fun e => H.out.d3 k e.symm hk)).trans (Below.heap_alloc w _ k (H.out.rks.lt k hk).2))) ⟨fb, 0, none⟩ (.slice (some ⟨g1, 0, none⟩) (up.length + 1) n1) H.out.d2)
  have Hown1 := Lib.hid hown1
  have Hgrow1 := Lib.hid hgrow1
  have Hk1 := Lib.hid hk1
  have Hk1' := Lib.hid hk1'
  have hrl := H.out.rlen
  have hrl1 : rk.length < 1048576 := by omega
  have HRL := Lib.hid hrl
  clear hown1 hgrow1 c0 c1 c2 z0 hrl hk1 hk1'
  go_wp2_with (at_builtin; go_must (refine wpList_append_two _ rfl (.tmp 33) (.tmp 34) 37 rfl 0 3 i0 (.int .i64 0) 1 8 Try.underlying37 hi hz0 hz1 hz2 rfl (by decide) _ _ _ rfl (ho2.out.alloc _) ⟨w1.heap.size, 0, none⟩ 1 1 [.int .i64 0] rfl rfl ?d1 ?d2 (by decide) ?d3 ?d4 (Nat.zero_le _) ?_))
  case d1 =>
    intro j u hj
    match j, hj with
    | 0, hj => simp at hj; subst hj; exact cell_new _ _ _ _ (by simp [World.setCell])
  case d2 => intro u hu; simp at hu; subst hu; rfl
  case d3 => unfold maxLen; omega
  case d4 => omega
  intro v2 w2 hown2 hgrow2 k2 hk2 hk2'
  obtain ⟨g2, n2, rfl⟩ := ownsRow_some hown2 (by omega)
  have hb2 := Lib.hid ((hgrow2.block fb (by simp; omega) (fun e => H.out.d2 e.symm)).trans ((Below.heap_alloc (w1.setCell ⟨fb, 0, none⟩ (.slice (some ⟨g1, 0, none⟩) (up.length + 1) n1)) _ fb (by simp [World.setCell]; omega)).trans (heap_setCell_at _ _ _ _ _ _ _ hb1.out)))
  have e1' : w2.cell? ⟨fb, 1, none⟩ = some (.slice ro rk.length rc) := by simp [World.cell?, hb2.out]
  have e2' : w2.cell? ⟨fb, 2, none⟩ = some (.int .i64 sets) := by simp [World.cell?, hb2.out]
  have y1 : w2.frozen? ⟨fb, 1, none⟩ = false := by simp [World.frozen?, hb2.out]
  have y2 : w2.frozen? ⟨fb, 2, none⟩ = false := by simp [World.frozen?, hb2.out]
  have Hown2 := Lib.hid hown2
  have Hgrow2 := Lib.hid hgrow2
  have Hk2 := Lib.hid hk2
  have Hk2' := Lib.hid hk2'
  clear hown2 hgrow2 hk2 hk2' e0 e1 y0
  go_wp2
  go_ret
  refine ⟨rfl, ?_⟩
  have hs : ((sets + 1 : Nat) : Int) = (sets : Int) + 1 := by omega
  rw [← hs]
  have k1e : k1 = g1 := by have := Hk1.out; simp [Value.ownBlock] at this; exact this.symm
  have k2e : k2 = g2 := by have := Hk2.out; simp [Value.ownBlock] at this; exact this.symm
  subst k1e
  subst k2e
  have ult := fun k hk => (H.out.ups.lt k hk).2
  have rlt := fun k hk => (H.out.rks.lt k hk).2
  have hsz2 := Hgrow2.out.size
  simp [World.setCell] at hsz2
  have a1 : k1 ≠ fb := by rcases Hk1'.out with h | h
                          · intro e; exact H.out.d1 (by rw [h, e])
                          · omega
  have a2 : k2 ≠ fb := by rcases Hk2'.out with h | h
                          · intro e; exact H.out.d2 (by rw [h, e])
                          · omega
  have a3 : (Value.slice ro rk.length rc).ownBlock ≠ some k1 := by
    rcases Hk1'.out with h | h
    · exact H.out.d3 k1 h
    · intro e; have := rlt k1 e; omega
  have l1 : k1 < w1.heap.size := (Hown1.out.lt k1 rfl).2
  have a4 : k1 ≠ k2 := by
    intro e; subst e
    rcases Hk2'.out with h | h
    · exact a3 h
    · omega
  refine ⟨.slice (some ⟨k1, 0, none⟩) (up.length + 1) n1, .slice (some ⟨k2, 0, none⟩) (rk.length + 1) n2, k1, k2, ⟨?_, ?_, ?_, ?_, ?_, ?_, ?_, ?_⟩, ?_, rfl, ?_, rfl, ?_⟩
  · exact heap_setCell_at _ _ _ _ _ _ _ (heap_setCell_at _ _ _ _ _ _ _ hb2.out)
  · refine ownsRow_setCell_other (ownsRow_setCell_other (ownsRow_same (w := (w1.setCell ⟨fb, 0, none⟩ (.slice (some ⟨k1, 0, none⟩) (up.length + 1) n1)).alloc (.cells #[.int .i64 0] 3)) ?_ ?_) _ _ ?_) _ _ ?_
    · rw [List.length_append, show iv (up ++ [up.length]) = iv up ++ [.int .i64 up.length] from by simp [iv]]
      exact (ownsRow_setCell_other Hown1.out _ _ (by simp [Value.ownBlock]; omega)).alloc _
    · intro k hk
      simp [Value.ownBlock] at hk
      subst hk
      exact Hgrow2.out.block _ (by simp; omega) (fun e => a3 e.symm)
    · simp [Value.ownBlock]; omega
    · simp [Value.ownBlock]; omega
  · rw [List.length_append, show iv (rk ++ [0]) = iv rk ++ [.int .i64 0] from by simp [iv]]
    exact ownsRow_setCell_other (ownsRow_setCell_other Hown2.out _ _ (by simp [Value.ownBlock]; omega)) _ _ (by simp [Value.ownBlock]; omega)
  · simp [Value.ownBlock]; omega
  · simp [Value.ownBlock]; omega
  · intro k hk; simp [Value.ownBlock] at hk ⊢; omega
  · simp; omega
  · have := HRL.out; simp; omega
  · have f1 : Fr (fun k => k = fb ∨ (Value.slice uo up.length uc).ownBlock = some k ∨ (Value.slice ro rk.length rc).ownBlock = some k) (w.alloc (.cells #[.int .i64 up.length] 3)) w1 := Fr.grown Hgrow1.out (fun k hk => .inr (.inl hk))
    have f2 : Fr (fun k => k = fb ∨ (Value.slice uo up.length uc).ownBlock = some k ∨ (Value.slice ro rk.length rc).ownBlock = some k) _ w2 := Fr.grown Hgrow2.out (fun k hk => .inr (.inr hk))
    exact ((((((Fr.alloc _ w _).trans f1).trans (Fr.setCell _ w1 ⟨fb, 0, none⟩ _ (.inl rfl))).trans (Fr.alloc _ _ _)).trans f2).trans (Fr.setCell _ _ ⟨fb, 1, none⟩ _ (.inl rfl))).trans (Fr.setCell _ _ ⟨fb, 2, none⟩ _ (.inl rfl))
  · rcases Hk1'.out with h | h
    · exact .inl h
    · exact .inr (by omega)
  · rcases Hk2'.out with h | h
    · exact .inl h
    · exact .inr (by omega)
end Go.Proofs.Ytibemcofkgbjhaa
