/-
  Which bytes the clipped spans have: plain laws.
-/
import Derived.Test.YtdlcakmjihfgfaaDoorSpCut
namespace Go.Proofs.YtdlcakmjihfgfaaDoor
open Go.RowKit Go.Shelf SpanPlain

abbrev hasN (l : List Sp) (x : Nat) : Bool := l.any (hasP (x : Int))
theorem hasN_cov (l : List Sp) (x : Int) : l.any (hasP x) = true ↔ Cov l x := by
  rw [List.any_eq_true]
  unfold Cov hasP
  constructor
  · rintro ⟨s, hs, h⟩; simp at h; exact ⟨s, hs, h⟩
  · rintro ⟨s, hs, h⟩; exact ⟨s, hs, by simpa using h⟩
theorem hass_clip (n : Nat) (l : List Sp) : Hass 0 n (clipN n (rmerge l)) (hasN l) := by
  intro x _ hx
  rw [clip_has n _ x hx, rmerge_cov]
  exact hasN_cov l x
theorem inN_clip (n : Nat) (l : List Sp) : InN 0 n (clipN n (rmerge l)) := clip_in n _ 0 (rmerge_canon l) (fun s _ => by omega) (by omega)
theorem cnt_clip (n : Nat) (l : List Sp) : cnt (hasN l) 0 n = sumN (clipN n (rmerge l)) := cnt_parts n _ _ 0 (Nat.zero_le _) (inN_clip n l) (hass_clip n l)
theorem cut_clip (text : ByteArray) (l : List Sp) : run (cutStep text (hasN l)) 0 (text.size + 1) (ByteArray.empty, []) = (ByteArray.empty, (clipN text.size (rmerge l)).map (part text)) := by
  rw [cut_parts text (hasN l) _ 0 [] (by omega) (inN_clip _ l) (hass_clip _ l)]; rfl
end Go.Proofs.YtdlcakmjihfgfaaDoor
