/-
  Texts laid together (LexPlain): laws and walks, with their conditions in their statements.
-/
import Derived.WalkKit
section
namespace Go.Proofs.YtnfodiedalhlhaaDoor.Lx
def smallB (c : UInt8) : Bool := decide (97 ≤ c.toNat) && decide (c.toNat ≤ 122)
def digitB (c : UInt8) : Bool := decide (48 ≤ c.toNat) && decide (c.toNat ≤ 57)
def innerB (c : UInt8) : Bool := smallB c || digitB c || c == 95
def kws : List (List UInt8) := [[102,117,110], [108,101,116], [114,101,99], [105,110], [105,102], [116,104,101,110], [101,108,115,101], [116,114,117,101], [102,97,108,115,101], [105,110,116], [98,111,111,108]]
def kwB (l : List UInt8) : Bool := kws.contains l
def runL (p : UInt8 → Bool) : List UInt8 → Nat
  | [] => 0
  | c :: r => if p c then runL p r + 1 else 0
def goesOn (p : UInt8 → Bool) : List UInt8 → Bool
  | [] => false
  | c :: _ => p c
theorem runL_le (p : UInt8 → Bool) : ∀ l, runL p l ≤ l.length
  | [] => Nat.le_refl _
  | c :: r => by unfold runL; split <;> simp; exact runL_le p r
end Go.Proofs.YtnfodiedalhlhaaDoor.Lx
end
