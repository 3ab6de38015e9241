/- Parts Pa, Pb of the proof, in one text. -/
import Derived.Test.YtapahfoebpiajaaGreatDoorRows
import Derived.Test.YtapahfoebpiajaaGreatDoorSQA

/- Walks: what the functions of math and parts that only look at a number's bits return. -/
namespace Go.Proofs.YtapahfoebpiajaaGreatDoor
open Go.RowKit

@[go_sem] theorem run_fbits (b : Nat) (w : World) : (callFunc 24 #[.float .f64 b]).run Tryz.prog w = .ok (.value (.int .u64 b)) w := by kernel_rfl
@[go_sem] theorem run_ffrom (n : Int) (w : World) : (callFunc 29 #[.int .u64 n]).run Tryz.prog w = .ok (.value (.float .f64 n.toNat)) w := by kernel_rfl
theorem ret_int {k : IntKind} {a b : Int} (h : a = b) : Ending.returned (.int k a) = .returned (.int k b) := by rw [h]
theorem abs_any (b : Nat) (w : World) (hb : W64 b) :
    Calls Tryz.prog 33 #[.float .f64 b] w fun e w' => e = .returned (.float .f64 (absB b)) ∧ w = w' := by
  go_enter Tryz.func33, Tryz.ntmps33
  go_wp2
  go_ret
  exact ⟨rfl, rfl⟩

theorem copysign_any (b s : Nat) (w : World) (hb : W64 b) (hs : W64 s) :
    Calls Tryz.prog 159 #[.float .f64 b, .float .f64 s] w fun e w' => e = .returned (.float .f64 (sgnW s + absB b)) ∧ w = w' := by
  go_enter Tryz.func159, Tryz.ntmps159
  go_wp2
  go_ret
  exact ⟨rfl, rfl⟩

end Go.Proofs.YtapahfoebpiajaaGreatDoor

/- Walks: parts.power, Class, Split, at, Order, Same, Next, Prev, Steps. -/
namespace Go.Proofs.YtapahfoebpiajaaGreatDoor
open Go.RowKit

/-- The bits of 2^-k. -/
def pwB (k : Nat) : Nat := (1023 - k) * 4503599627370496
attribute [irreducible] pwB

end Go.Proofs.YtapahfoebpiajaaGreatDoor
