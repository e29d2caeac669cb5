/-
  The statement evaluated at each name, at any other name, at any longer one.
-/
import Derived.Test.YtpokmmoleijbeaaGreatDoorAw
/- The statement at each name. -/
set_option autoImplicit false
set_option maxRecDepth 100000
namespace Go.Ev
noncomputable def isT (o : OpR) : Bool := OpR.rec (motive := fun _ => Bool) (fun _ => false) (fun v _ => veq v (.a 1 1)) o
noncomputable def at1 (v : V) : Bool := isT (runX tab3 300 3 (.b 12 0 v .nilL) h0)
noncomputable def allN (l : List Nat) : Bool := List.rec (motive := fun _ => Bool) true (fun n _ ih => ifB (at1 (.a 2 n)) ih false) l
theorem known : allN (nms 0) = true := by kernel_rfl
theorem unknown : at1 (.a 13 0) = true := by kernel_rfl
theorem long : at1 (.a 17 0) = true := by kernel_rfl
end Go.Ev
