/- What the shelf's contract of slices.Insert asks of this program. No conditions. -/
import Derived.Test.YtonlhphgoedcnaaT0
import Derived.Shelf.Spec.SlicesInsert
import Derived.Shelf.Spec.SlicesInsertGrow
namespace Go.Proofs.Ytonlhphgoedcnaa
open Go.RowKit Go.Shelf

def insR : Ren := ⟨fun x => if x = 21 then 92 else if x = 27 then 131 else if x = 28 then 132 else if x = 35 then 149 else 155,
  fun x => if x = 0 then 0 else if x = 3 then 3 else if x = 4 then 4 else 22, fun x => x⟩
set_option maxRecDepth 100000 in
theorem insL : Lays2.n21 Try.prog insR where
  mixed := by kernel_rfl
  f21 := by kernel_rfl
  f27 := by kernel_rfl
  f28 := by kernel_rfl
  f35 := by kernel_rfl
  f39 := by kernel_rfl
  t0 := by kernel_rfl
  a0 := fun w => by kernel_rfl
  z0 := fun w => by kernel_rfl
  v0 := fun w => by kernel_rfl
  t3 := by kernel_rfl
  a3 := fun w => by kernel_rfl
  z3 := fun w => by kernel_rfl
  v3 := fun w => by kernel_rfl
  t4 := by kernel_rfl
  a4 := fun w => by kernel_rfl
  z4 := fun w => by kernel_rfl
  v4 := fun w => by kernel_rfl
  t22 := by kernel_rfl
  a22 := fun w => by kernel_rfl
  z22 := fun w => by kernel_rfl
  v22 := fun w => by kernel_rfl
  i3 := by kernel_rfl

end Go.Proofs.Ytonlhphgoedcnaa
