/- What the shelf's contract of strconv.Itoa asks of this program. No conditions. (printed by mkitoa.py) -/
import Derived.Test.YtmoejdnodhmglaaDoorRows
import Derived.Shelf.Strconv.Itoa3
namespace Go.Proofs.YtmoejdnodhmglaaDoor
open Go.RowKit Go.Shelf

def itoR : Ren := ⟨fun x => if x = 129 then 31 else if x = 171 then 15 else if x = 243 then 23 else if x = 246 then 25 else if x = 283 then 26 else if x = 284 then 27 else if x = 285 then 28 else if x = 286 then 29 else if x = 317 then 30 else if x = 318 then 32 else if x = 319 then 33 else if x = 320 then 34 else if x = 337 then 35 else if x = 338 then 36 else x,
  fun x => if x = 0 then 0 else if x = 2 then 2 else if x = 3 then 3 else if x = 4 then 4 else if x = 5 then 5 else if x = 9 then 9 else if x = 20 then 20 else if x = 37 then 52 else if x = 46 then 59 else if x = 51 then 57 else if x = 53 then 49 else if x = 171 then 48 else if x = 173 then 53 else if x = 212 then 56 else if x = 213 then 58 else if x = 232 then 62 else if x = 233 then 63 else x,
  fun x => if x = 17 then 2 else if x = 18 then 3 else if x = 19 then 4 else x⟩
set_option maxRecDepth 100000 in
theorem itoL : LaysM.n171 Tryd.prog itoR where
  mixed := by kernel_rfl
  f129 := by kernel_rfl
  f171 := by kernel_rfl
  f243 := by kernel_rfl
  f246 := by kernel_rfl
  f283 := by kernel_rfl
  f284 := by kernel_rfl
  f285 := by kernel_rfl
  f286 := by kernel_rfl
  f317 := by kernel_rfl
  f318 := by kernel_rfl
  f319 := by kernel_rfl
  f320 := by kernel_rfl
  f337 := by kernel_rfl
  f338 := by kernel_rfl
  t0 := by kernel_rfl
  a0 := fun w => by kernel_rfl
  z0 := fun w => by kernel_rfl
  v0 := fun w => by kernel_rfl
  t2 := by kernel_rfl
  a2 := fun w => by kernel_rfl
  z2 := fun w => by kernel_rfl
  v2 := fun w => by kernel_rfl
  t3 := by kernel_rfl
  a3 := fun w => by kernel_rfl
  z3 := fun w => by kernel_rfl
  v3 := fun w => by kernel_rfl
  t4 := by kernel_rfl
  a4 := fun w => by kernel_rfl
  z4 := fun w => by kernel_rfl
  v4 := fun w => by kernel_rfl
  t5 := by kernel_rfl
  a5 := fun w => by kernel_rfl
  z5 := fun w => by kernel_rfl
  v5 := fun w => by kernel_rfl
  t9 := by kernel_rfl
  a9 := fun w => by kernel_rfl
  z9 := fun w => by kernel_rfl
  v9 := fun w => by kernel_rfl
  t20 := by kernel_rfl
  a20 := fun w => by kernel_rfl
  z20 := fun w => by kernel_rfl
  v20 := fun w => by kernel_rfl
  t37 := by kernel_rfl
  a37 := fun w => by kernel_rfl
  z37 := fun w => by kernel_rfl
  v37 := fun w => by kernel_rfl
  t46 := by kernel_rfl
  a46 := fun w => by kernel_rfl
  z46 := fun w => by kernel_rfl
  v46 := fun w => by kernel_rfl
  t51 := by kernel_rfl
  a51 := fun w => by kernel_rfl
  z51 := fun w => by kernel_rfl
  v51 := fun w => by kernel_rfl
  t53 := by kernel_rfl
  a53 := fun w => by kernel_rfl
  z53 := fun w => by kernel_rfl
  v53 := fun w => by kernel_rfl
  t171 := by kernel_rfl
  a171 := fun w => by kernel_rfl
  z171 := fun w => by kernel_rfl
  v171 := fun w => by kernel_rfl
  t173 := by kernel_rfl
  a173 := fun w => by kernel_rfl
  z173 := fun w => by kernel_rfl
  v173 := fun w => by kernel_rfl
  t212 := by kernel_rfl
  a212 := fun w => by kernel_rfl
  z212 := fun w => by kernel_rfl
  v212 := fun w => by kernel_rfl
  t213 := by kernel_rfl
  a213 := fun w => by kernel_rfl
  z213 := fun w => by kernel_rfl
  t232 := by kernel_rfl
  a232 := fun w => by kernel_rfl
  z232 := fun w => by kernel_rfl
  v232 := fun w => by kernel_rfl
  t233 := by kernel_rfl
  a233 := fun w => by kernel_rfl
  z233 := fun w => by kernel_rfl
  v233 := fun w => by kernel_rfl
  g17 := by kernel_rfl
  g18 := by kernel_rfl
  g19 := by kernel_rfl
  i0 := by kernel_rfl
  i2 := by kernel_rfl
  i3 := by kernel_rfl
  i4 := by kernel_rfl
  i5 := by kernel_rfl
  i9 := by kernel_rfl
  i20 := by kernel_rfl
  i37 := by kernel_rfl
  i46 := by kernel_rfl
  i51 := by kernel_rfl
  i53 := by kernel_rfl
  i171 := by kernel_rfl
  i173 := by kernel_rfl
  i212 := by kernel_rfl
  i232 := by kernel_rfl
  i233 := by kernel_rfl
  m17 := by kernel_rfl
  m18 := by kernel_rfl
  m19 := by kernel_rfl

end Go.Proofs.YtmoejdnodhmglaaDoor
