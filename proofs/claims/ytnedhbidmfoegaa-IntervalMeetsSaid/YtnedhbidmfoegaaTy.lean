/- The sizes of the types. Printed by wip/sym/g_ty.py. -/
import Derived.Test.YtnedhbidmfoegaaFw
import Derived.Test.YtnedhbidmfoegaaProg
import Derived.KernelRfl
namespace Go.Proofs.Ytnedhbidmfoegaa
open Go.RowKit
theorem ty2 : TyIs Try.prog 2 false 1 := fun w => ⟨by kernel_rfl, by kernel_rfl⟩
theorem ty3 : TyIs Try.prog 3 false 1 := fun w => ⟨by kernel_rfl, by kernel_rfl⟩
theorem ty4 : TyIs Try.prog 4 false 1 := fun w => ⟨by kernel_rfl, by kernel_rfl⟩
theorem ty5 : TyIs Try.prog 5 false 1 := fun w => ⟨by kernel_rfl, by kernel_rfl⟩
theorem ty6 : TyIs Try.prog 6 false 1 := fun w => ⟨by kernel_rfl, by kernel_rfl⟩
theorem ty7 : TyIs Try.prog 7 true 4 := fun w => ⟨by kernel_rfl, by kernel_rfl⟩
theorem ty8 : TyIs Try.prog 8 true 4 := fun w => ⟨by kernel_rfl, by kernel_rfl⟩
theorem ty9 : TyIs Try.prog 9 false 1 := fun w => ⟨by kernel_rfl, by kernel_rfl⟩
theorem ty10 : TyIs Try.prog 10 false 1 := fun w => ⟨by kernel_rfl, by kernel_rfl⟩
theorem ty11 : TyIs Try.prog 11 false 1 := fun w => ⟨by kernel_rfl, by kernel_rfl⟩
theorem ty12 : TyIs Try.prog 12 false 1 := fun w => ⟨by kernel_rfl, by kernel_rfl⟩
theorem ty13 : TyIs Try.prog 13 true 2 := fun w => ⟨by kernel_rfl, by kernel_rfl⟩
theorem ty14 : TyIs Try.prog 14 true 2 := fun w => ⟨by kernel_rfl, by kernel_rfl⟩
theorem ty15 : TyIs Try.prog 15 false 1 := fun w => ⟨by kernel_rfl, by kernel_rfl⟩
theorem ty16 : TyIs Try.prog 16 false 1 := fun w => ⟨by kernel_rfl, by kernel_rfl⟩
theorem ty17 : TyIs Try.prog 17 false 1 := fun w => ⟨by kernel_rfl, by kernel_rfl⟩
theorem ty18 : TyIs Try.prog 18 true 1 := fun w => ⟨by kernel_rfl, by kernel_rfl⟩
theorem ty19 : TyIs Try.prog 19 true 1 := fun w => ⟨by kernel_rfl, by kernel_rfl⟩
theorem ty21 : TyIs Try.prog 21 false 1 := fun w => ⟨by kernel_rfl, by kernel_rfl⟩
theorem ty22 : TyIs Try.prog 22 false 1 := fun w => ⟨by kernel_rfl, by kernel_rfl⟩
theorem ty23 : TyIs Try.prog 23 true 2 := fun w => ⟨by kernel_rfl, by kernel_rfl⟩
theorem ty24 : TyIs Try.prog 24 true 2 := fun w => ⟨by kernel_rfl, by kernel_rfl⟩
theorem ty25 : TyIs Try.prog 25 true 3 := fun w => ⟨by kernel_rfl, by kernel_rfl⟩
theorem ty26 : TyIs Try.prog 26 true 3 := fun w => ⟨by kernel_rfl, by kernel_rfl⟩
theorem ty27 : TyIs Try.prog 27 true 6 := fun w => ⟨by kernel_rfl, by kernel_rfl⟩
theorem ty28 : TyIs Try.prog 28 true 6 := fun w => ⟨by kernel_rfl, by kernel_rfl⟩
theorem ty33 : TyIs Try.prog 33 false 1 := fun w => ⟨by kernel_rfl, by kernel_rfl⟩
theorem ty42 : TyIs Try.prog 42 false 1 := fun w => ⟨by kernel_rfl, by kernel_rfl⟩
theorem ty43 : TyIs Try.prog 43 false 1 := fun w => ⟨by kernel_rfl, by kernel_rfl⟩
theorem ty45 : TyIs Try.prog 45 false 1 := fun w => ⟨by kernel_rfl, by kernel_rfl⟩
theorem ty69 : TyIs Try.prog 69 true 12 := fun w => ⟨by kernel_rfl, by kernel_rfl⟩
theorem ty82 : TyIs Try.prog 82 false 1 := fun w => ⟨by kernel_rfl, by kernel_rfl⟩
theorem ty83 : TyIs Try.prog 83 true 6 := fun w => ⟨by kernel_rfl, by kernel_rfl⟩
theorem ty89 : TyIs Try.prog 89 true 3 := fun w => ⟨by kernel_rfl, by kernel_rfl⟩
theorem ty90 : TyIs Try.prog 90 true 3 := fun w => ⟨by kernel_rfl, by kernel_rfl⟩
theorem ty91 : TyIs Try.prog 91 true 4 := fun w => ⟨by kernel_rfl, by kernel_rfl⟩
theorem ty92 : TyIs Try.prog 92 true 4 := fun w => ⟨by kernel_rfl, by kernel_rfl⟩
theorem ty105 : TyIs Try.prog 105 false 1 := fun w => ⟨by kernel_rfl, by kernel_rfl⟩
theorem ty107 : TyIs Try.prog 107 false 1 := fun w => ⟨by kernel_rfl, by kernel_rfl⟩
theorem ty137 : TyIs Try.prog 137 true 4 := fun w => ⟨by kernel_rfl, by kernel_rfl⟩
theorem ty138 : TyIs Try.prog 138 true 4 := fun w => ⟨by kernel_rfl, by kernel_rfl⟩
theorem ty139 : TyIs Try.prog 139 true 0 := fun w => ⟨by kernel_rfl, by kernel_rfl⟩
theorem ty140 : TyIs Try.prog 140 true 0 := fun w => ⟨by kernel_rfl, by kernel_rfl⟩
theorem ty141 : TyIs Try.prog 141 true 0 := fun w => ⟨by kernel_rfl, by kernel_rfl⟩
theorem ty143 : TyIs Try.prog 143 false 1 := fun w => ⟨by kernel_rfl, by kernel_rfl⟩
theorem ty144 : TyIs Try.prog 144 false 1 := fun w => ⟨by kernel_rfl, by kernel_rfl⟩
theorem ty146 : TyIs Try.prog 146 false 1 := fun w => ⟨by kernel_rfl, by kernel_rfl⟩
theorem ty147 : TyIs Try.prog 147 false 1 := fun w => ⟨by kernel_rfl, by kernel_rfl⟩
theorem ty148 : TyIs Try.prog 148 false 1 := fun w => ⟨by kernel_rfl, by kernel_rfl⟩
theorem ty151 : TyIs Try.prog 151 false 1 := fun w => ⟨by kernel_rfl, by kernel_rfl⟩
theorem sl22 : SlIs Try.prog 22 1 := ⟨82, false, by kernel_rfl, ty82⟩
theorem sl33 : SlIs Try.prog 33 3 := ⟨26, true, by kernel_rfl, ty26⟩
theorem sl42 : SlIs Try.prog 42 1 := ⟨3, false, by kernel_rfl, ty3⟩
theorem sl43 : SlIs Try.prog 43 3 := ⟨26, true, by kernel_rfl, ty26⟩
end Go.Proofs.Ytnedhbidmfoegaa
