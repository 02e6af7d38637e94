/- The sizes of the types. Printed by wip/sym/g_ty.py. -/
import Derived.Test.YtnedhbidmfoegaaGreatFw
import Derived.Test.YtnedhbidmfoegaaGreatProg
import Derived.KernelRfl
namespace Go.Proofs.YtnedhbidmfoegaaGreat
open Go.RowKit
theorem ty2 : TyIs Tryz.prog 2 false 1 := fun w => ⟨by kernel_rfl, by kernel_rfl⟩
theorem ty3 : TyIs Tryz.prog 3 false 1 := fun w => ⟨by kernel_rfl, by kernel_rfl⟩
theorem ty4 : TyIs Tryz.prog 4 false 1 := fun w => ⟨by kernel_rfl, by kernel_rfl⟩
theorem ty5 : TyIs Tryz.prog 5 false 1 := fun w => ⟨by kernel_rfl, by kernel_rfl⟩
theorem ty6 : TyIs Tryz.prog 6 false 1 := fun w => ⟨by kernel_rfl, by kernel_rfl⟩
theorem ty7 : TyIs Tryz.prog 7 true 4 := fun w => ⟨by kernel_rfl, by kernel_rfl⟩
theorem ty8 : TyIs Tryz.prog 8 true 4 := fun w => ⟨by kernel_rfl, by kernel_rfl⟩
theorem ty9 : TyIs Tryz.prog 9 false 1 := fun w => ⟨by kernel_rfl, by kernel_rfl⟩
theorem ty10 : TyIs Tryz.prog 10 false 1 := fun w => ⟨by kernel_rfl, by kernel_rfl⟩
theorem ty11 : TyIs Tryz.prog 11 false 1 := fun w => ⟨by kernel_rfl, by kernel_rfl⟩
theorem ty12 : TyIs Tryz.prog 12 false 1 := fun w => ⟨by kernel_rfl, by kernel_rfl⟩
theorem ty13 : TyIs Tryz.prog 13 true 2 := fun w => ⟨by kernel_rfl, by kernel_rfl⟩
theorem ty14 : TyIs Tryz.prog 14 true 2 := fun w => ⟨by kernel_rfl, by kernel_rfl⟩
theorem ty15 : TyIs Tryz.prog 15 false 1 := fun w => ⟨by kernel_rfl, by kernel_rfl⟩
theorem ty16 : TyIs Tryz.prog 16 false 1 := fun w => ⟨by kernel_rfl, by kernel_rfl⟩
theorem ty17 : TyIs Tryz.prog 17 false 1 := fun w => ⟨by kernel_rfl, by kernel_rfl⟩
theorem ty18 : TyIs Tryz.prog 18 true 1 := fun w => ⟨by kernel_rfl, by kernel_rfl⟩
theorem ty19 : TyIs Tryz.prog 19 true 1 := fun w => ⟨by kernel_rfl, by kernel_rfl⟩
theorem ty21 : TyIs Tryz.prog 21 false 1 := fun w => ⟨by kernel_rfl, by kernel_rfl⟩
theorem ty22 : TyIs Tryz.prog 22 false 1 := fun w => ⟨by kernel_rfl, by kernel_rfl⟩
theorem ty23 : TyIs Tryz.prog 23 true 2 := fun w => ⟨by kernel_rfl, by kernel_rfl⟩
theorem ty24 : TyIs Tryz.prog 24 true 2 := fun w => ⟨by kernel_rfl, by kernel_rfl⟩
theorem ty25 : TyIs Tryz.prog 25 true 3 := fun w => ⟨by kernel_rfl, by kernel_rfl⟩
theorem ty26 : TyIs Tryz.prog 26 true 3 := fun w => ⟨by kernel_rfl, by kernel_rfl⟩
theorem ty27 : TyIs Tryz.prog 27 true 6 := fun w => ⟨by kernel_rfl, by kernel_rfl⟩
theorem ty28 : TyIs Tryz.prog 28 true 6 := fun w => ⟨by kernel_rfl, by kernel_rfl⟩
theorem ty32 : TyIs Tryz.prog 32 false 1 := fun w => ⟨by kernel_rfl, by kernel_rfl⟩
theorem ty40 : TyIs Tryz.prog 40 false 1 := fun w => ⟨by kernel_rfl, by kernel_rfl⟩
theorem ty41 : TyIs Tryz.prog 41 false 1 := fun w => ⟨by kernel_rfl, by kernel_rfl⟩
theorem ty42 : TyIs Tryz.prog 42 false 1 := fun w => ⟨by kernel_rfl, by kernel_rfl⟩
theorem ty81 : TyIs Tryz.prog 81 true 12 := fun w => ⟨by kernel_rfl, by kernel_rfl⟩
theorem ty82 : TyIs Tryz.prog 82 true 6 := fun w => ⟨by kernel_rfl, by kernel_rfl⟩
theorem ty98 : TyIs Tryz.prog 98 false 1 := fun w => ⟨by kernel_rfl, by kernel_rfl⟩
theorem ty99 : TyIs Tryz.prog 99 true 2 := fun w => ⟨by kernel_rfl, by kernel_rfl⟩
theorem ty100 : TyIs Tryz.prog 100 true 2 := fun w => ⟨by kernel_rfl, by kernel_rfl⟩
theorem ty105 : TyIs Tryz.prog 105 false 1 := fun w => ⟨by kernel_rfl, by kernel_rfl⟩
theorem ty113 : TyIs Tryz.prog 113 true 3 := fun w => ⟨by kernel_rfl, by kernel_rfl⟩
theorem ty114 : TyIs Tryz.prog 114 true 3 := fun w => ⟨by kernel_rfl, by kernel_rfl⟩
theorem ty115 : TyIs Tryz.prog 115 true 4 := fun w => ⟨by kernel_rfl, by kernel_rfl⟩
theorem ty116 : TyIs Tryz.prog 116 true 4 := fun w => ⟨by kernel_rfl, by kernel_rfl⟩
theorem ty129 : TyIs Tryz.prog 129 false 1 := fun w => ⟨by kernel_rfl, by kernel_rfl⟩
theorem ty130 : TyIs Tryz.prog 130 false 1 := fun w => ⟨by kernel_rfl, by kernel_rfl⟩
theorem ty160 : TyIs Tryz.prog 160 true 4 := fun w => ⟨by kernel_rfl, by kernel_rfl⟩
theorem ty161 : TyIs Tryz.prog 161 true 4 := fun w => ⟨by kernel_rfl, by kernel_rfl⟩
theorem ty162 : TyIs Tryz.prog 162 true 0 := fun w => ⟨by kernel_rfl, by kernel_rfl⟩
theorem ty163 : TyIs Tryz.prog 163 true 0 := fun w => ⟨by kernel_rfl, by kernel_rfl⟩
theorem ty164 : TyIs Tryz.prog 164 true 0 := fun w => ⟨by kernel_rfl, by kernel_rfl⟩
theorem ty166 : TyIs Tryz.prog 166 false 1 := fun w => ⟨by kernel_rfl, by kernel_rfl⟩
theorem ty167 : TyIs Tryz.prog 167 false 1 := fun w => ⟨by kernel_rfl, by kernel_rfl⟩
theorem ty169 : TyIs Tryz.prog 169 false 1 := fun w => ⟨by kernel_rfl, by kernel_rfl⟩
theorem ty170 : TyIs Tryz.prog 170 false 1 := fun w => ⟨by kernel_rfl, by kernel_rfl⟩
theorem ty171 : TyIs Tryz.prog 171 false 1 := fun w => ⟨by kernel_rfl, by kernel_rfl⟩
theorem ty174 : TyIs Tryz.prog 174 false 1 := fun w => ⟨by kernel_rfl, by kernel_rfl⟩
theorem sl22 : SlIs Tryz.prog 22 1 := ⟨105, false, by kernel_rfl, ty105⟩
theorem sl40 : SlIs Tryz.prog 40 3 := ⟨26, true, by kernel_rfl, ty26⟩
theorem sl41 : SlIs Tryz.prog 41 3 := ⟨26, true, by kernel_rfl, ty26⟩
theorem sl42 : SlIs Tryz.prog 42 1 := ⟨3, false, by kernel_rfl, ty3⟩
end Go.Proofs.YtnedhbidmfoegaaGreat
