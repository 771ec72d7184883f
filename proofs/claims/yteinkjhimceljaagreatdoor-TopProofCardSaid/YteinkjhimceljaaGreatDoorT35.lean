/- DERIVED: THE SHELF's CONTRACTS AT THIS DUMP, IN PLAIN WORDS (tools/lay-plain.mjs out of 'YteinkjhimceljaaGreatDoorHsSrc.lean', which tools/lay-shelf.mjs wrote): THE SAME DECLARATIONS UNDER THE SAME NAMES: 'import', 'namespace', 'open', 'def', 'theorem' AND NOTHING ELSE: no command of the shelf's: FOR A HAND-IN. Each laying: the table of numbers ('.._ren') and one theorem, a field a fact of the dump's own or the kernel's comparison; each contract: ONE APPLICATION. -/
import Derived.Shelf.SlSortCmp.NoneTotal
import Derived.Shelf.Slices.Clone
import Derived.Shelf.Slices.Cells
import Derived.Shelf.Small.Wraps
import Derived.Ground.SlsfProg
import Derived.Ground.NamesProg
import Derived.Ground.Names2Prog
import Derived.Shelf.SlGeneric
import Derived.Test.YteinkjhimceljaaGreatDoorProg
namespace Go.Proofs
open Go.Shelf
def Tryz.sortL_ren : Go.Shelf.Ren := ⟨fun | 6 => 107 | 15 => 112 | 14 => 132 | 28 => 142 | 29 => 143 | 20 => 157 | 21 => 158 | 22 => 159 | 23 => 160 | 24 => 161 | 25 => 162 | 26 => 163 | 27 => 164 | 46 => 193 | 47 => 166 | 48 => 167 | 49 => 194 | 50 => 195 | 57 => 213 | n => n, fun | 22 => 56 | 24 => 3 | 25 => 171 | 3 => 3 | 39 => 179 | 0 => 0 | 53 => 205 | 55 => 207 | 4 => 4 | 46 => 198 | 45 => 197 | 50 => 45 | 5 => 5 | 9 => 9 | 66 => 227 | 70 => 231 | 76 => 251 | 77 => 252 | n => n, fun | n => n⟩
theorem Tryz.sortL : Go.Proofs.SlLaysF.n6 Tryz.prog Tryz.sortL_ren := {
 mixed := by kernel_rfl
 f6 := ⟨Tryz.f107.name, by decide, Tryz.func107.trans (congrArg some (by kernel_rfl))⟩
 f14 := ⟨Tryz.f132.name, by decide, Tryz.func132.trans (congrArg some (by kernel_rfl))⟩
 f15 := Tryz.func112.trans (congrArg some (by kernel_rfl))
 f20 := ⟨Tryz.f157.name, by decide, Tryz.func157.trans (congrArg some (by kernel_rfl))⟩
 f21 := ⟨Tryz.f158.name, by decide, Tryz.func158.trans (congrArg some (by kernel_rfl))⟩
 f22 := ⟨Tryz.f159.name, by decide, Tryz.func159.trans (congrArg some (by kernel_rfl))⟩
 f23 := ⟨Tryz.f160.name, by decide, Tryz.func160.trans (congrArg some (by kernel_rfl))⟩
 f24 := ⟨Tryz.f161.name, by decide, Tryz.func161.trans (congrArg some (by kernel_rfl))⟩
 f25 := ⟨Tryz.f162.name, by decide, Tryz.func162.trans (congrArg some (by kernel_rfl))⟩
 f26 := ⟨Tryz.f163.name, by decide, Tryz.func163.trans (congrArg some (by kernel_rfl))⟩
 f27 := ⟨Tryz.f164.name, by decide, Tryz.func164.trans (congrArg some (by kernel_rfl))⟩
 f28 := Tryz.func142.trans (congrArg some (by kernel_rfl))
 f29 := Tryz.func143.trans (congrArg some (by kernel_rfl))
 f46 := ⟨Tryz.f193.name, by decide, Tryz.func193.trans (congrArg some (by kernel_rfl))⟩
 f47 := Tryz.func166.trans (congrArg some (by kernel_rfl))
 f48 := Tryz.func167.trans (congrArg some (by kernel_rfl))
 f49 := ⟨Tryz.f194.name, by decide, Tryz.func194.trans (congrArg some (by kernel_rfl))⟩
 f50 := ⟨Tryz.f195.name, by decide, Tryz.func195.trans (congrArg some (by kernel_rfl))⟩
 f57 := ⟨Tryz.f213.name, by decide, Tryz.func213.trans (congrArg some (by kernel_rfl))⟩
 t0 := Tryz.underlying0
 a0 := Tryz.isAgg0
 z0 := Tryz.sizeOf0
 v0 := Tryz.zeroValue0
 t3 := Tryz.underlying3
 a3 := Tryz.isAgg3
 z3 := Tryz.sizeOf3
 v3 := Tryz.zeroValue3
 t4 := Tryz.underlying4
 a4 := Tryz.isAgg4
 z4 := Tryz.sizeOf4
 v4 := Tryz.zeroValue4
 t5 := Tryz.underlying5
 a5 := Tryz.isAgg5
 z5 := Tryz.sizeOf5
 v5 := Tryz.zeroValue5
 t9 := Tryz.underlying9
 a9 := Tryz.isAgg9
 z9 := Tryz.sizeOf9
 v9 := Tryz.zeroValue9
 t22 := Tryz.underlying56
 a22 := Tryz.isAgg56
 z22 := Tryz.sizeOf56
 v22 := Tryz.zeroValue56
 a24 := Tryz.isAgg3
 z24 := Tryz.sizeOf3
 t25 := Tryz.underlying171
 a25 := Tryz.isAgg171
 z25 := Tryz.sizeOf171
 v25 := Tryz.zeroValue171
 t39 := Tryz.underlying179
 a39 := Tryz.isAgg179
 z39 := Tryz.sizeOf179
 v39 := Tryz.zeroValue179
 t45 := Tryz.underlying197
 a45 := Tryz.isAgg197
 z45 := Tryz.sizeOf197
 v45 := Tryz.zeroValue197
 t46 := Tryz.underlying198
 a46 := Tryz.isAgg198
 z46 := Tryz.sizeOf198
 v46 := Tryz.zeroValue198
 t50 := Tryz.underlying45
 a50 := Tryz.isAgg45
 z50 := Tryz.sizeOf45
 v50 := Tryz.zeroValue45
 t53 := Tryz.underlying205
 a53 := Tryz.isAgg205
 z53 := Tryz.sizeOf205
 v53 := Tryz.zeroValue205
 t55 := Tryz.underlying207
 a55 := Tryz.isAgg207
 z55 := Tryz.sizeOf207
 v55 := Tryz.zeroValue207
 t66 := Tryz.underlying227
 a66 := Tryz.isAgg227
 z66 := Tryz.sizeOf227
 v66 := Tryz.zeroValue227
 t70 := Tryz.underlying231
 a70 := Tryz.isAgg231
 z70 := Tryz.sizeOf231
 v70 := Tryz.zeroValue231
 t76 := Tryz.underlying251
 a76 := Tryz.isAgg251
 z76 := Tryz.sizeOf251
 v76 := Tryz.zeroValue251
 t77 := Tryz.underlying252
 a77 := Tryz.isAgg252
 z77 := Tryz.sizeOf252
 v77 := Tryz.zeroValue252 }
def Tryz.compactL_ren : Go.Shelf.Ren := ⟨fun | 20 => 109 | n => n, fun | 22 => 56 | 3 => 3 | 4 => 4 | 0 => 0 | n => n, fun | n => n⟩
theorem Tryz.compactL : Go.Proofs.Lays2.n20 Tryz.prog Tryz.compactL_ren := {
 mixed := by kernel_rfl
 f20 := Tryz.func109.trans (congrArg some (by kernel_rfl))
 t0 := Tryz.underlying0
 a0 := Tryz.isAgg0
 z0 := Tryz.sizeOf0
 v0 := Tryz.zeroValue0
 t3 := Tryz.underlying3
 a3 := Tryz.isAgg3
 z3 := Tryz.sizeOf3
 v3 := Tryz.zeroValue3
 t4 := Tryz.underlying4
 a4 := Tryz.isAgg4
 z4 := Tryz.sizeOf4
 v4 := Tryz.zeroValue4
 t22 := Tryz.underlying56
 a22 := Tryz.isAgg56
 z22 := Tryz.sizeOf56
 v22 := Tryz.zeroValue56
 i3 := by kernel_rfl }
def Tryz.cmpL_ren : Go.Shelf.Ren := ⟨fun | 122 => 101 | 215 => 129 | n => n, fun | 3 => 3 | 4 => 4 | n => n, fun | n => n⟩
theorem Tryz.cmpL : Go.Proofs.Lays.n122 Tryz.prog Tryz.cmpL_ren := {
 mixed := by kernel_rfl
 f122 := Tryz.func101.trans (congrArg some (by kernel_rfl))
 f215 := Tryz.func129.trans (congrArg some (by kernel_rfl))
 t3 := Tryz.underlying3
 a3 := Tryz.isAgg3
 z3 := Tryz.sizeOf3
 v3 := Tryz.zeroValue3
 t4 := Tryz.underlying4
 a4 := Tryz.isAgg4
 z4 := Tryz.sizeOf4
 v4 := Tryz.zeroValue4 }
end Go.Proofs
