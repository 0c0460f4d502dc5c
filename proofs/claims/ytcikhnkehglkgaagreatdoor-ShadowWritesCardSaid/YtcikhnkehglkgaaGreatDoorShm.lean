/-
  DERIVED: THE SHELF's CONTRACTS AT THIS DUMP, IN PLAIN WORDS (tools/lay-plain.mjs out of 'YtcikhnkehglkgaaGreatDoorShRawM.lean', which tools/lay-shelf.mjs wrote): THE SAME DECLARATIONS UNDER THE SAME NAMES: 'import', 'namespace', 'open', 'def', 'theorem' AND NOTHING ELSE: no command of the shelf's: FOR A HAND-IN. Each laying: the table of numbers ('.._ren') and one theorem, a field a fact of the dump's own or the kernel's comparison; each contract: ONE APPLICATION.
-/
import Derived.Shelf.Bits.Mul64
import Derived.Shelf.Bytes.SlEqualAll
import Derived.Ground.NamesProg
import Derived.Test.YtcikhnkehglkgaaGreatDoorProg
namespace Go.Proofs
open Go.Shelf
def Tryz.mulA_ren : Go.Shelf.Ren := ⟨fun | 212 => 110 | 263 => 131 | 264 => 132 | n => n, fun | 46 => 140 | 51 => 106 | 146 => 156 | 53 => 36 | 148 => 158 | n => n, fun | n => n⟩
theorem Tryz.mulA : Go.Proofs.Lays.n212 Tryz.prog Tryz.mulA_ren := {
  mixed := by kernel_rfl
  f212 := Tryz.func110.trans (congrArg some (by kernel_rfl))
  f263 := Tryz.func131.trans (congrArg some (by kernel_rfl))
  f264 := Tryz.func132.trans (congrArg some (by kernel_rfl))
  t46 := Tryz.underlying140
  a46 := Tryz.isAgg140
  z46 := Tryz.sizeOf140
  v46 := Tryz.zeroValue140
  t51 := Tryz.underlying106
  a51 := Tryz.isAgg106
  z51 := Tryz.sizeOf106
  v51 := Tryz.zeroValue106
  t53 := Tryz.underlying36
  a53 := Tryz.isAgg36
  z53 := Tryz.sizeOf36
  v53 := Tryz.zeroValue36
  t146 := Tryz.underlying156
  a146 := Tryz.isAgg156
  z146 := Tryz.sizeOf156
  v146 := Tryz.zeroValue156
  t148 := Tryz.underlying158
  a148 := Tryz.isAgg158
  z148 := Tryz.sizeOf158
  v148 := Tryz.zeroValue158 }
def Tryz.equalA_ren : Go.Shelf.Ren := ⟨fun | 115 => 57 | n => n, fun | 37 => 27 | 4 => 4 | 9 => 9 | 5 => 5 | n => n, fun | n => n⟩
theorem Tryz.equalA : Go.Proofs.Lays.nb115 Tryz.prog Tryz.equalA_ren := {
  mixed := by kernel_rfl
  f115 := Tryz.func57.trans (congrArg some (by kernel_rfl))
  t4 := Tryz.underlying4
  a4 := Tryz.isAgg4
  z4 := Tryz.sizeOf4
  v4 := Tryz.zeroValue4
  t9 := Tryz.underlying9
  a9 := Tryz.isAgg9
  z9 := Tryz.sizeOf9
  v9 := Tryz.zeroValue9
  t37 := Tryz.underlying27
  a37 := Tryz.isAgg27
  z37 := Tryz.sizeOf27
  v37 := Tryz.zeroValue27
  t5 := Tryz.underlying5
  a5 := Tryz.isAgg5
  z5 := Tryz.sizeOf5
  v5 := Tryz.zeroValue5 }
end Go.Proofs
