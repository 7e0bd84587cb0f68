/-
  DERIVED: THE SHELF's CONTRACTS AT THIS DUMP, IN PLAIN WORDS (tools/lay-plain.mjs out of 'TryShelfR.lean', which tools/lay-shelf.mjs wrote): THE SAME DECLARATIONS UNDER THE SAME NAMES: 'import', 'namespace', 'open', 'def', 'theorem' AND NOTHING ELSE: no command of the shelf's: FOR A HAND-IN. Each laying: the table of numbers ('.._ren') and one theorem, a field a fact of the dump's own or the kernel's comparison; each contract: ONE APPLICATION.
-/
import Derived.Shelf.Strings.Builder1
import Derived.Shelf.Strings.Builder2
import Derived.Shelf.Strings.BuilderF
import Derived.Shelf.Strings.Prefix
import Derived.Shelf.Bits.Mul64
import Derived.Shelf.Strings.Repeat
import Derived.Test.YtmibbklafogbkaaProg
namespace Go.Proofs
open Go.Shelf
def Try.lays105_ren : Go.Shelf.Ren := ⟨fun | 105 => 86 | 212 => 92 | 99 => 93 | 165 => 94 | 166 => 95 | 170 => 96 | 169 => 97 | 263 => 98 | 264 => 99 | 206 => 100 | 240 => 101 | 241 => 102 | 276 => 103 | 277 => 104 | n => n, fun | 9 => 9 | 3 => 3 | 4 => 4 | 20 => 20 | 0 => 0 | 46 => 32 | 109 => 127 | 5 => 5 | 72 => 132 | 76 => 136 | 51 => 22 | 146 => 139 | 53 => 109 | 148 => 141 | 70 => 130 | 37 => 30 | 75 => 135 | 127 => 143 | 164 => 144 | 80 => 51 | n => n, fun | n => n⟩
theorem Try.lays105 : Go.Proofs.Lays.n105 Try.prog Try.lays105_ren := {
  mixed := by kernel_rfl
  f99 := Try.func93.trans (congrArg some (by kernel_rfl))
  f105 := Try.func86.trans (congrArg some (by kernel_rfl))
  f165 := Try.func94.trans (congrArg some (by kernel_rfl))
  f166 := Try.func95.trans (congrArg some (by kernel_rfl))
  f169 := Try.func97.trans (congrArg some (by kernel_rfl))
  f170 := Try.func96.trans (congrArg some (by kernel_rfl))
  f206 := Try.func100.trans (congrArg some (by kernel_rfl))
  f212 := Try.func92.trans (congrArg some (by kernel_rfl))
  f240 := Try.func101.trans (congrArg some (by kernel_rfl))
  f241 := Try.func102.trans (congrArg some (by kernel_rfl))
  f263 := Try.func98.trans (congrArg some (by kernel_rfl))
  f264 := Try.func99.trans (congrArg some (by kernel_rfl))
  f276 := Try.func103.trans (congrArg some (by kernel_rfl))
  f277 := Try.func104.trans (congrArg some (by kernel_rfl))
  t0 := Try.underlying0
  a0 := Try.isAgg0
  z0 := Try.sizeOf0
  v0 := Try.zeroValue0
  t3 := Try.underlying3
  a3 := Try.isAgg3
  z3 := Try.sizeOf3
  v3 := Try.zeroValue3
  t4 := Try.underlying4
  a4 := Try.isAgg4
  z4 := Try.sizeOf4
  v4 := Try.zeroValue4
  t5 := Try.underlying5
  a5 := Try.isAgg5
  z5 := Try.sizeOf5
  v5 := Try.zeroValue5
  t9 := Try.underlying9
  a9 := Try.isAgg9
  z9 := Try.sizeOf9
  v9 := Try.zeroValue9
  t20 := Try.underlying20
  a20 := Try.isAgg20
  z20 := Try.sizeOf20
  v20 := Try.zeroValue20
  t37 := Try.underlying30
  a37 := Try.isAgg30
  z37 := Try.sizeOf30
  v37 := Try.zeroValue30
  t46 := Try.underlying32
  a46 := Try.isAgg32
  z46 := Try.sizeOf32
  v46 := Try.zeroValue32
  t51 := Try.underlying22
  a51 := Try.isAgg22
  z51 := Try.sizeOf22
  v51 := Try.zeroValue22
  t53 := Try.underlying109
  a53 := Try.isAgg109
  z53 := Try.sizeOf109
  v53 := Try.zeroValue109
  t70 := Try.underlying130
  a70 := Try.isAgg130
  z70 := Try.sizeOf130
  v70 := Try.zeroValue130
  t72 := Try.underlying132
  a72 := Try.isAgg132
  z72 := Try.sizeOf132
  v72 := Try.zeroValue132
  t75 := Try.underlying135
  a75 := Try.isAgg135
  z75 := Try.sizeOf135
  v75 := Try.zeroValue135
  t76 := Try.underlying136
  a76 := Try.isAgg136
  z76 := Try.sizeOf136
  v76 := Try.zeroValue136
  t109 := Try.underlying127
  a109 := Try.isAgg127
  z109 := Try.sizeOf127
  v109 := Try.zeroValue127
  t127 := Try.underlying143
  a127 := Try.isAgg143
  z127 := Try.sizeOf143
  v127 := Try.zeroValue143
  t146 := Try.underlying139
  a146 := Try.isAgg139
  z146 := Try.sizeOf139
  v146 := Try.zeroValue139
  t148 := Try.underlying141
  a148 := Try.isAgg141
  z148 := Try.sizeOf141
  v148 := Try.zeroValue141
  t164 := Try.underlying144
  a164 := Try.isAgg144
  z164 := Try.sizeOf144
  v164 := Try.zeroValue144 }
theorem Try.Builder_Extra_105 : Builder.Extra Try.prog Try.lays105_ren := {
  sizeBuilder := by kernel_rfl
  liesBuilder := by kernel_rfl
  t5 := Try.underlying5
  a5 := Try.isAgg5
  z5 := Try.sizeOf5
  v5 := Try.zeroValue5
  infoByte := by kernel_rfl
  cellsByte := by kernel_rfl
  sizeByte := by kernel_rfl
  neB5 := by decide }
open Go.RowKit Go.Lib in
/-- **strings.Repeat: count ≥ 0, the result within one allocation: count copies of s.** (LAID: no walk: one application.) -/
theorem Try.strings_Repeat (s : ByteArray) (c : Nat) (w : World) (hc : c ≤ 9223372036854775807) (hlen : s.size * c ≤ 140737488355328) :
    Calls Try.prog 86 #[.string s, .int .i64 c] w fun e w' => e = .returned (.string ⟨(Lib.repeatL s.data.toList c).toArray⟩) ∧ Below w.heap.size w w' := Any.strings_Repeat Try.lays105 Try.Builder_Extra_105 s c w hc hlen
end Go.Proofs
