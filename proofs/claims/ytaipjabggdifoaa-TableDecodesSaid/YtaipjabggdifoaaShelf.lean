/- The contracts of the library that this claim uses, at its program (laid by a tool of the kit, in plain words). -/
import Derived.Shelf.Strings.Builder1
import Derived.Shelf.Strings.Builder2
import Derived.Shelf.Strings.BuilderF
import Derived.Shelf.Strings.BuilderK
import Derived.Shelf.Strings.Builder2Cap
import Derived.Shelf.Strings.Prefix
import Derived.Shelf.Bits.Mul64
import Derived.Shelf.Strings.Repeat
import Derived.Shelf.Strings.BuilderCap
import Derived.Test.YtaipjabggdifoaaProg
namespace Go.Proofs
open Go.Shelf
def Try.lays105_ren : Go.Shelf.Ren := ⟨fun | 105 => 54 | 212 => 78 | 99 => 79 | 165 => 80 | 166 => 81 | 170 => 82 | 169 => 83 | 263 => 90 | 264 => 91 | 206 => 92 | 240 => 93 | 241 => 94 | 276 => 97 | 277 => 98 | n => n, fun | 9 => 9 | 3 => 3 | 4 => 4 | 20 => 20 | 0 => 0 | 46 => 38 | 109 => 127 | 5 => 5 | 72 => 132 | 76 => 135 | 51 => 37 | 146 => 142 | 53 => 100 | 148 => 144 | 70 => 130 | 37 => 29 | 75 => 134 | 127 => 146 | 164 => 149 | 80 => 137 | n => n, fun | n => n⟩
theorem Try.lays105 : Go.Proofs.Lays.n105 Try.prog Try.lays105_ren := {
  mixed := by kernel_rfl
  f99 := Try.func79.trans (congrArg some (by kernel_rfl))
  f105 := Try.func54.trans (congrArg some (by kernel_rfl))
  f165 := Try.func80.trans (congrArg some (by kernel_rfl))
  f166 := Try.func81.trans (congrArg some (by kernel_rfl))
  f169 := Try.func83.trans (congrArg some (by kernel_rfl))
  f170 := Try.func82.trans (congrArg some (by kernel_rfl))
  f206 := Try.func92.trans (congrArg some (by kernel_rfl))
  f212 := Try.func78.trans (congrArg some (by kernel_rfl))
  f240 := Try.func93.trans (congrArg some (by kernel_rfl))
  f241 := Try.func94.trans (congrArg some (by kernel_rfl))
  f263 := Try.func90.trans (congrArg some (by kernel_rfl))
  f264 := Try.func91.trans (congrArg some (by kernel_rfl))
  f276 := Try.func97.trans (congrArg some (by kernel_rfl))
  f277 := Try.func98.trans (congrArg some (by kernel_rfl))
  t0 := Try.underlying0
  a0 := Try.isAgg0
  z0 := Try.sizeOf0
  v0 := Try.zeroValue0
  t3 := Try.underlying3
  a3 := Try.isAgg3
  z3 := Try.sizeOf3
  v3 := Try.zeroValue3
  t4 := Try.underlying4
  a4 := Try.isAgg4
  z4 := Try.sizeOf4
  v4 := Try.zeroValue4
  t5 := Try.underlying5
  a5 := Try.isAgg5
  z5 := Try.sizeOf5
  v5 := Try.zeroValue5
  t9 := Try.underlying9
  a9 := Try.isAgg9
  z9 := Try.sizeOf9
  v9 := Try.zeroValue9
  t20 := Try.underlying20
  a20 := Try.isAgg20
  z20 := Try.sizeOf20
  v20 := Try.zeroValue20
  t37 := Try.underlying29
  a37 := Try.isAgg29
  z37 := Try.sizeOf29
  v37 := Try.zeroValue29
  t46 := Try.underlying38
  a46 := Try.isAgg38
  z46 := Try.sizeOf38
  v46 := Try.zeroValue38
  t51 := Try.underlying37
  a51 := Try.isAgg37
  z51 := Try.sizeOf37
  v51 := Try.zeroValue37
  t53 := Try.underlying100
  a53 := Try.isAgg100
  z53 := Try.sizeOf100
  v53 := Try.zeroValue100
  t70 := Try.underlying130
  a70 := Try.isAgg130
  z70 := Try.sizeOf130
  v70 := Try.zeroValue130
  t72 := Try.underlying132
  a72 := Try.isAgg132
  z72 := Try.sizeOf132
  v72 := Try.zeroValue132
  t75 := Try.underlying134
  a75 := Try.isAgg134
  z75 := Try.sizeOf134
  v75 := Try.zeroValue134
  t76 := Try.underlying135
  a76 := Try.isAgg135
  z76 := Try.sizeOf135
  v76 := Try.zeroValue135
  t109 := Try.underlying127
  a109 := Try.isAgg127
  z109 := Try.sizeOf127
  v109 := Try.zeroValue127
  t127 := Try.underlying146
  a127 := Try.isAgg146
  z127 := Try.sizeOf146
  v127 := Try.zeroValue146
  t146 := Try.underlying142
  a146 := Try.isAgg142
  z146 := Try.sizeOf142
  v146 := Try.zeroValue142
  t148 := Try.underlying144
  a148 := Try.isAgg144
  z148 := Try.sizeOf144
  v148 := Try.zeroValue144
  t164 := Try.underlying149
  a164 := Try.isAgg149
  z164 := Try.sizeOf149
  v164 := Try.zeroValue149 }
theorem Try.Builder_Extra_105 : Builder.Extra Try.prog Try.lays105_ren := {
  sizeBuilder := by kernel_rfl
  liesBuilder := by kernel_rfl
  t5 := Try.underlying5
  a5 := Try.isAgg5
  z5 := Try.sizeOf5
  v5 := Try.zeroValue5
  infoByte := by kernel_rfl
  cellsByte := by kernel_rfl
  sizeByte := by kernel_rfl
  neB5 := by decide }

end Go.Proofs
