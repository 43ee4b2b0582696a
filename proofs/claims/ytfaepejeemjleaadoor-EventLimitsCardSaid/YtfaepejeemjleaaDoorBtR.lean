/- strings.Repeat: the shelf's contract laid at this program. -/
import Derived.Shelf.Strings.Repeat
import Derived.Test.YtfaepejeemjleaaDoorBtJ
namespace Go.Proofs.YtfaepejeemjleaaDoor
open Go.RowKit Go.Shelf

def Tryd.laysRepeat_ren : Go.Shelf.Ren := ⟨fun | 105 => 5 | 212 => 12 | 99 => 13 | 165 => 14 | 166 => 15 | 170 => 16 | 169 => 17 | 263 => 23 | 264 => 24 | 206 => 25 | 240 => 26 | 241 => 27 | 276 => 44 | 277 => 45 | n => n, fun | 9 => 9 | 3 => 3 | 4 => 4 | 20 => 20 | 0 => 0 | 46 => 35 | 109 => 36 | 5 => 5 | 72 => 42 | 76 => 46 | 51 => 61 | 146 => 62 | 53 => 22 | 148 => 64 | 70 => 39 | 37 => 40 | 75 => 45 | 127 => 66 | 164 => 87 | 80 => 49 | n => n, fun | n => n⟩
theorem Tryd.laysRepeat : Go.Proofs.Lays.n105 Tryd.prog Tryd.laysRepeat_ren := {
  mixed := by kernel_rfl
  f99 := Tryd.func13.trans (congrArg some (by kernel_rfl))
  f105 := Tryd.func5.trans (congrArg some (by kernel_rfl))
  f165 := Tryd.func14.trans (congrArg some (by kernel_rfl))
  f166 := Tryd.func15.trans (congrArg some (by kernel_rfl))
  f169 := Tryd.func17.trans (congrArg some (by kernel_rfl))
  f170 := Tryd.func16.trans (congrArg some (by kernel_rfl))
  f206 := Tryd.func25.trans (congrArg some (by kernel_rfl))
  f212 := Tryd.func12.trans (congrArg some (by kernel_rfl))
  f240 := Tryd.func26.trans (congrArg some (by kernel_rfl))
  f241 := Tryd.func27.trans (congrArg some (by kernel_rfl))
  f263 := Tryd.func23.trans (congrArg some (by kernel_rfl))
  f264 := Tryd.func24.trans (congrArg some (by kernel_rfl))
  f276 := Tryd.func44.trans (congrArg some (by kernel_rfl))
  f277 := Tryd.func45.trans (congrArg some (by kernel_rfl))
  t0 := Tryd.underlying0
  a0 := Tryd.isAgg0
  z0 := Tryd.sizeOf0
  v0 := Tryd.zeroValue0
  t3 := Tryd.underlying3
  a3 := Tryd.isAgg3
  z3 := Tryd.sizeOf3
  v3 := Tryd.zeroValue3
  t4 := Tryd.underlying4
  a4 := Tryd.isAgg4
  z4 := Tryd.sizeOf4
  v4 := Tryd.zeroValue4
  t5 := Tryd.underlying5
  a5 := Tryd.isAgg5
  z5 := Tryd.sizeOf5
  v5 := Tryd.zeroValue5
  t9 := Tryd.underlying9
  a9 := Tryd.isAgg9
  z9 := Tryd.sizeOf9
  v9 := Tryd.zeroValue9
  t20 := Tryd.underlying20
  a20 := Tryd.isAgg20
  z20 := Tryd.sizeOf20
  v20 := Tryd.zeroValue20
  t37 := Tryd.underlying40
  a37 := Tryd.isAgg40
  z37 := Tryd.sizeOf40
  v37 := Tryd.zeroValue40
  t46 := Tryd.underlying35
  a46 := Tryd.isAgg35
  z46 := Tryd.sizeOf35
  v46 := Tryd.zeroValue35
  t51 := Tryd.underlying61
  a51 := Tryd.isAgg61
  z51 := Tryd.sizeOf61
  v51 := Tryd.zeroValue61
  t53 := Tryd.underlying22
  a53 := Tryd.isAgg22
  z53 := Tryd.sizeOf22
  v53 := Tryd.zeroValue22
  t70 := Tryd.underlying39
  a70 := Tryd.isAgg39
  z70 := Tryd.sizeOf39
  v70 := Tryd.zeroValue39
  t72 := Tryd.underlying42
  a72 := Tryd.isAgg42
  z72 := Tryd.sizeOf42
  v72 := Tryd.zeroValue42
  t75 := Tryd.underlying45
  a75 := Tryd.isAgg45
  z75 := Tryd.sizeOf45
  v75 := Tryd.zeroValue45
  t76 := Tryd.underlying46
  a76 := Tryd.isAgg46
  z76 := Tryd.sizeOf46
  v76 := Tryd.zeroValue46
  t109 := Tryd.underlying36
  a109 := Tryd.isAgg36
  z109 := Tryd.sizeOf36
  v109 := Tryd.zeroValue36
  t127 := Tryd.underlying66
  a127 := Tryd.isAgg66
  z127 := Tryd.sizeOf66
  v127 := Tryd.zeroValue66
  t146 := Tryd.underlying62
  a146 := Tryd.isAgg62
  z146 := Tryd.sizeOf62
  v146 := Tryd.zeroValue62
  t148 := Tryd.underlying64
  a148 := Tryd.isAgg64
  z148 := Tryd.sizeOf64
  v148 := Tryd.zeroValue64
  t164 := Tryd.underlying87
  a164 := Tryd.isAgg87
  z164 := Tryd.sizeOf87
  v164 := Tryd.zeroValue87 }

theorem Tryd.extraRepeat : Builder.Extra Tryd.prog Tryd.laysRepeat_ren := {
  sizeBuilder := by kernel_rfl
  liesBuilder := by kernel_rfl
  t5 := Tryd.laysRepeat.t5
  a5 := Tryd.laysRepeat.a5
  z5 := Tryd.laysRepeat.z5
  v5 := Tryd.laysRepeat.v5
  infoByte := by kernel_rfl
  cellsByte := by kernel_rfl
  sizeByte := by kernel_rfl
  neB5 := by decide }

namespace Bt
theorem repeat_any (s : ByteArray) (c : Nat) (w : World) (hc : c ≤ 9223372036854775807) (hlen : s.size * c ≤ 140737488355328) :
    Calls Tryd.prog 5 #[.string s, .int .i64 c] w fun e w' => e = .returned (.string ⟨(Lib.repeatL s.data.toList c).toArray⟩) ∧ Below w.heap.size w w' :=
  Any.strings_Repeat Tryd.laysRepeat Tryd.extraRepeat s c w hc hlen
end Bt
end Go.Proofs.YtfaepejeemjleaaDoor
