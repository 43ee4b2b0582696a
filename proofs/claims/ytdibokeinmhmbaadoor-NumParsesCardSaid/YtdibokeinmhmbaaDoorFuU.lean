/- strconv.ParseUint at base 16. -/
import Derived.Test.YtdibokeinmhmbaaDoorFuT
import Derived.Shelf.Strconv.ToError
import Derived.Shelf.Strconv.ToErrorRange
import Derived.Shelf.Small.Wraps
import Derived.Stop.LaidErr
import Derived.LaidSub
namespace Go.Proofs.YtdibokeinmhmbaaDoor
open Go.RowKit Go.Shelf
set_option linter.unusedVariables false

def Tryd.laysTE_ren : Go.Shelf.Ren := ⟨fun | 245 => 65 | 279 => 79 | 280 => 80 | 281 => 81 | 282 => 82 | 316 => 92 | 171 => 30 | 205 => 93 | 243 => 50 | 246 => 71 | 283 => 67 | 284 => 68 | 285 => 69 | 286 => 70 | 129 => 86 | 317 => 85 | 318 => 87 | 319 => 88 | 320 => 89 | 337 => 96 | 338 => 97 | n => n, fun | 9 => 9 | 3 => 3 | 75 => 67 | 167 => 104 | 4 => 4 | 168 => 106 | 210 => 120 | 37 => 82 | 0 => 0 | 127 => 103 | 145 => 127 | 143 => 125 | 2 => 2 | 171 => 92 | 53 => 22 | 5 => 5 | 173 => 95 | 212 => 111 | 51 => 98 | 20 => 20 | 213 => 112 | 46 => 72 | 232 => 128 | 233 => 129 | 80 => 89 | n => n, fun | 15 => 2 | 16 => 3 | 17 => 1 | 18 => 5 | 19 => 6 | n => n⟩
theorem Tryd.laysTE : Go.Proofs.LaysC.n245 Tryd.prog Tryd.laysTE_ren := {
  mixed := by kernel_rfl
  f129 := Tryd.func86.trans (congrArg some (by kernel_rfl))
  f171 := Tryd.func30.trans (congrArg some (by kernel_rfl))
  f205 := Tryd.func93.trans (congrArg some (by kernel_rfl))
  f243 := Tryd.func50.trans (congrArg some (by kernel_rfl))
  f245 := Tryd.func65.trans (congrArg some (by kernel_rfl))
  f246 := Tryd.func71.trans (congrArg some (by kernel_rfl))
  f279 := Tryd.func79.trans (congrArg some (by kernel_rfl))
  f280 := Tryd.func80.trans (congrArg some (by kernel_rfl))
  f281 := Tryd.func81.trans (congrArg some (by kernel_rfl))
  f282 := Tryd.func82.trans (congrArg some (by kernel_rfl))
  f283 := Tryd.func67.trans (congrArg some (by kernel_rfl))
  f284 := Tryd.func68.trans (congrArg some (by kernel_rfl))
  f285 := Tryd.func69.trans (congrArg some (by kernel_rfl))
  f286 := Tryd.func70.trans (congrArg some (by kernel_rfl))
  f316 := Tryd.func92.trans (congrArg some (by kernel_rfl))
  f317 := Tryd.func85.trans (congrArg some (by kernel_rfl))
  f318 := Tryd.func87.trans (congrArg some (by kernel_rfl))
  f319 := Tryd.func88.trans (congrArg some (by kernel_rfl))
  f320 := Tryd.func89.trans (congrArg some (by kernel_rfl))
  f337 := Tryd.func96.trans (congrArg some (by kernel_rfl))
  f338 := Tryd.func97.trans (congrArg some (by kernel_rfl))
  t0 := Tryd.underlying0
  a0 := Tryd.isAgg0
  z0 := Tryd.sizeOf0
  v0 := Tryd.zeroValue0
  t2 := Tryd.underlying2
  a2 := Tryd.isAgg2
  z2 := Tryd.sizeOf2
  v2 := Tryd.zeroValue2
  t3 := Tryd.underlying3
  a3 := Tryd.isAgg3
  z3 := Tryd.sizeOf3
  v3 := Tryd.zeroValue3
  t4 := Tryd.underlying4
  a4 := Tryd.isAgg4
  z4 := Tryd.sizeOf4
  v4 := Tryd.zeroValue4
  t5 := Tryd.underlying5
  a5 := Tryd.isAgg5
  z5 := Tryd.sizeOf5
  v5 := Tryd.zeroValue5
  t9 := Tryd.underlying9
  a9 := Tryd.isAgg9
  z9 := Tryd.sizeOf9
  v9 := Tryd.zeroValue9
  t20 := Tryd.underlying20
  a20 := Tryd.isAgg20
  z20 := Tryd.sizeOf20
  v20 := Tryd.zeroValue20
  t37 := Tryd.underlying82
  a37 := Tryd.isAgg82
  z37 := Tryd.sizeOf82
  v37 := Tryd.zeroValue82
  t46 := Tryd.underlying72
  a46 := Tryd.isAgg72
  z46 := Tryd.sizeOf72
  v46 := Tryd.zeroValue72
  t51 := Tryd.underlying98
  a51 := Tryd.isAgg98
  z51 := Tryd.sizeOf98
  v51 := Tryd.zeroValue98
  t53 := Tryd.underlying22
  a53 := Tryd.isAgg22
  z53 := Tryd.sizeOf22
  v53 := Tryd.zeroValue22
  t75 := Tryd.underlying67
  a75 := Tryd.isAgg67
  z75 := Tryd.sizeOf67
  v75 := Tryd.zeroValue67
  t127 := Tryd.underlying103
  a127 := Tryd.isAgg103
  z127 := Tryd.sizeOf103
  v127 := Tryd.zeroValue103
  t143 := Tryd.underlying125
  a143 := Tryd.isAgg125
  z143 := Tryd.sizeOf125
  v143 := Tryd.zeroValue125
  t145 := Tryd.underlying127
  a145 := Tryd.isAgg127
  z145 := Tryd.sizeOf127
  v145 := Tryd.zeroValue127
  t167 := Tryd.underlying104
  a167 := Tryd.isAgg104
  z167 := Tryd.sizeOf104
  v167 := Tryd.zeroValue104
  t168 := Tryd.underlying106
  a168 := Tryd.isAgg106
  z168 := Tryd.sizeOf106
  v168 := Tryd.zeroValue106
  t171 := Tryd.underlying92
  a171 := Tryd.isAgg92
  z171 := Tryd.sizeOf92
  v171 := Tryd.zeroValue92
  t173 := Tryd.underlying95
  a173 := Tryd.isAgg95
  z173 := Tryd.sizeOf95
  v173 := Tryd.zeroValue95
  t210 := Tryd.underlying120
  a210 := Tryd.isAgg120
  z210 := Tryd.sizeOf120
  v210 := Tryd.zeroValue120
  t212 := Tryd.underlying111
  a212 := Tryd.isAgg111
  z212 := Tryd.sizeOf111
  v212 := Tryd.zeroValue111
  t213 := Tryd.underlying112
  a213 := Tryd.isAgg112
  z213 := Tryd.sizeOf112
  t232 := Tryd.underlying128
  a232 := Tryd.isAgg128
  z232 := Tryd.sizeOf128
  v232 := Tryd.zeroValue128
  t233 := Tryd.underlying129
  a233 := Tryd.isAgg129
  z233 := Tryd.sizeOf129
  v233 := Tryd.zeroValue129
  g15 := by kernel_rfl
  g16 := by kernel_rfl
  g17 := by kernel_rfl
  g18 := by kernel_rfl
  g19 := by kernel_rfl
  t80 := Tryd.underlying89
  a80 := Tryd.isAgg89
  z80 := Tryd.sizeOf89
  v80 := Tryd.zeroValue89
  i0 := by kernel_rfl
  i2 := by kernel_rfl
  i3 := by kernel_rfl
  i4 := by kernel_rfl
  i5 := by kernel_rfl
  i9 := by kernel_rfl
  i20 := by kernel_rfl
  i37 := by kernel_rfl
  i46 := by kernel_rfl
  i51 := by kernel_rfl
  i53 := by kernel_rfl
  i75 := by kernel_rfl
  i80 := by kernel_rfl
  i127 := by kernel_rfl
  i143 := by kernel_rfl
  i145 := by kernel_rfl
  i167 := by kernel_rfl
  i168 := by kernel_rfl
  i171 := by kernel_rfl
  i173 := by kernel_rfl
  i210 := by kernel_rfl
  i212 := by kernel_rfl
  i232 := by kernel_rfl
  i233 := by kernel_rfl
  m15 := by kernel_rfl
  m16 := by kernel_rfl
  m17 := by kernel_rfl
  m18 := by kernel_rfl
  m19 := by kernel_rfl
  c0 := by kernel_rfl
  c2 := by kernel_rfl
  c3 := by kernel_rfl
  c4 := by kernel_rfl
  c5 := by kernel_rfl
  c9 := by kernel_rfl
  c20 := by kernel_rfl
  c37 := by kernel_rfl
  c46 := by kernel_rfl
  c51 := by kernel_rfl
  c53 := by kernel_rfl
  c75 := by kernel_rfl
  c80 := by kernel_rfl
  c127 := by kernel_rfl
  c143 := by kernel_rfl
  c145 := by kernel_rfl
  c167 := by kernel_rfl
  c168 := by kernel_rfl
  c171 := by kernel_rfl
  c173 := by kernel_rfl
  c210 := by kernel_rfl
  c212 := by kernel_rfl
  c213 := by kernel_rfl
  c232 := by kernel_rfl
  c233 := by kernel_rfl }
def Tryd.laysCP_ren : Go.Shelf.Ren := ⟨fun | 103 => 41 | 210 => 63 | 206 => 74 | n => n, fun | 9 => 9 | 4 => 4 | 24 => 64 | 3 => 3 | n => n, fun | n => n⟩
theorem Tryd.laysCP : Go.Proofs.Lays.n103 Tryd.prog Tryd.laysCP_ren := {
  mixed := by kernel_rfl
  f103 := Tryd.func41.trans (congrArg some (by kernel_rfl))
  f206 := Tryd.func74.trans (congrArg some (by kernel_rfl))
  f210 := Tryd.func63.trans (congrArg some (by kernel_rfl))
  t3 := Tryd.underlying3
  a3 := Tryd.isAgg3
  z3 := Tryd.sizeOf3
  v3 := Tryd.zeroValue3
  t4 := Tryd.underlying4
  a4 := Tryd.isAgg4
  z4 := Tryd.sizeOf4
  v4 := Tryd.zeroValue4
  t9 := Tryd.underlying9
  a9 := Tryd.isAgg9
  z9 := Tryd.sizeOf9
  v9 := Tryd.zeroValue9
  t24 := Tryd.underlying64
  a24 := Tryd.isAgg64
  z24 := Tryd.sizeOf64
  v24 := Tryd.zeroValue64 }

namespace Fu
/-- The two errors' variables hold interface values. -/
def Errs (w : World) : Prop := (∃ t p, w.cell? ⟨2, 0, none⟩ = some (.iface t p)) ∧ (∃ t p, w.cell? ⟨3, 0, none⟩ = some (.iface t p)) ∧ 2 < w.heap.size ∧ 3 < w.heap.size
theorem Errs.later {w w' : World} (h : Errs w) (hb : Below w.heap.size w w') : Errs w' := by
  obtain ⟨⟨t, p, h1⟩, ⟨t', p', h2⟩, h3, h4⟩ := h
  exact ⟨⟨t, p, (hb.cell (p := ⟨2, 0, none⟩) h3).trans h1⟩, ⟨t', p', (hb.cell (p := ⟨3, 0, none⟩) h4).trans h2⟩, Nat.lt_of_lt_of_le h3 hb.size, Nat.lt_of_lt_of_le h4 hb.size⟩
theorem cut_any (s : ByteArray) (w : World) :
    Calls Tryd.prog 41 #[.string s, .string ⟨#[120]⟩] w fun e w' => e = .returned (.tuple #[.string ⟨(Lib.trimPrefix s.data.toList [120]).toArray⟩, .bool (Lib.hasPrefix s.data.toList [120])]) ∧ w' = w :=
  Any.strings_CutPrefix Tryd.laysCP s ⟨#[120]⟩ w
/-- What strconv.ParseUint gives. -/
def SuOut (l : List UInt8) (w : World) (e : Ending) (w' : World) : Prop :=
  ∃ (b : Int) (x : Value), e = .returned (.tuple #[.int .u64 b, x]) ∧ 0 ≤ b ∧ b < 18446744073709551616 ∧ (x = .nilIface ∨ ∃ t p, x = .iface t p) ∧ (goodH l → x = .nilIface ∧ b = hexval l) ∧ Below w.heap.size w w'
set_option maxHeartbeats 1000000 in
set_option maxRecDepth 100000 in
theorem su16_any (t : ByteArray) (hmax : t.size ≤ 1000) (w : World) (he : Errs w) :
    Calls Tryd.prog 42 #[.string t, .int .i64 16, .int .i64 64] w fun e w' => SuOut t.data.toList w e w' := by
  have HP := Lib.hid (pu16_any t hmax w)
  have TS : Hid (∀ W, Below w.heap.size w W → Calls Tryd.prog 65 #[.string ⟨#[80, 97, 114, 115, 101, 85, 105, 110, 116]⟩, .string t, .int .i64 16, .int .i64 64, .iface 104 (.int .i64 2)] W fun e w' => (∃ tt p, e = .returned (.iface tt p)) ∧ Below W.heap.size W w') := Lib.hid fun W hW => by
    obtain ⟨⟨te, pe, h1⟩, -, -, -⟩ := he.later hW
    exact (Any.strconv_toError_syntax Tryd.laysTE ⟨#[80, 97, 114, 115, 101, 85, 105, 110, 116]⟩ t 16 64 _ W (by omega) h1 (.inr ⟨te, pe, rfl⟩)).mono fun e w' ⟨N, h, _, _, hb⟩ => ⟨⟨_, _, h⟩, hb⟩
  have TR : Hid (∀ W, Below w.heap.size w W → Calls Tryd.prog 65 #[.string ⟨#[80, 97, 114, 115, 101, 85, 105, 110, 116]⟩, .string t, .int .i64 16, .int .i64 64, .iface 104 (.int .i64 1)] W fun e w' => (∃ tt p, e = .returned (.iface tt p)) ∧ Below W.heap.size W w') := Lib.hid fun W hW => by
    obtain ⟨-, ⟨te, pe, h1⟩, -, -⟩ := he.later hW
    exact (Any.strconv_toError_range Tryd.laysTE ⟨#[80, 97, 114, 115, 101, 85, 105, 110, 116]⟩ t 16 64 _ W (by omega) h1 (.inr ⟨te, pe, rfl⟩)).mono fun e w' ⟨N, h, _, _, hb⟩ => ⟨⟨_, _, h⟩, hb⟩
  clear he hmax
  go_enter Tryd.func42, Tryd.ntmps42
  go_wp2_with fail
  refine HP.out.mono ?_
  rintro e w1 ⟨b, x, rfl, b0, b1, hx, hg, hb⟩
  have HG := Lib.hid hg
  have HB := Lib.hid hb
  clear hg hb HP
  rcases hx with rfl | rfl | rfl
  · go_wp2_with fail
    go_ret2
    exact ⟨_, _, rfl, b0, b1, .inl rfl, fun g => ⟨rfl, (HG.out g).2⟩, HB.out⟩
  · have HN : Hid (¬ goodH t.data.toList) := Lib.hid (fun g => by cases (HG.out g).1)
    go_wp2_with fail
    refine (TR.out _ HB.out).mono ?_
    rintro e w2 ⟨⟨tt, p, rfl⟩, hb2⟩
    have HB2 := Lib.hid (HB.out.trans (hb2.mono HB.out.size))
    clear hb2
    go_wp2_with fail
    go_ret2
    exact ⟨_, _, rfl, b0, b1, .inr ⟨_, _, rfl⟩, fun g => absurd g HN.out, HB2.out⟩
  · have HN : Hid (¬ goodH t.data.toList) := Lib.hid (fun g => by cases (HG.out g).1)
    go_wp2_with fail
    refine (TS.out _ HB.out).mono ?_
    rintro e w2 ⟨⟨tt, p, rfl⟩, hb2⟩
    have HB2 := Lib.hid (HB.out.trans (hb2.mono HB.out.size))
    clear hb2
    go_wp2_with fail
    go_ret2
    exact ⟨_, _, rfl, b0, b1, .inr ⟨_, _, rfl⟩, fun g => absurd g HN.out, HB2.out⟩
end Fu
end Go.Proofs.YtdibokeinmhmbaaDoor
