/- clockworklaw11's alive. -/
/- EventSame: the walk. -/
/- Events that came in, opened; the listed tables; EventSame. -/
/- Batches that came in, of small bulk; BatchSame. -/
import Derived.Test.YtpneejlilgepfaaGreatDoorMbav
import Derived.Test.YtpneejlilgepfaaGreatDoorMbaw
import Derived.Test.YtpneejlilgepfaaGreatDoorMbax
import Derived.Test.YtpneejlilgepfaaGreatDoorRows
import Derived.ChangeMaps5
import Derived.ChangeArms
import Derived.Deep.Draws
import Derived.ProofKit
import Derived.OpenShut
import Derived.Lib.SmallJoins
import Derived.Lib.LaidTab
import Derived.LaidSub
import Derived.Test.YtpneejlilgepfaaGreatDoorMbay
import Derived.Test.YtpneejlilgepfaaGreatDoorMban
namespace Go.Proofs.YtpneejlilgepfaaGreatDoor
open Go.RowKit
set_option linter.unusedVariables false
namespace Bt
open Vt (VT Rep BoxAt below_drew)
open Ev (EV FieldsOk ERep evCells vCells zeroT EBox nameOf fieldsOf rowCellsOf of_in evalid_any)

def e5 : EV := ⟨5, 5, 0, 0, ⟨#[]⟩, ⟨#[]⟩, zeroT⟩
theorem e5_rep (w : World) : ERep w 0 0 e5 (.agg #[.int .i64 5, .int .u64 5, .int .i64 0, .int .u64 0, .string ⟨#[]⟩, .string ⟨#[]⟩, .int .i64 0, .int .i64 0, .float .f64 0, .string ⟨#[]⟩, .slice none 0 0]) :=
  ⟨⟨by decide, by decide, by decide, by decide, by decide, by decide, by decide, by decide⟩, 0, 0, 0, ⟨#[]⟩, none, 0, 0, rfl, Rep.leaf ⟨by omega, by omega, by omega, by omega, by omega, by decide, by decide⟩⟩
theorem zero_valid : zeroT.valid 8 = true := by unfold zeroT; rw [Vt.valid_mk]; simp; decide
theorem e5_valid : e5.valid = true := by
  unfold EV.valid Ev.goodL e5
  simp [fieldsOf, Vt.same_refl, Ev.pickB]
  try decide
theorem five_bytes (w : World) : Calls Tryz.prog 25 #[.agg #[.int .i64 5, .int .u64 5, .int .i64 0, .int .u64 0, .string ⟨#[]⟩, .string ⟨#[]⟩, .int .i64 0, .int .i64 0, .float .f64 0, .string ⟨#[]⟩, .slice none 0 0]] w fun e w' => ∃ v, e = .returned (.tuple #[v, .bool true]) ∧ BOwn w' w.heap.size v [1, 5, 5] ∧ Below w.heap.size w w' := by
  have h := ebytes_walk 5 5 0 0 ⟨#[]⟩ ⟨#[]⟩ (by omega) (by omega) (by omega) (by omega) (by decide) (by decide) 0 0 0 ⟨#[]⟩ none 0 0 (nameOf 5) true false false false false false [0] (by simp) w
    (fun W hW => (evalid_any e5 W 0 0 _ (e5_rep W) (Nat.zero_le _)).mono fun r w' h => by rw [e5_valid] at h; exact h)
    (fun W => of_in 5 (by omega) (by omega) W)
    (fun W hW => vbytes0 zeroT 0 0 0 0 ⟨#[]⟩ none 0 0 W (Rep.leaf ⟨by omega, by omega, by omega, by omega, by omega, by decide, by decide⟩) (Nat.zero_le _) zero_valid)
  exact h
theorem five_text (w : World) : Calls Tryz.prog 27 #[.agg #[.int .i64 5, .int .u64 5, .int .i64 0, .int .u64 0, .string ⟨#[]⟩, .string ⟨#[]⟩, .int .i64 0, .int .i64 0, .float .f64 0, .string ⟨#[]⟩, .slice none 0 0]] w fun e w' => e = .returned (.string ⟨#[102, 105, 114, 101, 100, 32, 53]⟩) ∧ Below w.heap.size w w' := by
  have h := etext_walk 5 5 0 0 ⟨#[]⟩ ⟨#[]⟩ 0 0 0 ⟨#[]⟩ none 0 0 (nameOf 5) ⟨#[53]⟩ ⟨#[48]⟩ ⟨#[48]⟩ ⟨#[34, 34]⟩ ⟨#[34, 34]⟩ ⟨#[110, 105, 108]⟩ true false false false false false w (by decide)
    (fun W hW => (evalid_any e5 W 0 0 _ (e5_rep W) (Nat.zero_le _)).mono fun r w' h => by rw [e5_valid] at h; exact h)
    (fun W => of_in 5 (by omega) (by omega) W)
    (fun W _ => (fmt5 W).mono fun r w' h => ⟨h.1, by rw [h.2]; exact Below.refl _ _⟩)
    (fun W _ => (itoa0 W).mono fun r w' h => ⟨h.1, by rw [h.2]; exact Below.refl _ _⟩)
    (fun W _ => (fmt0 W).mono fun r w' h => ⟨h.1, by rw [h.2]; exact Below.refl _ _⟩)
    (fun W _ => quoted0 W) (fun W _ => quoted0 W)
    (fun W hW => vtext_none zeroT 0 0 0 0 ⟨#[]⟩ none 0 0 W (Rep.leaf ⟨by omega, by omega, by omega, by omega, by omega, by decide, by decide⟩) (Nat.zero_le _) zero_valid _ (fun W => none_text 0 0 ⟨#[]⟩ none 0 0 0 W))
  exact h

theorem BOwn.three {w : World} {base : Nat} {v : Value} {a b c : Nat} (h : BOwn w base v [a, b, c]) : ∃ g cap, v = .slice (some ⟨g, 0, none⟩) 3 cap ∧ base ≤ g ∧ 3 ≤ cap ∧ g < w.heap.size ∧ w.cell? ⟨g, 0, none⟩ = some (.int .u8 a) ∧ w.cell? ⟨g, 1, none⟩ = some (.int .u8 b) ∧ w.cell? ⟨g, 2, none⟩ = some (.int .u8 c) := by
  rcases h.2 with ⟨h1, h2⟩ | ⟨g, cap, cur, rfl, q2, q3, q4, q5, q6, q7⟩
  · simp at h2
  · refine ⟨g, cap, rfl, q2, q4, (Array.getElem?_eq_some_iff.1 q3).1, ?_, ?_, ?_⟩
    all_goals
      have q8 : cur.toList.take 3 = [.int .u8 (a : Int), .int .u8 (b : Int), .int .u8 (c : Int)] := q7
      simp only [World.cell?, q3]
      rw [← Array.getElem?_toList]
    · rw [← List.getElem?_take_of_lt (l := cur.toList) (j := 3) (by omega), q8]; rfl
    · rw [← List.getElem?_take_of_lt (l := cur.toList) (j := 3) (by omega), q8]; rfl
    · rw [← List.getElem?_take_of_lt (l := cur.toList) (j := 3) (by omega), q8]; rfl

set_option maxRecDepth 100000 in
theorem alive_any (w : World) : Calls Tryz.prog 17 #[] w fun e w' => e = .returned (.bool true) ∧ Below w.heap.size w w' := by
  obtain ⟨W0, hW0⟩ : ∃ W0, W0 = w.alloc (.cells #[.int .i64 5, .int .u64 5, .int .i64 0, .int .u64 0, .string ⟨#[]⟩, .string ⟨#[]⟩, .int .i64 0, .int .i64 0, .float .f64 0, .string ⟨#[]⟩, .slice none 0 0] 43) := ⟨_, rfl⟩
  have HB0 : Hid (Below w.heap.size w W0) := Lib.hid (by rw [hW0]; exact (Below.refl _ _).alloc (Nat.le_refl _) _)
  have hbx : EBox W0 w.heap.size #[.int .i64 5, .int .u64 5, .int .i64 0, .int .u64 0, .string ⟨#[]⟩, .string ⟨#[]⟩, .int .i64 0, .int .i64 0, .float .f64 0, .string ⟨#[]⟩, .slice none 0 0] := by rw [hW0]; exact heap_alloc_new w _
  have hzz : w.heap.size < W0.heap.size := by rw [hW0]; simp
  have HY := Lib.hid (five_bytes W0)
  have HT := Lib.hid five_text
  obtain ⟨a0, a1, a2, a3, a4, a5, a6, a7, a8, a9, a10⟩ := EBox.cells hbx
  have HX := Lib.hid hbx
  clear hbx
  replace hW0 := Lib.hid hW0
  go_enter Tryz.func17, Tryz.ntmps17
  go_upto_region 2 with fail
  rw [← hW0.out]
  go_wp2_with fail
  refine HY.out.mono ?_
  rintro e w1 ⟨v, rfl, hown, hb⟩
  obtain ⟨g, cap, rfl, hg0, hg1, hg2, c0, c1, c2⟩ := BOwn.three hown
  have hbx := HX.out.later hb hzz
  have HB1 : Hid (Below w.heap.size w w1) := Lib.hid (HB0.out.trans (hb.mono HB0.out.size))
  clear a0 a1 a2 a3 a4 a5 a6 a7 a8 a9 a10 hown hb HY HX
  obtain ⟨a0, a1, a2, a3, a4, a5, a6, a7, a8, a9, a10⟩ := EBox.cells hbx
  clear hbx
  go_wp2_with fail
  refine (HT.out _).mono ?_
  rintro e w2 ⟨rfl, hb2⟩
  have HB2 : Hid (Below w.heap.size w w2) := Lib.hid (HB1.out.trans (hb2.mono HB1.out.size))
  clear hb2
  go_wp2_with fail
  go_ret
  exact ⟨by first | rfl | simp, HB2.out⟩

end Bt
end Go.Proofs.YtpneejlilgepfaaGreatDoor
namespace Go.Proofs.YtpneejlilgepfaaGreatDoor
open Go.RowKit
set_option linter.unusedVariables false
set_option linter.unusedSimpArgs false
namespace Vf
open _root_.Go.Proofs.YtpneejlilgepfaaGreatDoor.Nm (bitsW ret_int ret_bool)
open Vt (VT Rep BoxAt below_drew KidsAt HeadOk)
open Ev (EV FieldsOk evCells vCells EBox ERep zeroT take_drop cons_drop nameOf fieldsOf of_in evalid_any)
open Cm (evsSame evSame evSame_refl rsev_any evsame_cut)
open Bt (BOwn BIn PIn ubytes sb bv alive_any)

/-- What event.Bytes leaves. -/
def BRes (e : EV) (w : World) (r : Ending) (w' : World) : Prop := ∃ v, r = .returned (.tuple #[v, .bool e.valid]) ∧ (e.valid = true → BRd w' v (eform e)) ∧ Below w.heap.size w w'
theorem bres_any (e : EV) (hf : FieldsOk e) (hfew : e.v.few = true) (lo hi : Nat) (vk vn : Int) (vf : Nat) (vs : ByteArray) (A : Option Addr) (m c : Nat) (w : World) (hv : Rep w lo hi e.v (vCells vk vn vf vs A m c)) (hz : hi ≤ w.heap.size) :
    Calls Tryz.prog 25 #[.agg (evCells e vk vn vf vs A m c)] w (BRes e w) := by
  by_cases h : e.valid = true
  · refine (ebytes_any e h hf hfew lo hi vk vn vf vs A m c w hv hz).mono fun r w' ⟨v, h1, h2, h3⟩ => ⟨v, by rw [h]; exact h1, fun _ => brd_own h2, h3⟩
  · have h' := Bool.eq_false_iff.2 h
    refine (ebytes_no e h' hf lo hi vk vn vf vs A m c w hv hz).mono fun r w' ⟨h1, h2⟩ => ⟨.slice none 0 0, by rw [h']; exact h1, fun hh => absurd hh h, h2⟩
theorem str_eq (x y : ByteArray) : (x.toList == y.toList) = decide (x = y) := by
  rw [Vt.toList_data, Vt.toList_data]
  by_cases h : x = y
  · subst h; simp
  · rw [decide_eq_false h]
    refine beq_eq_false_iff_ne.2 fun e => h ?_
    cases x with | mk x => cases y with | mk y => simp at e; rw [e]
theorem efew_v {e : EV} (h : efew e = true) : e.v.few = true := by
  unfold efew at h
  simp only [Bool.and_eq_true] at h
  exact h.1.1

end Vf
end Go.Proofs.YtpneejlilgepfaaGreatDoor
namespace Go.Proofs.YtpneejlilgepfaaGreatDoor
open Go.RowKit
set_option linter.unusedVariables false
set_option linter.unusedSimpArgs false
namespace Vf
open Vt (VT Rep)
open Ev (EV FieldsOk evCells vCells)
open Go.ChangeShapes Go.WideShapes Go.ChangeAt Go.Joins Go.Deep

theorem eleven (cs : List Value) (h : cs.length = 11) : ∃ a b c d e f g i j k l, cs = [a, b, c, d, e, f, g, i, j, k, l] := by
  match cs, h with
  | [a, b, c, d, e, f, g, i, j, k, l], _ => exact ⟨a, b, c, d, e, f, g, i, j, k, l, rfl⟩
set_option maxRecDepth 100000 in
theorem open_ev {H : Type} {enc : TypeId × Value → H} {W : World} {base : Nat} {spare : Nat → Bool} {held : Bool} (fuel : Nat) (cs : List Value) (x : DataW H × List MemPlace)
    (h : DataW.trod enc Tryz.prog W base spare held fuel 43 cs = some x) : ∃ (e : EV) (vk vn : Int) (vf : Nat) (vs : ByteArray) (A' : Option Addr) (m c : Nat), FieldsOk e ∧ Rep W base W.heap.size e.v (vCells vk vn vf vs A' m c) ∧ cs = (evCells e vk vn vf vs A' m c).toList := by
  have hC : Tryz.prog.cellsOf 43 = 11 := by kernel_rfl
  obtain ⟨xs, n, hn, hx, hlen, hxl, hg⟩ := DataW.trod_struct Tryz.underlying43 h
  obtain ⟨c0, c1, c2, c3, c4, c5, c6, c7, c8, c9, c10, rfl⟩ := eleven cs (hlen.trans hC)
  have hx : ∀ j : Nat, j < 7 → ∃ y, xs[j]? = some y := fun j hj => ⟨_, List.getElem?_eq_getElem (by rw [hxl]; exact hj)⟩
  obtain ⟨y0, z0⟩ := hx 0 (by omega); obtain ⟨y1, z1⟩ := hx 1 (by omega); obtain ⟨y2, z2⟩ := hx 2 (by omega); obtain ⟨y3, z3⟩ := hx 3 (by omega); obtain ⟨y4, z4⟩ := hx 4 (by omega); obtain ⟨y5, z5⟩ := hx 5 (by omega); obtain ⟨y6, z6⟩ := hx 6 (by omega)
  have g0 := (hg 0 _ rfl).trans z0; have g1 := (hg 1 _ rfl).trans z1; have g2 := (hg 2 _ rfl).trans z2; have g3 := (hg 3 _ rfl).trans z3; have g4 := (hg 4 _ rfl).trans z4; have g5 := (hg 5 _ rfl).trans z5; have g6 := (hg 6 _ rfl).trans z6
  have k1 : Tryz.prog.cellsOf 3 = 1 := by kernel_rfl
  have k2 : Tryz.prog.cellsOf 9 = 1 := by kernel_rfl
  have k3 : Tryz.prog.cellsOf 41 = 5 := by kernel_rfl
  have k4 : Tryz.prog.cellsOf 22 = 1 := by kernel_rfl
  simp [k1, k2, k3, k4] at g0 g1 g2 g3 g4 g5 g6
  obtain ⟨k, e0, -, w0⟩ := DataW.trod_int Tryz.underlying3 g0
  obtain ⟨id, e1, -, w1⟩ := DataW.trod_int Tryz.underlying22 g1
  obtain ⟨n2, e2, -, w2⟩ := DataW.trod_int Tryz.underlying3 g2
  obtain ⟨at', e3, -, w3⟩ := DataW.trod_int Tryz.underlying22 g3
  obtain ⟨nm, e4, -, w4⟩ := DataW.trod_string Tryz.underlying9 g4
  obtain ⟨tx, e5, -, w5⟩ := DataW.trod_string Tryz.underlying9 g5
  obtain ⟨t, ht⟩ := Vt.open_vt _ _ _ g6
  obtain rfl := List.singleton_inj.1 e0
  obtain rfl := List.singleton_inj.1 e1
  obtain rfl := List.singleton_inj.1 e2
  obtain rfl := List.singleton_inj.1 e3
  obtain rfl := List.singleton_inj.1 e4
  obtain rfl := List.singleton_inj.1 e5
  simp [Lit.wf, IntKind.min, IntKind.max, IntKind.bits, IntKind.signed] at w0 w1 w2 w3
  obtain ⟨vk, vn, vf, vs, l, A', cap, -, hv, -⟩ := ht.open_
  rw [hv] at ht
  injection hv with hv
  simp at hv
  obtain ⟨rfl, rfl, rfl, rfl, rfl⟩ := hv
  obtain ⟨mid, hmid⟩ : ∃ mn : Nat, id = mn := ⟨id.toNat, by omega⟩
  obtain ⟨mat, hmat⟩ : ∃ mn : Nat, at' = mn := ⟨at'.toNat, by omega⟩
  subst hmid hmat
  exact ⟨⟨k, mid, n2, mat, nm, tx, t⟩, vk, vn, vf, vs, A', l.length, cap, ⟨by show _ ≤ k; omega, by show k ≤ _; omega, by show mid < _; omega, by show _ ≤ n2; omega, by show n2 ≤ _; omega, by show mat < _; omega, w4, w5⟩, ht, rfl⟩

set_option maxRecDepth 100000 in
/-- An event that came in. -/
theorem event_open {H : Type} {enc : TypeId × Value → H} {base b1 : Nat} {spare : Nat → Bool} {held : Bool} {d : DataW H} {p : List MemPlace} (v : Value) (W : World)
    (o : Value.okWide Tryz.prog W .any base 43 v) (k : DataW.Trod enc Tryz.prog W b1 spare held 43 v d p) :
    ∃ (e : EV) (vk vn : Int) (vf : Nat) (vs : ByteArray) (A : Option Addr) (m c : Nat), FieldsOk e ∧ Rep W b1 W.heap.size e.v (vCells vk vn vf vs A m c) ∧ v = .agg (evCells e vk vn vf vs A m c) := by
  obtain ⟨cs0, rfl, -⟩ := okWide_struct Tryz.underlying43 o
  obtain ⟨fuel, hf⟩ := k
  have hcs : (Value.agg cs0).cells.toList = cs0.toList := rfl
  rw [hcs] at hf
  obtain ⟨e, vk, vn, vf, vs, A, m, c, h1, h2, h3⟩ := open_ev fuel cs0.toList (d, p) hf
  exact ⟨e, vk, vn, vf, vs, A, m, c, h1, h2, by rw [Array.toList_inj.1 h3]⟩
def deb64 : List Int := [0, 1, 56, 2, 57, 49, 28, 3, 61, 58, 42, 50, 38, 29, 17, 4, 62, 47, 59, 36, 45, 43, 51, 22, 53, 39, 33, 30, 24, 18, 12, 5, 63, 55, 48, 27, 60, 41, 37, 16, 46, 35, 44, 21, 52, 32, 23, 11, 54, 26, 40, 15, 34, 20, 31, 10, 25, 14, 19, 9, 13, 8, 7, 6]
theorem tb_of_laid {l : List (String × DataW Unit)} {W : World}
    (h1 : ((l.filter fun x => x.2.handleName?.isNone).filter fun x => x.1 == "internal/strconv.uint64pow10") = [("internal/strconv.uint64pow10", Lib.tabData .u64 Lib.pow10Tab)])
    (h2 : ((l.filter fun x => x.2.handleName?.isNone).filter fun x => x.1 == "math/bits.deBruijn64tab") = [("math/bits.deBruijn64tab", Lib.tabData .u8 deb64)])
    (h : laidMetH Tryz.prog l W) : TB W := by
  obtain ⟨hm, -⟩ := laidMetH_iff.1 h
  have k1 := hm.filter (fun x => x.1 == "internal/strconv.uint64pow10")
  have k2 := hm.filter (fun x => x.1 == "math/bits.deBruijn64tab")
  rw [h1] at k1
  rw [h2] at k2
  have t1 := Lib.tabIs_of_head (g := 0) (t := 171) (e := 22) (n := 20) (by kernel_rfl) (by kernel_rfl) Tryz.underlying171 Tryz.underlying22 (by kernel_rfl) (by kernel_rfl) k1
  have t2 := Lib.tabIs_of_head (g := 4) (t := 185) (e := 5) (n := 64) (by kernel_rfl) (by kernel_rfl) Tryz.underlying185 Tryz.underlying5 (by kernel_rfl) (by kernel_rfl) k2
  have c2 := Lib.TabIs.cell t2 (g := 4) (by kernel_rfl) 15 (by decide)
  refine ⟨t1, c2, ?_⟩
  rcases Nat.lt_or_ge 4 W.heap.size with h' | h'
  · exact h'
  · simp [World.cell?, Array.getElem?_eq_none h'] at c2

end Vf
end Go.Proofs.YtpneejlilgepfaaGreatDoor
namespace Go.Proofs.YtpneejlilgepfaaGreatDoor
open Go.RowKit
set_option linter.unusedVariables false
set_option linter.unusedSimpArgs false
namespace Bs
open Vt (VT Rep)
open Ev (EV FieldsOk evCells vCells)
open Cm (EvsIn)
open Cn (three evs_trod)
open Vf (TB tb_of_laid)
open Go.ChangeShapes Go.WideShapes Go.ChangeAt Go.Joins Go.Deep

theorem bulk_pos {H : Type} (d : DataW H) : 1 ≤ Rows.uptoBulk d := by
  cases d with
  | lit l => cases l <;> simp [Rows.uptoBulk]
  | _ => simp only [Rows.uptoBulk]; omega
theorem bulk_len {H : Type} (l : List (DataW H)) : l.length ≤ Rows.uptoBulkAll l := by
  induction l with
  | nil => simp
  | cons d l ih =>
    simp only [Rows.uptoBulkAll, List.length_cons]
    have := bulk_pos d
    omega
set_option maxRecDepth 100000 in
/-- A BATCH THAT CAME IN. 'n' bounds what it weighs. -/
theorem batch_shape {H : Type} {enc : TypeId × Value → H} {base b1 : Nat} {spare : Nat → Bool} {held : Bool} {d : DataW H} {p : List MemPlace} (v : Value) (W : World)
    (o : Value.okWide Tryz.prog W .any base 25 v) (k : DataW.Trod enc Tryz.prog W b1 spare held 25 v d p) :
    ∃ (f : ByteArray) (at' : Nat) (es : List EV) (A : Option Addr) (cap : Nat), v = .agg #[.string f, .int .u64 at', .slice A es.length cap] ∧ f.size ≤ maxLen ∧ at' < 18446744073709551616 ∧ EvsIn W A cap es ∧
      ∃ x0 x1 x2, d = .agg [x0, x1, x2] ∧ ((es = [] ∧ x2 = .nil) ∨ ∃ elems rest, x2 = .slice elems rest ∧ elems.length = es.length) := by
  have hC : Tryz.prog.cellsOf 25 = 3 := by kernel_rfl
  obtain ⟨cs0, rfl, -⟩ := okWide_struct Tryz.underlying25 o
  obtain ⟨fuel, hf⟩ := k
  have hcs : (Value.agg cs0).cells.toList = cs0.toList := rfl
  rw [hcs] at hf
  obtain ⟨xs, n, hn, hx, hlen, hxl, hg⟩ := DataW.trod_struct Tryz.underlying25 hf
  obtain ⟨c0, c1, c2, e⟩ := three cs0.toList (hlen.trans hC)
  obtain ⟨x0, x1, x2, rfl⟩ : ∃ x0 x1 x2, xs = [x0, x1, x2] := by
    have : xs.length = 3 := hxl
    match xs, this with
    | [a, b, c], _ => exact ⟨a, b, c, rfl⟩
  have g0 := hg 0 _ rfl; have g1 := hg 1 _ rfl; have g2 := hg 2 _ rfl
  have k2 : Tryz.prog.cellsOf 9 = 1 := by kernel_rfl
  have k3 : Tryz.prog.cellsOf 23 = 1 := by kernel_rfl
  have k4 : Tryz.prog.cellsOf 22 = 1 := by kernel_rfl
  rw [e] at g0 g1 g2
  simp [k2, k3, k4] at g0 g1 g2
  obtain ⟨s, e0, -, w0⟩ := DataW.trod_string Tryz.underlying9 g0
  obtain ⟨m, e1, -, w1⟩ := DataW.trod_int Tryz.underlying22 g1
  obtain rfl := List.singleton_inj.1 e0
  obtain rfl := List.singleton_inj.1 e1
  simp [Lit.wf, IntKind.min, IntKind.max, IntKind.bits, IntKind.signed] at w1
  obtain ⟨es, A, cap, rfl, hes, hd⟩ := evs_trod n c2 x2 g2
  obtain ⟨mn, hmn⟩ : ∃ mn : Nat, m = mn := ⟨m.toNat, by omega⟩
  subst hmn
  have hdd : d = .agg [x0.1, x1.1, x2.1] := by injection hx
  refine ⟨s, mn, es, A, cap, ?_, w0, by omega, hes, x0.1, x1.1, x2.1, hdd, hd⟩
  · have : cs0 = #[.string s, .int .u64 mn, .slice A es.length cap] := by
      apply Array.toList_inj.1
      exact e
    rw [this]

theorem small_len {H : Type} {d x0 x1 x2 : DataW H} {es : List EV} (hd : d = .agg [x0, x1, x2]) (h : (es = [] ∧ x2 = .nil) ∨ ∃ elems rest, x2 = .slice elems rest ∧ elems.length = es.length) (hb : Rows.uptoBulk d ≤ 1048576) : es.length ≤ 2097152 := by
  rcases h with ⟨rfl, -⟩ | ⟨elems, rest, rfl, hl⟩
  · simp
  · rw [hd] at hb
    simp only [Rows.uptoBulk, Rows.uptoBulkAll] at hb
    have := bulk_len elems
    omega
theorem small_all {H : Type} {l : List (DataW H)} (h : Rows.uptoSmall H l = true) : Rows.uptoBulkAll l ≤ 1048576 := of_decide_eq_true h
set_option maxRecDepth 100000 in
theorem bsame_open {H : Type} {enc : TypeId × Value → H} {base b1 : Nat} {spare : Nat → Bool} {held : Bool} {d0 d1 : DataW H} {p0 p1 : List MemPlace} (v0 v1 : Value) (W : World)
    (o0 : Value.okWide Tryz.prog W .any base 25 v0) (k0 : DataW.Trod enc Tryz.prog W b1 spare held 25 v0 d0 p0)
    (o1 : Value.okWide Tryz.prog W .any base 25 v1) (k1 : DataW.Trod enc Tryz.prog W b1 spare held 25 v1 d1 p1) (hL : laidMetH Tryz.prog Rows.batchSameUptoRow.laid W) (hu : Rows.uptoSmall H [d0, d1] = true) :
    Calls Tryz.prog 3 #[v0, v1] W fun e w' => e = .returned (.bool true) ∧ Below W.heap.size W w' := by
  have ht : TB W := tb_of_laid (by kernel_rfl) (by kernel_rfl) hL
  have hb := small_all hu
  simp only [Rows.uptoBulkAll] at hb
  obtain ⟨f, a, es, A, cap, rfl, hf, ha, hes, x0, x1, x2, hd, hs⟩ := batch_shape v0 W o0 k0
  obtain ⟨f', a', es', A', cap', rfl, hf', ha', hes', x0', x1', x2', hd', hs'⟩ := batch_shape v1 W o1 k1
  exact bsamelaw_walk es es' (small_len hd hs (by omega)) (small_len hd' hs' (by omega)) f f' hf hf' a a' ha ha' A A' cap cap' W hes hes' ht
end Bs
end Go.Proofs.YtpneejlilgepfaaGreatDoor
