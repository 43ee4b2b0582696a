/- EventSame: the walk. -/
/- Events that came in, opened; the listed tables; EventSame. -/
/- EventForms of what came in. -/
import Derived.Test.YtcbddebmmaflgaaGreatDoorMhav
import Derived.Test.YtcbddebmmaflgaaGreatDoorMhbd
import Derived.Test.YtcbddebmmaflgaaGreatDoorMhbe
import Derived.Test.YtcbddebmmaflgaaGreatDoorRows
import Derived.ChangeMaps5
import Derived.ChangeArms
import Derived.Deep.Draws
import Derived.ProofKit
import Derived.OpenShut
import Derived.Lib.SmallJoins
import Derived.Lib.LaidTab
import Derived.LaidSub
import Derived.Test.YtcbddebmmaflgaaGreatDoorMhay
import Derived.Test.YtcbddebmmaflgaaGreatDoorMhaz
import Derived.Test.YtcbddebmmaflgaaGreatDoorMhbc
import Derived.Test.YtcbddebmmaflgaaGreatDoorMhas
namespace Go.Proofs.YtcbddebmmaflgaaGreatDoor
open Go.RowKit
set_option linter.unusedVariables false
set_option linter.unusedSimpArgs false
namespace Vf
open _root_.Go.Proofs.YtcbddebmmaflgaaGreatDoor.Nm (bitsW ret_int ret_bool)
open Vt (VT Rep BoxAt below_drew KidsAt HeadOk)
open Ev (EV FieldsOk evCells vCells EBox ERep zeroT take_drop tk cons_drop nameOf fieldsOf of_in evalid_any)
open Cm (evSame rsev_any)
open Bt (BOwn BIn PIn ubytes sb bv alive_any)

end Vf
end Go.Proofs.YtcbddebmmaflgaaGreatDoor
namespace Go.Proofs.YtcbddebmmaflgaaGreatDoor
open Go.RowKit
set_option linter.unusedVariables false
set_option linter.unusedSimpArgs false
namespace Vf
open Vt (VT Rep)
open Ev (EV FieldsOk evCells vCells)
open Go.ChangeShapes Go.WideShapes Go.ChangeAt Go.Joins Go.Deep

theorem eleven (cs : List Value) (h : cs.length = 11) : ∃ a b c d e f g i j k l, cs = [a, b, c, d, e, f, g, i, j, k, l] := by
  match cs, h with
  | [a, b, c, d, e, f, g, i, j, k, l], _ => exact ⟨a, b, c, d, e, f, g, i, j, k, l, rfl⟩
set_option maxRecDepth 100000 in
theorem open_ev {H : Type} {enc : TypeId × Value → H} {W : World} {base : Nat} {spare : Nat → Bool} {held : Bool} (fuel : Nat) (cs : List Value) (x : DataW H × List MemPlace)
    (h : DataW.trod enc Tryz.prog W base spare held fuel 32 cs = some x) : ∃ (e : EV) (vk vn : Int) (vf : Nat) (vs : ByteArray) (A' : Option Addr) (m c : Nat), FieldsOk e ∧ Rep W base W.heap.size e.v (vCells vk vn vf vs A' m c) ∧ cs = (evCells e vk vn vf vs A' m c).toList := by
  have hC : Tryz.prog.cellsOf 32 = 11 := by kernel_rfl
  obtain ⟨xs, n, hn, hx, hlen, hxl, hg⟩ := DataW.trod_struct Tryz.underlying32 h
  obtain ⟨c0, c1, c2, c3, c4, c5, c6, c7, c8, c9, c10, rfl⟩ := eleven cs (hlen.trans hC)
  have hx : ∀ j : Nat, j < 7 → ∃ y, xs[j]? = some y := fun j hj => ⟨_, List.getElem?_eq_getElem (by rw [hxl]; exact hj)⟩
  obtain ⟨y0, z0⟩ := hx 0 (by omega); obtain ⟨y1, z1⟩ := hx 1 (by omega); obtain ⟨y2, z2⟩ := hx 2 (by omega); obtain ⟨y3, z3⟩ := hx 3 (by omega); obtain ⟨y4, z4⟩ := hx 4 (by omega); obtain ⟨y5, z5⟩ := hx 5 (by omega); obtain ⟨y6, z6⟩ := hx 6 (by omega)
  have g0 := (hg 0 _ rfl).trans z0; have g1 := (hg 1 _ rfl).trans z1; have g2 := (hg 2 _ rfl).trans z2; have g3 := (hg 3 _ rfl).trans z3; have g4 := (hg 4 _ rfl).trans z4; have g5 := (hg 5 _ rfl).trans z5; have g6 := (hg 6 _ rfl).trans z6
  have k1 : Tryz.prog.cellsOf 3 = 1 := by kernel_rfl
  have k2 : Tryz.prog.cellsOf 9 = 1 := by kernel_rfl
  have k3 : Tryz.prog.cellsOf 30 = 5 := by kernel_rfl
  have k4 : Tryz.prog.cellsOf 26 = 1 := by kernel_rfl
  simp [k1, k2, k3, k4] at g0 g1 g2 g3 g4 g5 g6
  obtain ⟨k, e0, -, w0⟩ := DataW.trod_int Tryz.underlying3 g0
  obtain ⟨id, e1, -, w1⟩ := DataW.trod_int Tryz.underlying26 g1
  obtain ⟨n2, e2, -, w2⟩ := DataW.trod_int Tryz.underlying3 g2
  obtain ⟨at', e3, -, w3⟩ := DataW.trod_int Tryz.underlying26 g3
  obtain ⟨nm, e4, -, w4⟩ := DataW.trod_string Tryz.underlying9 g4
  obtain ⟨tx, e5, -, w5⟩ := DataW.trod_string Tryz.underlying9 g5
  obtain ⟨t, ht⟩ := Vt.open_vt _ _ _ g6
  obtain rfl := List.singleton_inj.1 e0
  obtain rfl := List.singleton_inj.1 e1
  obtain rfl := List.singleton_inj.1 e2
  obtain rfl := List.singleton_inj.1 e3
  obtain rfl := List.singleton_inj.1 e4
  obtain rfl := List.singleton_inj.1 e5
  simp [Lit.wf, IntKind.min, IntKind.max, IntKind.bits, IntKind.signed] at w0 w1 w2 w3
  obtain ⟨vk, vn, vf, vs, l, A', cap, -, hv, -⟩ := ht.open_
  rw [hv] at ht
  injection hv with hv
  simp at hv
  obtain ⟨rfl, rfl, rfl, rfl, rfl⟩ := hv
  obtain ⟨mid, hmid⟩ : ∃ mn : Nat, id = mn := ⟨id.toNat, by omega⟩
  obtain ⟨mat, hmat⟩ : ∃ mn : Nat, at' = mn := ⟨at'.toNat, by omega⟩
  subst hmid hmat
  exact ⟨⟨k, mid, n2, mat, nm, tx, t⟩, vk, vn, vf, vs, A', l.length, cap, ⟨by show _ ≤ k; omega, by show k ≤ _; omega, by show mid < _; omega, by show _ ≤ n2; omega, by show n2 ≤ _; omega, by show mat < _; omega, w4, w5⟩, ht, rfl⟩

set_option maxRecDepth 100000 in
/-- An event that came in. -/
theorem event_open {H : Type} {enc : TypeId × Value → H} {base b1 : Nat} {spare : Nat → Bool} {held : Bool} {d : DataW H} {p : List MemPlace} (v : Value) (W : World)
    (o : Value.okWide Tryz.prog W .any base 32 v) (k : DataW.Trod enc Tryz.prog W b1 spare held 32 v d p) :
    ∃ (e : EV) (vk vn : Int) (vf : Nat) (vs : ByteArray) (A : Option Addr) (m c : Nat), FieldsOk e ∧ Rep W b1 W.heap.size e.v (vCells vk vn vf vs A m c) ∧ v = .agg (evCells e vk vn vf vs A m c) := by
  obtain ⟨cs0, rfl, -⟩ := okWide_struct Tryz.underlying32 o
  obtain ⟨fuel, hf⟩ := k
  have hcs : (Value.agg cs0).cells.toList = cs0.toList := rfl
  rw [hcs] at hf
  obtain ⟨e, vk, vn, vf, vs, A, m, c, h1, h2, h3⟩ := open_ev fuel cs0.toList (d, p) hf
  exact ⟨e, vk, vn, vf, vs, A, m, c, h1, h2, by rw [Array.toList_inj.1 h3]⟩
def deb64 : List Int := [0, 1, 56, 2, 57, 49, 28, 3, 61, 58, 42, 50, 38, 29, 17, 4, 62, 47, 59, 36, 45, 43, 51, 22, 53, 39, 33, 30, 24, 18, 12, 5, 63, 55, 48, 27, 60, 41, 37, 16, 46, 35, 44, 21, 52, 32, 23, 11, 54, 26, 40, 15, 34, 20, 31, 10, 25, 14, 19, 9, 13, 8, 7, 6]
theorem tb_of_laid {l : List (String × DataW Unit)} {W : World}
    (h1 : ((l.filter fun x => x.2.handleName?.isNone).filter fun x => x.1 == "internal/strconv.uint64pow10") = [("internal/strconv.uint64pow10", Lib.tabData .u64 Lib.pow10Tab)])
    (h2 : ((l.filter fun x => x.2.handleName?.isNone).filter fun x => x.1 == "math/bits.deBruijn64tab") = [("math/bits.deBruijn64tab", Lib.tabData .u8 deb64)])
    (h : laidMetH Tryz.prog l W) : TB W := by
  obtain ⟨hm, -⟩ := laidMetH_iff.1 h
  have k1 := hm.filter (fun x => x.1 == "internal/strconv.uint64pow10")
  have k2 := hm.filter (fun x => x.1 == "math/bits.deBruijn64tab")
  rw [h1] at k1
  rw [h2] at k2
  have t1 := Lib.tabIs_of_head (g := 1) (t := 169) (e := 26) (n := 20) (by kernel_rfl) (by kernel_rfl) Tryz.underlying169 Tryz.underlying26 (by kernel_rfl) (by kernel_rfl) k1
  have t2 := Lib.tabIs_of_head (g := 4) (t := 178) (e := 5) (n := 64) (by kernel_rfl) (by kernel_rfl) Tryz.underlying178 Tryz.underlying5 (by kernel_rfl) (by kernel_rfl) k2
  have c2 := Lib.TabIs.cell t2 (g := 4) (by kernel_rfl) 15 (by decide)
  refine ⟨t1, c2, ?_⟩
  rcases Nat.lt_or_ge 4 W.heap.size with h' | h'
  · exact h'
  · simp [World.cell?, Array.getElem?_eq_none h'] at c2

end Vf
end Go.Proofs.YtcbddebmmaflgaaGreatDoor
namespace Go.Proofs.YtcbddebmmaflgaaGreatDoor
open Go.RowKit
set_option linter.unusedVariables false
set_option linter.unusedSimpArgs false
namespace Ef
open _root_.Go.Proofs.YtcbddebmmaflgaaGreatDoor.Nm (ret_int ret_bool)
open Vt (VT Rep below_drew)
open Bt (BOwn BIn)
open Ev (EV EBox ERep FieldsOk evCells vCells take_drop tk cons_drop)
open Cm (OnlyAt evSame)
open Cn (BRd brd_own bequal_any)
open Vf (TB eform etextB efew efew_any ebytes_any ebytes_no etext_any etext_no event_open tb_of_laid)
open Rf (rebytes_any REB)
open Rg (retext_any retext_no)
open Rd (RS RAt GoodE new_any eread_any ERead pe pe_of left_any)

theorem evSame_symm {a b : EV} (h : evSame a b = true) : evSame b a = true := by
  obtain ⟨h1, h2, h3, h4, h5, h6, h7⟩ := Vf.evSame_parts h
  unfold evSame
  rw [h1, h2, h3, h4, h5, h6, Vt.same_symm _ _ h7]
  simp
theorem brd_none (w : World) : BRd w (.slice none 0 0) [] := .inl ⟨rfl, rfl⟩

set_option maxRecDepth 100000 in
set_option maxHeartbeats 8000000 in
theorem eforms_walk (e : EV) (hf : FieldsOk e) (lo hi : Nat) (vk vn : Int) (vf : Nat) (vs : ByteArray) (A : Option Addr) (m c : Nat) (w : World) (hv : Rep w lo hi e.v (vCells vk vn vf vs A m c)) (hz : hi ≤ w.heap.size) (ht : TB w) :
    Calls Tryz.prog 4 #[.agg (evCells e vk vn vf vs A m c)] w fun r w' => r = .returned (.bool true) ∧ Below w.heap.size w w' := by
  obtain ⟨W0, hW0⟩ : ∃ W0, W0 = w.alloc (.cells (evCells e vk vn vf vs A m c) 32) := ⟨_, rfl⟩
  have hb0 : Below w.heap.size w W0 := by rw [hW0]; exact (Below.refl _ _).alloc (Nat.le_refl _) _
  have hbx : EBox W0 w.heap.size (evCells e vk vn vf vs A m c) := by rw [hW0]; exact heap_alloc_new w _
  have hzz : w.heap.size < W0.heap.size := by rw [hW0]; simp
  have HX : Hid (∀ W, Below W0.heap.size W0 W → EBox W w.heap.size (evCells e vk vn vf vs A m c)) := Lib.hid fun W hW => hbx.later hW hzz
  have HR : Hid (∀ W, Below W0.heap.size W0 W → Rep W lo hi e.v (vCells vk vn vf vs A m c) ∧ hi ≤ W.heap.size) := Lib.hid fun W hW => ⟨(hv.later (hb0.mono hz)).later (hW.mono (Nat.le_trans hz hb0.size)), Nat.le_trans hz (Nat.le_trans hb0.size hW.size)⟩
  have KS : Hid (∀ W', Below W0.heap.size W0 W' → (W'.cell? ⟨w.heap.size, 0, none⟩ = some (.int .i64 e.k) ∧ W'.cell? ⟨w.heap.size, 1, none⟩ = some (.int .u64 (e.id : Nat)) ∧ W'.cell? ⟨w.heap.size, 2, none⟩ = some (.int .i64 e.n) ∧ W'.cell? ⟨w.heap.size, 3, none⟩ = some (.int .u64 (e.at' : Nat)) ∧ W'.cell? ⟨w.heap.size, 4, none⟩ = some (.string e.name) ∧ W'.cell? ⟨w.heap.size, 5, none⟩ = some (.string e.text) ∧ W'.cell? ⟨w.heap.size, 6, none⟩ = some (.int .i64 vk) ∧ W'.cell? ⟨w.heap.size, 7, none⟩ = some (.int .i64 vn) ∧ W'.cell? ⟨w.heap.size, 8, none⟩ = some (.float .f64 vf) ∧ W'.cell? ⟨w.heap.size, 9, none⟩ = some (.string vs) ∧ W'.cell? ⟨w.heap.size, 10, none⟩ = some (.slice A m c))) := Lib.hid fun W hW => by
    obtain ⟨q0, q1, q2, q3, q4, q5, q6, q7, q8, q9, q10⟩ := EBox.cells (HX.out W hW)
    exact ⟨q0, q1, q2, q3, q4, q5, q6, q7, q8, q9, q10⟩
  have HT : Hid (∀ W, Below W0.heap.size W0 W → TB W) := Lib.hid fun W hW => (ht.later hb0).later hW
  have HFW := Lib.hid (efew_any e hf lo hi vk vn vf vs A m c W0 (HR.out W0 (Below.refl _ _)).1 (HR.out W0 (Below.refl _ _)).2)
  have HA := Lib.hid fun W => Bt.alive_any W
  have HVL : Hid (∀ W, Below W0.heap.size W0 W → Calls Tryz.prog 12 #[.agg (evCells e vk vn vf vs A m c)] W fun r w' => r = .returned (.bool e.valid) ∧ Below W.heap.size W w') := Lib.hid fun W hW =>
    Ev.evalid_any e W lo hi _ ⟨hf, vk, vn, vf, vs, A, m, c, rfl, (HR.out W hW).1⟩ (HR.out W hW).2
  have HB0 := Lib.hid hb0
  have HF := Lib.hid hf
  obtain ⟨a0, a1, a2, a3, a4, a5, a6, a7, a8, a9, a10⟩ := EBox.cells hbx
  have hfine : Pf.VT.fine e.v := Pf.Rep.fine hv
  clear hv hb0 hbx ht
  have HEN : Hid (e.valid = false → ∀ W, Below W0.heap.size W0 W → Calls Tryz.prog 14 #[.agg (evCells e vk vn vf vs A m c)] W fun r w' => r = .returned (.tuple #[.slice none 0 0, .bool false]) ∧ Below W.heap.size W w') := Lib.hid fun h W hW => ebytes_no e h hf lo hi vk vn vf vs A m c W (HR.out W hW).1 (HR.out W hW).2
  have HTN : Hid (e.valid = false → ∀ W, Below W0.heap.size W0 W → Calls Tryz.prog 17 #[.agg (evCells e vk vn vf vs A m c)] W fun r w' => r = .returned (.string ⟨#[]⟩) ∧ Below W.heap.size W w') := Lib.hid fun h W hW => etext_no e h hf lo hi vk vn vf vs A m c W (HR.out W hW).1 (HR.out W hW).2
  have HRN : Hid (e.valid = false → ∀ W, Below W0.heap.size W0 W → Calls Tryz.prog 18 #[.agg (evCells e vk vn vf vs A m c)] W fun r w' => r = .returned (.string ⟨#[]⟩) ∧ Below W.heap.size W w') := Lib.hid fun h W hW => retext_no e h lo hi vk vn vf vs A m c W (HR.out W hW).1 (HR.out W hW).2
  have HEY : Hid (e.valid = true → e.v.few = true → ∀ W, Below W0.heap.size W0 W → Calls Tryz.prog 14 #[.agg (evCells e vk vn vf vs A m c)] W fun r w' => ∃ v, r = .returned (.tuple #[v, .bool true]) ∧ BOwn w' W.heap.size v (eform e) ∧ Below W.heap.size W w') := Lib.hid fun h h2 W hW => ebytes_any e h hf h2 lo hi vk vn vf vs A m c W (HR.out W hW).1 (HR.out W hW).2
  have HTY : Hid (e.valid = true → e.v.few = true → ∀ W, Below W0.heap.size W0 W → Calls Tryz.prog 17 #[.agg (evCells e vk vn vf vs A m c)] W fun r w' => r = .returned (.string (etextB e)) ∧ Below W.heap.size W w') := Lib.hid fun h h2 W hW => etext_any e h hf h2 lo hi vk vn vf vs A m c W (HR.out W hW).1 (HR.out W hW).2 (HT.out W hW)
  have HRY : Hid (e.valid = true → e.v.few = true → ∀ W, Below W0.heap.size W0 W → Calls Tryz.prog 18 #[.agg (evCells e vk vn vf vs A m c)] W fun r w' => r = .returned (.string (etextB e)) ∧ Below W.heap.size W w') := Lib.hid fun h h2 W hW => retext_any e h hf h2 lo hi vk vn vf vs A m c W (HR.out W hW).1 (HR.out W hW).2
  have HBY : Hid (e.v.few = true → ∀ W, Below W0.heap.size W0 W → Calls Tryz.prog 15 #[.agg (evCells e vk vn vf vs A m c)] W (REB e W)) := Lib.hid fun h2 W hW => rebytes_any e hf h2 lo hi vk vn vf vs A m c W (HR.out W hW).1 (HR.out W hW).2
  have HGD : Hid (e.valid = true → GoodE e) := Lib.hid fun h => ⟨h, hf, hfine⟩
  have HLEN : Hid (e.valid = true → e.v.few = true → (eform e).length ≤ 30000) := Lib.hid fun h h2 => Rd.eform_len h hf h2
  have HSM : Hid (∀ (e' : EV) (W : World) (lo' hi' : Nat) (x : Value), Below W0.heap.size W0 W → ERep W lo' hi' e' x → hi' ≤ W.heap.size → Calls Tryz.prog 10 #[x, .agg (evCells e vk vn vf vs A m c)] W fun r w' => r = .returned (.bool (evSame e' e)) ∧ Below W.heap.size W w') := Lib.hid fun e' W lo' hi' x hW hx hh =>
    Cm.rsev_any e' e W lo' hi' lo hi x _ hx hh ⟨hf, vk, vn, vf, vs, A, m, c, rfl, (HR.out W hW).1⟩ (HR.out W hW).2
  unfold evCells at HX HFW HVL HEN HTN HRN HEY HTY HRY HBY HSM hW0 ⊢
  clear hf hfine
  replace hW0 := Lib.hid hW0
  go_enter Tryz.func4, Tryz.ntmps4
  go_upto_region 1 with fail
  rw [← hW0.out]
  go_wp2_with fail
  refine HFW.out.mono ?_
  rintro x w1 ⟨rfl, hb1⟩
  have HB1 := Lib.hid hb1
  clear hb1 a0 a1 a2 a3 a4 a5 a6 a7 a8 a9 a10
  cases hfw : efew e with
  | false =>
    go_wp2_with fail
    refine (HA.out _).mono ?_
    rintro x wz ⟨rfl, hbz⟩
    have HBZ := Lib.hid (HB1.out.trans (hbz.mono HB1.out.size))
    clear hbz
    go_wp2_with fail
    go_ret
    exact ⟨rfl, HB0.out.trans (HBZ.out.mono HB0.out.size)⟩
  | true =>
    have hfew : e.v.few = true := by
      unfold efew at hfw
      simp only [Bool.and_eq_true] at hfw
      exact hfw.1.1
    have HBR := Lib.hid (HBY.out hfew)
    obtain ⟨a0, a1, a2, a3, a4, a5, a6, a7, a8, a9, a10⟩ := EBox.cells (HX.out w1 HB1.out)
    clear hfw
    cases hval : e.valid with
    | false =>
      rw [hval] at HVL
      have HE := Lib.hid (HEN.out hval)
      have HTX := Lib.hid (HTN.out hval)
      have HRT := Lib.hid (HRN.out hval)
      have HEQ : Hid (∀ W, Below W0.heap.size W0 W → Calls Tryz.prog 16 #[.slice none 0 0, .slice none 0 0] W fun r w' => r = .returned (.bool true) ∧ Below W.heap.size W w') := Lib.hid fun W hW => by
        have := bequal_any [] [] _ _ W (brd_none W) (brd_none W)
        rw [decide_eq_true rfl] at this
        exact this
      have HVF := Lib.hid hval
      clear hval
      go_wp2_with fail
      refine (HE.out w1 HB1.out).mono ?_
      rintro x w2 ⟨rfl, hb2⟩
      have HB2 := Lib.hid (HB1.out.trans (hb2.mono HB1.out.size))
      clear hb2 a0 a1 a2 a3 a4 a5 a6 a7 a8 a9 a10
      obtain ⟨a0, a1, a2, a3, a4, a5, a6, a7, a8, a9, a10⟩ := EBox.cells (HX.out w2 HB2.out)
      go_wp2_with fail
      refine (HBR.out w2 HB2.out).mono ?_
      intro x w3 hreb
      obtain ⟨-, hno, hb3⟩ := hreb
      obtain rfl := hno HVF.out
      have HB3 := Lib.hid (HB2.out.trans (hb3.mono HB2.out.size))
      clear hb3 hno a0 a1 a2 a3 a4 a5 a6 a7 a8 a9 a10
      go_upto_region 5 with fail
      refine wp_region_noPanic ?_
      refine wp_region_held_drew (S := (fun W' : World => W'.cell? ⟨w.heap.size, 0, none⟩ = some (.int .i64 e.k) ∧ W'.cell? ⟨w.heap.size, 1, none⟩ = some (.int .u64 (e.id : Nat)) ∧ W'.cell? ⟨w.heap.size, 2, none⟩ = some (.int .i64 e.n) ∧ W'.cell? ⟨w.heap.size, 3, none⟩ = some (.int .u64 (e.at' : Nat)) ∧ W'.cell? ⟨w.heap.size, 4, none⟩ = some (.string e.name) ∧ W'.cell? ⟨w.heap.size, 5, none⟩ = some (.string e.text) ∧ W'.cell? ⟨w.heap.size, 6, none⟩ = some (.int .i64 vk) ∧ W'.cell? ⟨w.heap.size, 7, none⟩ = some (.int .i64 vn) ∧ W'.cell? ⟨w.heap.size, 8, none⟩ = some (.float .f64 vf) ∧ W'.cell? ⟨w.heap.size, 9, none⟩ = some (.string vs) ∧ W'.cell? ⟨w.heap.size, 10, none⟩ = some (.slice A m c))) (by kernel_rfl) ?_ (fun hHeld => ?_)
      · exact KS.out _ (below_drew HB3.out)
      have HB20 : Hid (Below W0.heap.size W0 w3.drew) := Lib.hid (below_drew HB3.out)
      refine tk (i := 0) rfl ?_
      try simp only [Act.put, List.setIfInBounds_toArray, List.set_cons_zero, List.set_cons_succ]
      refine tk (i := 2) rfl ?_
      try simp only [Act.put, List.setIfInBounds_toArray, List.set_cons_zero, List.set_cons_succ]
      refine wpAnyH_ready (rs := [1]) (by kernel_rfl) (by simp) ?_
      refine cons_drop rfl (fun K hK => ?_) AllReadyH.nil
      go_simp
      refine (HVL.out _ HB20.out).mono ?_
      rintro x21 w21 ⟨rfl, hb21⟩
      have HB21 : Hid (Below W0.heap.size W0 w21) := Lib.hid (HB20.out.trans (hb21.mono HB20.out.size))
      clear hb21
      go_wp2_with fail
      refine hK.out _ _ (KS.out _ HB21.out) (fun hHeld1 => ?_)
      clear hK K hHeld
      try simp only [Act.put, List.setIfInBounds_toArray, List.set_cons_zero, List.set_cons_succ]
      refine tk (i := 3) rfl ?_
      try simp only [Act.put, List.setIfInBounds_toArray, List.set_cons_zero, List.set_cons_succ]
      refine tk (i := 4) rfl ?_
      try simp only [Act.put, List.setIfInBounds_toArray, List.set_cons_zero, List.set_cons_succ]
      refine tk (i := 5) rfl ?_
      try simp only [Act.put, List.setIfInBounds_toArray, List.set_cons_zero, List.set_cons_succ]
      refine tk (i := 6) rfl ?_
      try simp only [Act.put, List.setIfInBounds_toArray, List.set_cons_zero, List.set_cons_succ]
      refine wpAnyH_ready (rs := [7]) (by kernel_rfl) (by simp) ?_
      refine cons_drop rfl (fun K hK => ?_) AllReadyH.nil
      go_simp
      refine (HEQ.out _ HB21.out).mono ?_
      rintro x22 w22 ⟨rfl, hb22⟩
      have HB22 : Hid (Below W0.heap.size W0 w22) := Lib.hid (HB21.out.trans (hb22.mono HB21.out.size))
      clear hb22
      go_wp2_with fail
      refine hK.out _ _ (KS.out _ HB22.out) (fun hHeld2 => ?_)
      clear hK K hHeld1
      try simp only [Act.put, List.setIfInBounds_toArray, List.set_cons_zero, List.set_cons_succ]
      refine tk (i := 8) rfl ?_
      try simp only [Act.put, List.setIfInBounds_toArray, List.set_cons_zero, List.set_cons_succ]
      refine tk (i := 9) rfl ?_
      try simp only [Act.put, List.setIfInBounds_toArray, List.set_cons_zero, List.set_cons_succ]
      refine tk (i := 10) rfl ?_
      try simp only [Act.put, List.setIfInBounds_toArray, List.set_cons_zero, List.set_cons_succ]
      refine tk (i := 11) rfl ?_
      try simp only [Act.put, List.setIfInBounds_toArray, List.set_cons_zero, List.set_cons_succ]
      refine tk (i := 12) rfl ?_
      try simp only [Act.put, List.setIfInBounds_toArray, List.set_cons_zero, List.set_cons_succ]
      refine tk (i := 13) rfl ?_
      try simp only [Act.put, List.setIfInBounds_toArray, List.set_cons_zero, List.set_cons_succ]
      refine tk (i := 14) rfl ?_
      try simp only [Act.put, List.setIfInBounds_toArray, List.set_cons_zero, List.set_cons_succ]
      refine tk (i := 15) rfl ?_
      try simp only [Act.put, List.setIfInBounds_toArray, List.set_cons_zero, List.set_cons_succ]
      refine tk (i := 16) rfl ?_
      try simp only [Act.put, List.setIfInBounds_toArray, List.set_cons_zero, List.set_cons_succ]
      refine tk (i := 18) rfl ?_
      try simp only [Act.put, List.setIfInBounds_toArray, List.set_cons_zero, List.set_cons_succ]
      refine wpAnyH_ready (rs := [17]) (by kernel_rfl) (by simp) ?_
      refine cons_drop rfl (fun K hK => ?_) AllReadyH.nil
      go_simp
      refine (HTX.out _ HB22.out).mono ?_
      rintro x23 w23 ⟨rfl, hb23⟩
      have HB23 : Hid (Below W0.heap.size W0 w23) := Lib.hid (HB22.out.trans (hb23.mono HB22.out.size))
      clear hb23
      go_wp2_with fail
      refine hK.out _ _ (KS.out _ HB23.out) (fun hHeld3 => ?_)
      clear hK K hHeld2
      try simp only [Act.put, List.setIfInBounds_toArray, List.set_cons_zero, List.set_cons_succ]
      refine wpAnyH_ready (rs := [19]) (by kernel_rfl) (by simp) ?_
      refine cons_drop rfl (fun K hK => ?_) AllReadyH.nil
      go_simp
      refine (HRT.out _ HB23.out).mono ?_
      rintro x24 w24 ⟨rfl, hb24⟩
      have HB24 : Hid (Below W0.heap.size W0 w24) := Lib.hid (HB23.out.trans (hb24.mono HB23.out.size))
      clear hb24
      go_wp2_with fail
      refine hK.out _ _ (KS.out _ HB24.out) (fun hHeld4 => ?_)
      clear hK K hHeld3
      try simp only [Act.put, List.setIfInBounds_toArray, List.set_cons_zero, List.set_cons_succ]
      refine tk (i := 20) rfl ?_
      try simp only [Act.put, List.setIfInBounds_toArray, List.set_cons_zero, List.set_cons_succ]
      refine tk (i := 21) rfl ?_
      try simp only [Act.put, List.setIfInBounds_toArray, List.set_cons_zero, List.set_cons_succ]
      refine wpAnyH_done (by kernel_rfl) ?_ _
      refine NoPanic.normal ?_
      go_wp2_with fail
      refine (HA.out _).mono ?_
      rintro x wz ⟨rfl, hbz⟩
      have HBZ := Lib.hid (HB24.out.trans (hbz.mono HB24.out.size))
      clear hbz
      go_wp2_with fail
      go_ret
      exact ⟨rfl, HB0.out.trans (HBZ.out.mono HB0.out.size)⟩
    | true =>
      rw [hval] at HVL
      have HE := Lib.hid (HEY.out hval hfew)
      have HTX := Lib.hid (HTY.out hval hfew)
      have HRT := Lib.hid (HRY.out hval hfew)
      obtain ⟨e', hpe, hsame⟩ := pe_of e (HGD.out hval) []
      rw [List.append_nil] at hpe
      have hby : Rd.Byt (eform e) := Rd.eform_byt (HGD.out hval)
      have hlen := HLEN.out hval hfew
      have HPE := Lib.hid hpe; have HSA := Lib.hid (evSame_symm hsame); have HBYT := Lib.hid hby
      have HVF := Lib.hid hval
      clear hval hpe hsame hby
      generalize etextB e = T at *
      generalize hLe : eform e = L at *
      have HLE := Lib.hid hLe
      clear hLe
      go_wp2_with fail
      refine (HE.out w1 HB1.out).mono ?_
      rintro x w2 ⟨v2, rfl, ho2, hb2⟩
      have hbr2 := brd_own ho2
      obtain ⟨A2, c2, rfl⟩ := hbr2.form
      have HV2 := Lib.hid hbr2
      have HB2 := Lib.hid (HB1.out.trans (hb2.mono HB1.out.size))
      clear hb2 ho2 hbr2 a0 a1 a2 a3 a4 a5 a6 a7 a8 a9 a10
      obtain ⟨a0, a1, a2, a3, a4, a5, a6, a7, a8, a9, a10⟩ := EBox.cells (HX.out w2 HB2.out)
      go_wp2_with fail
      refine (HBR.out w2 HB2.out).mono ?_
      intro x w3 hreb
      obtain ⟨hy, -, hb3⟩ := hreb
      obtain ⟨v3, rfl, ho3⟩ := hy HVF.out
      rw [HLE.out] at ho3
      have hbr3 := brd_own ho3
      obtain ⟨A3, c3, rfl⟩ := hbr3.form
      have HV3 := Lib.hid hbr3
      have HV23 := Lib.hid (HV2.out.later hb3)
      have HB3 := Lib.hid (HB2.out.trans (hb3.mono HB2.out.size))
      have HEQ : Hid (∀ W, Below w3.heap.size w3 W → Calls Tryz.prog 16 #[.slice A2 L.length c2, .slice A3 L.length c3] W fun r w' => r = .returned (.bool true) ∧ Below W.heap.size W w') := Lib.hid fun W hW => by
        have := bequal_any L L _ _ W (HV23.out.later hW) (HV3.out.later hW)
        rw [decide_eq_true rfl] at this
        exact this
      clear hb3 hy ho3 hbr3 a0 a1 a2 a3 a4 a5 a6 a7 a8 a9 a10
      go_upto_region 5 with fail
      refine wp_region_noPanic ?_
      refine wp_region_held_drew (S := (fun W' : World => W'.cell? ⟨w.heap.size, 0, none⟩ = some (.int .i64 e.k) ∧ W'.cell? ⟨w.heap.size, 1, none⟩ = some (.int .u64 (e.id : Nat)) ∧ W'.cell? ⟨w.heap.size, 2, none⟩ = some (.int .i64 e.n) ∧ W'.cell? ⟨w.heap.size, 3, none⟩ = some (.int .u64 (e.at' : Nat)) ∧ W'.cell? ⟨w.heap.size, 4, none⟩ = some (.string e.name) ∧ W'.cell? ⟨w.heap.size, 5, none⟩ = some (.string e.text) ∧ W'.cell? ⟨w.heap.size, 6, none⟩ = some (.int .i64 vk) ∧ W'.cell? ⟨w.heap.size, 7, none⟩ = some (.int .i64 vn) ∧ W'.cell? ⟨w.heap.size, 8, none⟩ = some (.float .f64 vf) ∧ W'.cell? ⟨w.heap.size, 9, none⟩ = some (.string vs) ∧ W'.cell? ⟨w.heap.size, 10, none⟩ = some (.slice A m c))) (by kernel_rfl) ?_ (fun hHeld => ?_)
      · exact KS.out _ (below_drew HB3.out)
      have HB20 : Hid (Below W0.heap.size W0 w3.drew) := Lib.hid (below_drew HB3.out)
      have HC20 : Hid (Below w3.heap.size w3 w3.drew) := Lib.hid (below_drew (Below.refl _ _))
      refine tk (i := 0) rfl ?_
      try simp only [Act.put, List.setIfInBounds_toArray, List.set_cons_zero, List.set_cons_succ]
      refine tk (i := 2) rfl ?_
      try simp only [Act.put, List.setIfInBounds_toArray, List.set_cons_zero, List.set_cons_succ]
      refine wpAnyH_ready (rs := [1]) (by kernel_rfl) (by simp) ?_
      refine cons_drop rfl (fun K hK => ?_) AllReadyH.nil
      go_simp
      refine (HVL.out _ HB20.out).mono ?_
      rintro x21 w21 ⟨rfl, hb21⟩
      have HB21 : Hid (Below W0.heap.size W0 w21) := Lib.hid (HB20.out.trans (hb21.mono HB20.out.size))
      have HC21 : Hid (Below w3.heap.size w3 w21) := Lib.hid (HC20.out.trans (hb21.mono HC20.out.size))
      clear hb21
      go_wp2_with fail
      refine hK.out _ _ (KS.out _ HB21.out) (fun hHeld1 => ?_)
      clear hK K hHeld
      try simp only [Act.put, List.setIfInBounds_toArray, List.set_cons_zero, List.set_cons_succ]
      refine tk (i := 3) rfl ?_
      try simp only [Act.put, List.setIfInBounds_toArray, List.set_cons_zero, List.set_cons_succ]
      refine tk (i := 4) rfl ?_
      try simp only [Act.put, List.setIfInBounds_toArray, List.set_cons_zero, List.set_cons_succ]
      refine tk (i := 5) rfl ?_
      try simp only [Act.put, List.setIfInBounds_toArray, List.set_cons_zero, List.set_cons_succ]
      refine tk (i := 6) rfl ?_
      try simp only [Act.put, List.setIfInBounds_toArray, List.set_cons_zero, List.set_cons_succ]
      refine wpAnyH_ready (rs := [7]) (by kernel_rfl) (by simp) ?_
      refine cons_drop rfl (fun K hK => ?_) AllReadyH.nil
      go_simp
      refine (HEQ.out _ HC21.out).mono ?_
      rintro x22 w22 ⟨rfl, hb22⟩
      have HB22 : Hid (Below W0.heap.size W0 w22) := Lib.hid (HB21.out.trans (hb22.mono HB21.out.size))
      have HC22 : Hid (Below w3.heap.size w3 w22) := Lib.hid (HC21.out.trans (hb22.mono HC21.out.size))
      clear hb22
      go_wp2_with fail
      refine hK.out _ _ (KS.out _ HB22.out) (fun hHeld2 => ?_)
      clear hK K hHeld1
      try simp only [Act.put, List.setIfInBounds_toArray, List.set_cons_zero, List.set_cons_succ]
      refine tk (i := 8) rfl ?_
      try simp only [Act.put, List.setIfInBounds_toArray, List.set_cons_zero, List.set_cons_succ]
      refine tk (i := 9) rfl ?_
      try simp only [Act.put, List.setIfInBounds_toArray, List.set_cons_zero, List.set_cons_succ]
      refine tk (i := 10) rfl ?_
      try simp only [Act.put, List.setIfInBounds_toArray, List.set_cons_zero, List.set_cons_succ]
      refine tk (i := 11) rfl ?_
      try simp only [Act.put, List.setIfInBounds_toArray, List.set_cons_zero, List.set_cons_succ]
      refine tk (i := 12) rfl ?_
      try simp only [Act.put, List.setIfInBounds_toArray, List.set_cons_zero, List.set_cons_succ]
      refine tk (i := 13) rfl ?_
      try simp only [Act.put, List.setIfInBounds_toArray, List.set_cons_zero, List.set_cons_succ]
      refine tk (i := 14) rfl ?_
      try simp only [Act.put, List.setIfInBounds_toArray, List.set_cons_zero, List.set_cons_succ]
      refine tk (i := 15) rfl ?_
      try simp only [Act.put, List.setIfInBounds_toArray, List.set_cons_zero, List.set_cons_succ]
      refine tk (i := 16) rfl ?_
      try simp only [Act.put, List.setIfInBounds_toArray, List.set_cons_zero, List.set_cons_succ]
      refine tk (i := 18) rfl ?_
      try simp only [Act.put, List.setIfInBounds_toArray, List.set_cons_zero, List.set_cons_succ]
      refine wpAnyH_ready (rs := [17]) (by kernel_rfl) (by simp) ?_
      refine cons_drop rfl (fun K hK => ?_) AllReadyH.nil
      go_simp
      refine (HTX.out _ HB22.out).mono ?_
      rintro x23 w23 ⟨rfl, hb23⟩
      have HB23 : Hid (Below W0.heap.size W0 w23) := Lib.hid (HB22.out.trans (hb23.mono HB22.out.size))
      have HC23 : Hid (Below w3.heap.size w3 w23) := Lib.hid (HC22.out.trans (hb23.mono HC22.out.size))
      clear hb23
      go_wp2_with fail
      refine hK.out _ _ (KS.out _ HB23.out) (fun hHeld3 => ?_)
      clear hK K hHeld2
      try simp only [Act.put, List.setIfInBounds_toArray, List.set_cons_zero, List.set_cons_succ]
      refine wpAnyH_ready (rs := [19]) (by kernel_rfl) (by simp) ?_
      refine cons_drop rfl (fun K hK => ?_) AllReadyH.nil
      go_simp
      refine (HRT.out _ HB23.out).mono ?_
      rintro x24 w24 ⟨rfl, hb24⟩
      have HB24 : Hid (Below W0.heap.size W0 w24) := Lib.hid (HB23.out.trans (hb24.mono HB23.out.size))
      have HC24 : Hid (Below w3.heap.size w3 w24) := Lib.hid (HC23.out.trans (hb24.mono HC23.out.size))
      clear hb24
      go_wp2_with fail
      refine hK.out _ _ (KS.out _ HB24.out) (fun hHeld4 => ?_)
      clear hK K hHeld3
      try simp only [Act.put, List.setIfInBounds_toArray, List.set_cons_zero, List.set_cons_succ]
      refine tk (i := 20) rfl ?_
      try simp only [Act.put, List.setIfInBounds_toArray, List.set_cons_zero, List.set_cons_succ]
      refine tk (i := 21) rfl ?_
      try simp only [Act.put, List.setIfInBounds_toArray, List.set_cons_zero, List.set_cons_succ]
      refine wpAnyH_done (by kernel_rfl) ?_ _
      refine NoPanic.normal ?_
      go_wp2_with fail
      have HNW := Lib.hid (new_any _ L (by omega) w24 (HV23.out.later HC24.out))
      refine HNW.out.mono ?_
      rintro x w5 ⟨g, xr, rfl, hr5, hg5, hb5⟩
      have HRE := Lib.hid (eread_any g (L, false) w5 ⟨⟨xr, hr5⟩, HBYT.out, by show L.length ≤ _; omega⟩)
      have HB5 := Lib.hid (HB24.out.trans (hb5.mono HB24.out.size))
      have hgz : W0.heap.size ≤ g := Nat.le_trans HB24.out.size hg5
      clear hr5 hg5 hb5
      go_wp2_with fail
      refine HRE.out.mono ?_
      intro x w6 her
      unfold ERead at her
      rw [HPE.out] at her
      obtain ⟨xe, rfl, ⟨hf6, vk6, vn6, vf6, vs6, A6, m6, c6, rfl, hrep6⟩, hr6, ho6⟩ := her
      have HB6 := Lib.hid (HB5.out.trans (ho6.below hgz (fun r hr => by cases hr) HB5.out.size))
      have hz6 := ho6.size
      obtain ⟨b7, hb7⟩ : ∃ b7, b7 = w6.heap.size := ⟨_, rfl⟩
      obtain ⟨W7, hW7⟩ : ∃ W7, W7 = w6.alloc (.cells (evCells e' vk6 vn6 vf6 vs6 A6 m6 c6) 32) := ⟨_, rfl⟩
      have hb67 : Below w6.heap.size w6 W7 := by rw [hW7]; exact (Below.refl _ _).alloc (Nat.le_refl _) _
      have hE7 : EBox W7 b7 (evCells e' vk6 vn6 vf6 vs6 A6 m6 c6) := by rw [hW7, hb7]; exact heap_alloc_new _ _
      have hz7 : W7.heap.size = b7 + 1 := by rw [hW7, hb7]; simp
      have HB7 := Lib.hid (HB6.out.trans (hb67.mono HB6.out.size))
      have HS7 : Hid (∀ W, Below W7.heap.size W7 W → Calls Tryz.prog 10 #[.agg (evCells e' vk6 vn6 vf6 vs6 A6 m6 c6), .agg #[.int .i64 e.k, .int .u64 (e.id : Nat), .int .i64 e.n, .int .u64 (e.at' : Nat), .string e.name, .string e.text, .int .i64 vk, .int .i64 vn, .float .f64 vf, .string vs, .slice A m c]] W fun r w' => r = .returned (.bool true) ∧ Below W.heap.size W w') := Lib.hid fun W hW => by
        have := HSM.out e' W w5.heap.size w6.heap.size _ (HB7.out.trans (hW.mono HB7.out.size)) ⟨hf6, vk6, vn6, vf6, vs6, A6, m6, c6, rfl, (hrep6.later hb67).later (hW.mono hb67.size)⟩ (Nat.le_trans hb67.size hW.size)
        rw [HSA.out] at this
        exact this
      have HD7 : Hid (∀ W, Below W7.heap.size W7 W → Calls Tryz.prog 19 #[.pointer (some ⟨g, 0, none⟩)] W fun r w' => r = .returned (.bool true) ∧ W = w') := Lib.hid fun W hW => by
        obtain ⟨⟨vv, hvv⟩, -⟩ := (hr6.later hb67).later hW
        exact Rd.done_any g vv [] false W hvv
      have HE7 : Hid (∀ W, Below W7.heap.size W7 W → EBox W b7 (evCells e' vk6 vn6 vf6 vs6 A6 m6 c6)) := Lib.hid fun W hW => hE7.later hW (by omega)
      clear hrep6 hf6 hr6 ho6 hb67 hE7
      unfold evCells at hW7 HS7 HE7 ⊢
      replace hW7 := Lib.hid hW7
      have HBB7 := Lib.hid hb7
      clear hb7
      go_upto_region 11 with fail
      rw [← hW7.out, ← HBB7.out]
      go_wp2_with fail
      refine (HA.out _).mono ?_
      rintro x w8 ⟨rfl, hb8⟩
      have HB8 := Lib.hid hb8
      clear hb8
      go_wp2_with fail
      refine (HD7.out w8 HB8.out).mono ?_
      rintro x w9 ⟨rfl, rfl⟩
      obtain ⟨a0, a1, a2, a3, a4, a5, a6, a7, a8, a9, a10⟩ := EBox.cells (HX.out w8 (HB7.out.trans (HB8.out.mono HB7.out.size)))
      obtain ⟨d0, d1, d2, d3, d4, d5, d6, d7, d8, d9, d10⟩ := EBox.cells (HE7.out w8 HB8.out)
      go_wp2_with fail
      refine (HS7.out w8 HB8.out).mono ?_
      rintro x w10 ⟨rfl, hb10⟩
      have HB10 := Lib.hid (HB8.out.trans (hb10.mono HB8.out.size))
      clear hb10
      go_wp2_with fail
      go_ret
      exact ⟨rfl, HB0.out.trans ((HB7.out.trans (HB10.out.mono HB7.out.size)).mono HB0.out.size)⟩

set_option maxRecDepth 100000 in
open Go.ChangeShapes Go.WideShapes Go.ChangeAt Go.Joins Go.Deep in
theorem eforms_open {H : Type} {enc : TypeId × Value → H} {base b1 : Nat} {spare : Nat → Bool} {held : Bool} {d0 : DataW H} {p0 : List MemPlace} (v0 : Value) (W : World)
    (o0 : Value.okWide Tryz.prog W .any base 32 v0) (k0 : DataW.Trod enc Tryz.prog W b1 spare held 32 v0 d0 p0) (hL : laidMetH Tryz.prog Rows.eventFormsRow.laid W) :
    Calls Tryz.prog 4 #[v0] W fun e w' => e = .returned (.bool true) ∧ Below W.heap.size W w' := by
  have ht : TB W := tb_of_laid (by kernel_rfl) (by kernel_rfl) hL
  obtain ⟨a, vk, vn, vf, vs, A, m, c, fa, ra, rfl⟩ := event_open v0 W o0 k0
  exact eforms_walk a fa _ _ vk vn vf vs A m c W ra (Nat.le_refl _) ht
end Ef
end Go.Proofs.YtcbddebmmaflgaaGreatDoor
