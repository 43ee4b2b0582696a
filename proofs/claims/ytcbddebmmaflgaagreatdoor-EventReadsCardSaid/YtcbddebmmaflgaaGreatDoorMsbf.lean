/- clockworklaw11's alive. -/
/- EventReads of what came in. -/
import Derived.Test.YtcbddebmmaflgaaGreatDoorMsbe
import Derived.Test.YtcbddebmmaflgaaGreatDoorMsbc
namespace Go.Proofs.YtcbddebmmaflgaaGreatDoor
open Go.RowKit
set_option linter.unusedVariables false
namespace Bt
open Vt (VT Rep BoxAt below_drew)
open Ev (EV FieldsOk ERep evCells vCells zeroT EBox nameOf fieldsOf rowCellsOf of_in evalid_any)

def e5 : EV := ⟨5, 5, 0, 0, ⟨#[]⟩, ⟨#[]⟩, zeroT⟩
theorem e5_rep (w : World) : ERep w 0 0 e5 (.agg #[.int .i64 5, .int .u64 5, .int .i64 0, .int .u64 0, .string ⟨#[]⟩, .string ⟨#[]⟩, .int .i64 0, .int .i64 0, .float .f64 0, .string ⟨#[]⟩, .slice none 0 0]) :=
  ⟨⟨by decide, by decide, by decide, by decide, by decide, by decide, by decide, by decide⟩, 0, 0, 0, ⟨#[]⟩, none, 0, 0, rfl, Rep.leaf ⟨by omega, by omega, by omega, by omega, by omega, by decide, by decide⟩⟩
theorem zero_valid : zeroT.valid 8 = true := by unfold zeroT; rw [Vt.valid_mk]; simp; decide
theorem e5_valid : e5.valid = true := by
  unfold EV.valid Ev.goodL e5
  simp [fieldsOf, Vt.same_refl, Ev.pickB]
  try decide
theorem five_bytes (w : World) : Calls Tryz.prog 14 #[.agg #[.int .i64 5, .int .u64 5, .int .i64 0, .int .u64 0, .string ⟨#[]⟩, .string ⟨#[]⟩, .int .i64 0, .int .i64 0, .float .f64 0, .string ⟨#[]⟩, .slice none 0 0]] w fun e w' => ∃ v, e = .returned (.tuple #[v, .bool true]) ∧ BOwn w' w.heap.size v [1, 5, 5] ∧ Below w.heap.size w w' := by
  have h := ebytes_walk 5 5 0 0 ⟨#[]⟩ ⟨#[]⟩ (by omega) (by omega) (by omega) (by omega) (by decide) (by decide) 0 0 0 ⟨#[]⟩ none 0 0 (nameOf 5) true false false false false false [0] (by simp) w
    (fun W hW => (evalid_any e5 W 0 0 _ (e5_rep W) (Nat.zero_le _)).mono fun r w' h => by rw [e5_valid] at h; exact h)
    (fun W => of_in 5 (by omega) (by omega) W)
    (fun W hW => vbytes0 zeroT 0 0 0 0 ⟨#[]⟩ none 0 0 W (Rep.leaf ⟨by omega, by omega, by omega, by omega, by omega, by decide, by decide⟩) (Nat.zero_le _) zero_valid)
  exact h
theorem five_text (w : World) : Calls Tryz.prog 17 #[.agg #[.int .i64 5, .int .u64 5, .int .i64 0, .int .u64 0, .string ⟨#[]⟩, .string ⟨#[]⟩, .int .i64 0, .int .i64 0, .float .f64 0, .string ⟨#[]⟩, .slice none 0 0]] w fun e w' => e = .returned (.string ⟨#[102, 105, 114, 101, 100, 32, 53]⟩) ∧ Below w.heap.size w w' := by
  have h := etext_walk 5 5 0 0 ⟨#[]⟩ ⟨#[]⟩ 0 0 0 ⟨#[]⟩ none 0 0 (nameOf 5) ⟨#[53]⟩ ⟨#[48]⟩ ⟨#[48]⟩ ⟨#[34, 34]⟩ ⟨#[34, 34]⟩ ⟨#[110, 105, 108]⟩ true false false false false false w (by decide)
    (fun W hW => (evalid_any e5 W 0 0 _ (e5_rep W) (Nat.zero_le _)).mono fun r w' h => by rw [e5_valid] at h; exact h)
    (fun W => of_in 5 (by omega) (by omega) W)
    (fun W _ => (fmt5 W).mono fun r w' h => ⟨h.1, by rw [h.2]; exact Below.refl _ _⟩)
    (fun W _ => (itoa0 W).mono fun r w' h => ⟨h.1, by rw [h.2]; exact Below.refl _ _⟩)
    (fun W _ => (fmt0 W).mono fun r w' h => ⟨h.1, by rw [h.2]; exact Below.refl _ _⟩)
    (fun W _ => quoted0 W) (fun W _ => quoted0 W)
    (fun W hW => vtext_none zeroT 0 0 0 0 ⟨#[]⟩ none 0 0 W (Rep.leaf ⟨by omega, by omega, by omega, by omega, by omega, by decide, by decide⟩) (Nat.zero_le _) zero_valid _ (fun W => none_text 0 0 ⟨#[]⟩ none 0 0 0 W))
  exact h

theorem BOwn.three {w : World} {base : Nat} {v : Value} {a b c : Nat} (h : BOwn w base v [a, b, c]) : ∃ g cap, v = .slice (some ⟨g, 0, none⟩) 3 cap ∧ base ≤ g ∧ 3 ≤ cap ∧ g < w.heap.size ∧ w.cell? ⟨g, 0, none⟩ = some (.int .u8 a) ∧ w.cell? ⟨g, 1, none⟩ = some (.int .u8 b) ∧ w.cell? ⟨g, 2, none⟩ = some (.int .u8 c) := by
  rcases h.2 with ⟨h1, h2⟩ | ⟨g, cap, cur, rfl, q2, q3, q4, q5, q6, q7⟩
  · simp at h2
  · refine ⟨g, cap, rfl, q2, q4, (Array.getElem?_eq_some_iff.1 q3).1, ?_, ?_, ?_⟩
    all_goals
      have q8 : cur.toList.take 3 = [.int .u8 (a : Int), .int .u8 (b : Int), .int .u8 (c : Int)] := q7
      simp only [World.cell?, q3]
      rw [← Array.getElem?_toList]
    · rw [← List.getElem?_take_of_lt (l := cur.toList) (j := 3) (by omega), q8]; rfl
    · rw [← List.getElem?_take_of_lt (l := cur.toList) (j := 3) (by omega), q8]; rfl
    · rw [← List.getElem?_take_of_lt (l := cur.toList) (j := 3) (by omega), q8]; rfl

set_option maxRecDepth 100000 in
theorem alive_any (w : World) : Calls Tryz.prog 6 #[] w fun e w' => e = .returned (.bool true) ∧ Below w.heap.size w w' := by
  obtain ⟨W0, hW0⟩ : ∃ W0, W0 = w.alloc (.cells #[.int .i64 5, .int .u64 5, .int .i64 0, .int .u64 0, .string ⟨#[]⟩, .string ⟨#[]⟩, .int .i64 0, .int .i64 0, .float .f64 0, .string ⟨#[]⟩, .slice none 0 0] 32) := ⟨_, rfl⟩
  have HB0 : Hid (Below w.heap.size w W0) := Lib.hid (by rw [hW0]; exact (Below.refl _ _).alloc (Nat.le_refl _) _)
  have hbx : EBox W0 w.heap.size #[.int .i64 5, .int .u64 5, .int .i64 0, .int .u64 0, .string ⟨#[]⟩, .string ⟨#[]⟩, .int .i64 0, .int .i64 0, .float .f64 0, .string ⟨#[]⟩, .slice none 0 0] := by rw [hW0]; exact heap_alloc_new w _
  have hzz : w.heap.size < W0.heap.size := by rw [hW0]; simp
  have HY := Lib.hid (five_bytes W0)
  have HT := Lib.hid five_text
  obtain ⟨a0, a1, a2, a3, a4, a5, a6, a7, a8, a9, a10⟩ := EBox.cells hbx
  have HX := Lib.hid hbx
  clear hbx
  replace hW0 := Lib.hid hW0
  go_enter Tryz.func6, Tryz.ntmps6
  go_upto_region 2 with fail
  rw [← hW0.out]
  go_wp2_with fail
  refine HY.out.mono ?_
  rintro e w1 ⟨v, rfl, hown, hb⟩
  obtain ⟨g, cap, rfl, hg0, hg1, hg2, c0, c1, c2⟩ := BOwn.three hown
  have hbx := HX.out.later hb hzz
  have HB1 : Hid (Below w.heap.size w w1) := Lib.hid (HB0.out.trans (hb.mono HB0.out.size))
  clear a0 a1 a2 a3 a4 a5 a6 a7 a8 a9 a10 hown hb HY HX
  obtain ⟨a0, a1, a2, a3, a4, a5, a6, a7, a8, a9, a10⟩ := EBox.cells hbx
  clear hbx
  go_wp2_with fail
  refine (HT.out _).mono ?_
  rintro e w2 ⟨rfl, hb2⟩
  have HB2 : Hid (Below w.heap.size w w2) := Lib.hid (HB1.out.trans (hb2.mono HB1.out.size))
  clear hb2
  go_wp2_with fail
  go_ret
  exact ⟨by first | rfl | simp, HB2.out⟩

end Bt
end Go.Proofs.YtcbddebmmaflgaaGreatDoor
namespace Go.Proofs.YtcbddebmmaflgaaGreatDoor
open Go.RowKit
set_option linter.unusedVariables false
set_option linter.unusedSimpArgs false
namespace Rd
open _root_.Go.Proofs.YtcbddebmmaflgaaGreatDoor.Nm (ret_int ret_bool)
open Vt (VT Rep below_drew)
open Ev (EV EBox ERep fieldsOf FieldsOk zeroT evCells vCells take_drop cons_drop)
open Cm (OnlyAt evSame)
open Cn (BRd)

def z0 : EV := ⟨0, 0, 0, 0, ⟨#[]⟩, ⟨#[]⟩, zeroT⟩
theorem erep_zero (w : World) (lo hi : Nat) : ERep w lo hi z0 (.agg #[.int .i64 0, .int .u64 0, .int .i64 0, .int .u64 0, .string ⟨#[]⟩, .string ⟨#[]⟩, .int .i64 0, .int .i64 0, .float .f64 0, .string ⟨#[]⟩, .slice none 0 0]) :=
  ⟨⟨by decide, by decide, by decide, by decide, by decide, by decide, by decide, by decide⟩, 0, 0, 0, ⟨#[]⟩, none, 0, 0, rfl, rep_leaf ⟨by decide, by decide, by decide, by decide, by decide, by decide, by decide⟩⟩
set_option maxRecDepth 100000 in
theorem ereads_long (A : Option Addr) (len cap : Nat) (w : World) (h : 600 < len) :
    Calls Tryz.prog 3 #[.slice A len cap] w fun r w' => r = .returned (.bool true) ∧ Below w.heap.size w w' := by
  have HA := Lib.hid fun W => Bt.alive_any W
  have k1 : decide ((600 : Int) < (len : Int)) = true := decide_eq_true (by omega)
  have k2 : decide ((len : Int) > 600) = true := decide_eq_true (by omega)
  clear h
  go_enter Tryz.func3, Tryz.ntmps3
  go_wp2_with fail
  refine (HA.out _).mono ?_
  rintro e w2 ⟨rfl, hb⟩
  have HB := Lib.hid hb
  clear hb
  go_wp2_with fail
  go_ret
  exact ⟨rfl, HB.out⟩
set_option maxRecDepth 100000 in
set_option maxHeartbeats 8000000 in
theorem ereads_walk (v : Value) (l : List Nat) (hl : l.length ≤ 600) (hb : Byt l) (w : World) (h : BRd w v l) :
    Calls Tryz.prog 3 #[v] w fun r w' => r = .returned (.bool true) ∧ Below w.heap.size w w' := by
  obtain ⟨A, cap, hvf⟩ := h.form
  subst hvf
  have HA := Lib.hid fun W => Bt.alive_any W
  have HN := Lib.hid (new_any _ l (by omega) w h)
  have HV := Lib.hid h
  have HBY : Hid (Byt l) := Lib.hid hb
  have k1 : decide ((600 : Int) < (l.length : Int)) = false := decide_eq_false (by omega)
  have k2 : decide ((l.length : Int) > 600) = false := decide_eq_false (by omega)
  clear h hb
  go_enter Tryz.func3, Tryz.ntmps3
  go_wp2_with fail
  refine HN.out.mono ?_
  rintro e w1 ⟨g, x, rfl, hr1, hg1, hb1⟩
  have HE := Lib.hid (eread_any g (l, false) w1 ⟨⟨x, hr1⟩, HBY.out, by show l.length ≤ _; omega⟩)
  have HG := Lib.hid hg1; have HB1 := Lib.hid hb1
  have hz1 := hb1.size
  clear hr1 hg1 hb1
  go_wp2_with fail
  refine HE.out.mono ?_
  intro e w2 her
  unfold ERead at her
  cases hp : pe (l, false) with
  | none =>
    rw [hp] at her
    obtain ⟨rfl, ⟨⟨s1, bad1⟩, hr2⟩, ho2⟩ := her
    unfold zeroE at *
    have hz2 := ho2.size
    obtain ⟨W3, hW3⟩ : ∃ W3, W3 = w2.alloc (.cells #[.int .i64 0, .int .u64 0, .int .i64 0, .int .u64 0, .string ⟨#[]⟩, .string ⟨#[]⟩, .int .i64 0, .int .i64 0, .float .f64 0, .string ⟨#[]⟩, .slice none 0 0] 32) := ⟨_, rfl⟩
    obtain ⟨b4, hb4⟩ : ∃ b4, b4 = w2.heap.size := ⟨_, rfl⟩
    have hb3 : Below w2.heap.size w2 W3 := by rw [hW3]; exact (Below.refl _ _).alloc (Nat.le_refl _) _
    have hE4 : EBox W3 b4 #[.int .i64 0, .int .u64 0, .int .i64 0, .int .u64 0, .string ⟨#[]⟩, .string ⟨#[]⟩, .int .i64 0, .int .i64 0, .float .f64 0, .string ⟨#[]⟩, .slice none 0 0] := by rw [hW3, hb4]; exact heap_alloc_new _ _
    have hz3 : W3.heap.size = b4 + 1 := by rw [hW3, hb4]; simp
    have hbw3 : Below w.heap.size w W3 := (HB1.out.trans (ho2.below HG.out (fun r hr => by cases hr) (by omega))).trans (hb3.mono (by omega))
    have hr3 := hr2.later hb3
    have HR := Lib.hid (reread_any (l, false) (.agg #[.slice A l.length cap, .bool false]) W3 w.heap.size hbw3.size ⟨⟨_, rfl, HV.out.later hbw3, fun q hq => brd_block HV.out q hq⟩, HBY.out, by show l.length ≤ _; omega⟩)
    have HE4 := Lib.hid hE4; have HR3 := Lib.hid hr3; have HBW3 := Lib.hid hbw3; have HP := Lib.hid hp
    clear hr2 ho2 hb3 hE4 hbw3 hr3 hp
    replace hW3 := Lib.hid hW3
    have HB4 := Lib.hid hb4
    clear hb4
    go_upto_region 5 with fail
    rw [← hW3.out, ← HB4.out]
    go_wp2_with fail
    refine HR.out.mono ?_
    intro e w4 hre
    obtain ⟨okb, y, x2, ⟨l5, bad5⟩, e2, rfl, ⟨⟨v5, rfl, hv5, hf5⟩, hb5, hl5⟩, hbl4, hyes, hno⟩ := hre
    simp only at hv5 hf5 hb5 hl5
    rw [HP.out] at hyes hno
    obtain rfl : okb = false := by
      cases okb with
      | false => rfl
      | true => exact absurd (hyes rfl).1 (by simp)
    obtain ⟨-, rfl⟩ := hno rfl
    unfold zeroE at *
    obtain ⟨A5, cap5, hv5f⟩ := hv5.form
    subst hv5f
    obtain ⟨b6, hb6⟩ : ∃ b6, b6 = w4.heap.size := ⟨_, rfl⟩
    obtain ⟨W5, hW5⟩ : ∃ W5, W5 = (w4.alloc (.cells #[.slice A5 l5.length cap5, .bool bad5] 36)).alloc (.cells #[.int .i64 0, .int .u64 0, .int .i64 0, .int .u64 0, .string ⟨#[]⟩, .string ⟨#[]⟩, .int .i64 0, .int .i64 0, .float .f64 0, .string ⟨#[]⟩, .slice none 0 0] 32) := ⟨_, rfl⟩
    have hb45 : Below w4.heap.size w4 W5 := by rw [hW5]; exact ((Below.refl _ _).alloc (Nat.le_refl _) _).alloc (by simp) _
    have hz5 : W5.heap.size = b6 + 2 := by rw [hW5, hb6]; simp
    have hq6 : QB W5 b6 (.slice A5 l5.length cap5) bad5 := by rw [hW5, hb6]; exact (heap_alloc_old _ _ (by simp)).trans (heap_alloc_new _ _)
    have hE7 : EBox W5 (b6 + 1) #[.int .i64 0, .int .u64 0, .int .i64 0, .int .u64 0, .string ⟨#[]⟩, .string ⟨#[]⟩, .int .i64 0, .int .i64 0, .float .f64 0, .string ⟨#[]⟩, .slice none 0 0] := by
      rw [hW5, hb6]
      have e := heap_alloc_new (w4.alloc (.cells #[.slice A5 l5.length cap5, .bool bad5] 36)) (.cells #[.int .i64 0, .int .u64 0, .int .i64 0, .int .u64 0, .string ⟨#[]⟩, .string ⟨#[]⟩, .int .i64 0, .int .i64 0, .float .f64 0, .string ⟨#[]⟩, .slice none 0 0] 32)
      rw [World.size_alloc] at e
      exact e
    have hb35 : Below W3.heap.size W3 W5 := hbl4.trans (hb45.mono hbl4.size)
    have hE4 := HE4.out.later hb35 HE4.out.lt
    have KS : Hid (∀ W' : World, Below W5.heap.size W5 W' → (W'.cell? ⟨b4, 0, none⟩ = some (.int .i64 0) ∧ W'.cell? ⟨b4, 1, none⟩ = some (.int .u64 0) ∧ W'.cell? ⟨b4, 2, none⟩ = some (.int .i64 0) ∧ W'.cell? ⟨b4, 3, none⟩ = some (.int .u64 0) ∧ W'.cell? ⟨b4, 4, none⟩ = some (.string ⟨#[]⟩) ∧ W'.cell? ⟨b4, 5, none⟩ = some (.string ⟨#[]⟩) ∧ W'.cell? ⟨b4, 6, none⟩ = some (.int .i64 0) ∧ W'.cell? ⟨b4, 7, none⟩ = some (.int .i64 0) ∧ W'.cell? ⟨b4, 8, none⟩ = some (.float .f64 0) ∧ W'.cell? ⟨b4, 9, none⟩ = some (.string ⟨#[]⟩) ∧ W'.cell? ⟨b4, 10, none⟩ = some (.slice none 0 0) ∧ W'.cell? ⟨b6 + 1, 0, none⟩ = some (.int .i64 0) ∧ W'.cell? ⟨b6 + 1, 1, none⟩ = some (.int .u64 0) ∧ W'.cell? ⟨b6 + 1, 2, none⟩ = some (.int .i64 0) ∧ W'.cell? ⟨b6 + 1, 3, none⟩ = some (.int .u64 0) ∧ W'.cell? ⟨b6 + 1, 4, none⟩ = some (.string ⟨#[]⟩) ∧ W'.cell? ⟨b6 + 1, 5, none⟩ = some (.string ⟨#[]⟩) ∧ W'.cell? ⟨b6 + 1, 6, none⟩ = some (.int .i64 0) ∧ W'.cell? ⟨b6 + 1, 7, none⟩ = some (.int .i64 0) ∧ W'.cell? ⟨b6 + 1, 8, none⟩ = some (.float .f64 0) ∧ W'.cell? ⟨b6 + 1, 9, none⟩ = some (.string ⟨#[]⟩) ∧ W'.cell? ⟨b6 + 1, 10, none⟩ = some (.slice none 0 0) ∧ W'.cell? ⟨b6, 0, none⟩ = some (.slice A5 l5.length cap5))) := Lib.hid fun W' hW => by
      obtain ⟨p0, p1, p2, p3, p4, p5, p6, p7, p8, p9, p10⟩ := (hE4.later hW hE4.lt).cells
      obtain ⟨q0, q1, q2, q3, q4, q5, q6, q7, q8, q9, q10⟩ := (hE7.later hW hE7.lt).cells
      exact ⟨p0, p1, p2, p3, p4, p5, p6, p7, p8, p9, p10, q0, q1, q2, q3, q4, q5, q6, q7, q8, q9, q10, (hq6.later hW hq6.lt).cells.1⟩
    have HBW5 := Lib.hid (HBW3.out.trans (hb35.mono HBW3.out.size))
    have HSM : Hid (∀ W' : World, Below W5.heap.size W5 W' → Calls Tryz.prog 10 #[.agg #[.int .i64 0, .int .u64 0, .int .i64 0, .int .u64 0, .string ⟨#[]⟩, .string ⟨#[]⟩, .int .i64 0, .int .i64 0, .float .f64 0, .string ⟨#[]⟩, .slice none 0 0], .agg #[.int .i64 0, .int .u64 0, .int .i64 0, .int .u64 0, .string ⟨#[]⟩, .string ⟨#[]⟩, .int .i64 0, .int .i64 0, .float .f64 0, .string ⟨#[]⟩, .slice none 0 0]] W' fun r w' => r = .returned (.bool true) ∧ Below W'.heap.size W' w') := Lib.hid fun W' hW => by
      have := Cm.rsev_any z0 z0 W' 0 0 0 0 _ _ (erep_zero W' 0 0) (Nat.zero_le _) (erep_zero W' 0 0) (Nat.zero_le _)
      rw [Cm.evSame_refl] at this
      exact this
    clear hE4 hE7 hq6 hb35 hb45 hbl4 hyes hno hv5 hf5 hb5 hl5
    replace hW5 := Lib.hid hW5
    have HB6 := Lib.hid hb6
    clear hb6
    go_upto_region 6 with fail
    rw [← hW5.out, ← HB6.out]
    refine wp_region_noPanic ?_
    refine wp_region_held_drew (S := (fun W' : World => W'.cell? ⟨b4, 0, none⟩ = some (.int .i64 0) ∧ W'.cell? ⟨b4, 1, none⟩ = some (.int .u64 0) ∧ W'.cell? ⟨b4, 2, none⟩ = some (.int .i64 0) ∧ W'.cell? ⟨b4, 3, none⟩ = some (.int .u64 0) ∧ W'.cell? ⟨b4, 4, none⟩ = some (.string ⟨#[]⟩) ∧ W'.cell? ⟨b4, 5, none⟩ = some (.string ⟨#[]⟩) ∧ W'.cell? ⟨b4, 6, none⟩ = some (.int .i64 0) ∧ W'.cell? ⟨b4, 7, none⟩ = some (.int .i64 0) ∧ W'.cell? ⟨b4, 8, none⟩ = some (.float .f64 0) ∧ W'.cell? ⟨b4, 9, none⟩ = some (.string ⟨#[]⟩) ∧ W'.cell? ⟨b4, 10, none⟩ = some (.slice none 0 0) ∧ W'.cell? ⟨b6 + 1, 0, none⟩ = some (.int .i64 0) ∧ W'.cell? ⟨b6 + 1, 1, none⟩ = some (.int .u64 0) ∧ W'.cell? ⟨b6 + 1, 2, none⟩ = some (.int .i64 0) ∧ W'.cell? ⟨b6 + 1, 3, none⟩ = some (.int .u64 0) ∧ W'.cell? ⟨b6 + 1, 4, none⟩ = some (.string ⟨#[]⟩) ∧ W'.cell? ⟨b6 + 1, 5, none⟩ = some (.string ⟨#[]⟩) ∧ W'.cell? ⟨b6 + 1, 6, none⟩ = some (.int .i64 0) ∧ W'.cell? ⟨b6 + 1, 7, none⟩ = some (.int .i64 0) ∧ W'.cell? ⟨b6 + 1, 8, none⟩ = some (.float .f64 0) ∧ W'.cell? ⟨b6 + 1, 9, none⟩ = some (.string ⟨#[]⟩) ∧ W'.cell? ⟨b6 + 1, 10, none⟩ = some (.slice none 0 0) ∧ W'.cell? ⟨b6, 0, none⟩ = some (.slice A5 l5.length cap5))) (by kernel_rfl) ?_ (fun hHeld => ?_)
    · exact KS.out _ (below_drew (Below.refl _ _))
    refine wpAnyH_ready (rs := [0]) (by kernel_rfl) (by simp) ?_
    refine cons_drop rfl (fun K hK => ?_) AllReadyH.nil
    go_simp
    refine (HA.out _).mono ?_
    rintro x6 w6 ⟨rfl, hb6⟩
    have HB7 : Hid (Below W5.heap.size W5 w6) := Lib.hid ((below_drew (Below.refl _ _)).trans hb6)
    clear hb6
    go_wp2_with fail
    refine hK.out _ _ (KS.out _ HB7.out) (fun hHeld2 => ?_)
    clear hK K hHeld
    try simp only [Act.put, List.setIfInBounds_toArray, List.set_cons_zero, List.set_cons_succ]
    first
      | (refine take_drop (i := 1) (v := ?_) rfl (by kernel_rfl) (by kernel_rfl) (by kernel_rfl) (fun _ _ _ h => h) (Or.inl ⟨by rfl, ?_⟩) (by assumption) ?_; rotate_left 1; (focus (intro w hSw; (try dsimp only at hSw); go_simp; try with_reducible rfl)))
      | (refine take_drop (i := 1) (v := undef) rfl (by kernel_rfl) (by kernel_rfl) (by kernel_rfl) (fun _ _ _ h => h) (Or.inr ⟨by rfl, rfl⟩) (by assumption) ?_)
    try simp only [Act.put, List.setIfInBounds_toArray, List.set_cons_zero, List.set_cons_succ]
    first
      | (refine take_drop (i := 2) (v := ?_) rfl (by kernel_rfl) (by kernel_rfl) (by kernel_rfl) (fun _ _ _ h => h) (Or.inl ⟨by rfl, ?_⟩) (by assumption) ?_; rotate_left 1; (focus (intro w hSw; (try dsimp only at hSw); go_simp; try with_reducible rfl)))
      | (refine take_drop (i := 2) (v := undef) rfl (by kernel_rfl) (by kernel_rfl) (by kernel_rfl) (fun _ _ _ h => h) (Or.inr ⟨by rfl, rfl⟩) (by assumption) ?_)
    try simp only [Act.put, List.setIfInBounds_toArray, List.set_cons_zero, List.set_cons_succ]
    first
      | (refine take_drop (i := 3) (v := ?_) rfl (by kernel_rfl) (by kernel_rfl) (by kernel_rfl) (fun _ _ _ h => h) (Or.inl ⟨by rfl, ?_⟩) (by assumption) ?_; rotate_left 1; (focus (intro w hSw; (try dsimp only at hSw); go_simp; try with_reducible rfl)))
      | (refine take_drop (i := 3) (v := undef) rfl (by kernel_rfl) (by kernel_rfl) (by kernel_rfl) (fun _ _ _ h => h) (Or.inr ⟨by rfl, rfl⟩) (by assumption) ?_)
    try simp only [Act.put, List.setIfInBounds_toArray, List.set_cons_zero, List.set_cons_succ]
    refine wpAnyH_ready (rs := [4]) (by kernel_rfl) (by simp) ?_
    refine cons_drop rfl (fun K hK => ?_) AllReadyH.nil
    go_simp
    refine (HSM.out _ HB7.out).mono ?_
    rintro x7 w7 ⟨rfl, hb7⟩
    have HB8 : Hid (Below W5.heap.size W5 w7) := Lib.hid (HB7.out.trans (hb7.mono HB7.out.size))
    clear hb7
    go_wp2_with fail
    refine hK.out _ _ (KS.out _ HB8.out) (fun hHeld3 => ?_)
    clear hK K hHeld2
    try simp only [Act.put, List.setIfInBounds_toArray, List.set_cons_zero, List.set_cons_succ]
    first
      | (refine take_drop (i := 5) (v := ?_) rfl (by kernel_rfl) (by kernel_rfl) (by kernel_rfl) (fun _ _ _ h => h) (Or.inl ⟨by rfl, ?_⟩) (by assumption) ?_; rotate_left 1; (focus (intro w hSw; (try dsimp only at hSw); go_simp; try with_reducible rfl)))
      | (refine take_drop (i := 5) (v := undef) rfl (by kernel_rfl) (by kernel_rfl) (by kernel_rfl) (fun _ _ _ h => h) (Or.inr ⟨by rfl, rfl⟩) (by assumption) ?_)
    try simp only [Act.put, List.setIfInBounds_toArray, List.set_cons_zero, List.set_cons_succ]
    first
      | (refine take_drop (i := 6) (v := ?_) rfl (by kernel_rfl) (by kernel_rfl) (by kernel_rfl) (fun _ _ _ h => h) (Or.inl ⟨by rfl, ?_⟩) (by assumption) ?_; rotate_left 1; (focus (intro w hSw; (try dsimp only at hSw); go_simp; try with_reducible rfl)))
      | (refine take_drop (i := 6) (v := undef) rfl (by kernel_rfl) (by kernel_rfl) (by kernel_rfl) (fun _ _ _ h => h) (Or.inr ⟨by rfl, rfl⟩) (by assumption) ?_)
    try simp only [Act.put, List.setIfInBounds_toArray, List.set_cons_zero, List.set_cons_succ]
    first
      | (refine take_drop (i := 7) (v := ?_) rfl (by kernel_rfl) (by kernel_rfl) (by kernel_rfl) (fun _ _ _ h => h) (Or.inl ⟨by rfl, ?_⟩) (by assumption) ?_; rotate_left 1; (focus (intro w hSw; (try dsimp only at hSw); go_simp; try with_reducible rfl)))
      | (refine take_drop (i := 7) (v := undef) rfl (by kernel_rfl) (by kernel_rfl) (by kernel_rfl) (fun _ _ _ h => h) (Or.inr ⟨by rfl, rfl⟩) (by assumption) ?_)
    try simp only [Act.put, List.setIfInBounds_toArray, List.set_cons_zero, List.set_cons_succ]
    first
      | (refine take_drop (i := 8) (v := ?_) rfl (by kernel_rfl) (by kernel_rfl) (by kernel_rfl) (fun _ _ _ h => h) (Or.inl ⟨by rfl, ?_⟩) (by assumption) ?_; rotate_left 1; (focus (intro w hSw; (try dsimp only at hSw); go_simp; try with_reducible rfl)))
      | (refine take_drop (i := 8) (v := undef) rfl (by kernel_rfl) (by kernel_rfl) (by kernel_rfl) (fun _ _ _ h => h) (Or.inr ⟨by rfl, rfl⟩) (by assumption) ?_)
    try simp only [Act.put, List.setIfInBounds_toArray, List.set_cons_zero, List.set_cons_succ]
    first
      | (refine take_drop (i := 9) (v := ?_) rfl (by kernel_rfl) (by kernel_rfl) (by kernel_rfl) (fun _ _ _ h => h) (Or.inl ⟨by rfl, ?_⟩) (by assumption) ?_; rotate_left 1; (focus (intro w hSw; (try dsimp only at hSw); go_simp; try with_reducible rfl)))
      | (refine take_drop (i := 9) (v := undef) rfl (by kernel_rfl) (by kernel_rfl) (by kernel_rfl) (fun _ _ _ h => h) (Or.inr ⟨by rfl, rfl⟩) (by assumption) ?_)
    try simp only [Act.put, List.setIfInBounds_toArray, List.set_cons_zero, List.set_cons_succ]
    first
      | (refine take_drop (i := 10) (v := ?_) rfl (by kernel_rfl) (by kernel_rfl) (by kernel_rfl) (fun _ _ _ h => h) (Or.inl ⟨by rfl, ?_⟩) (by assumption) ?_; rotate_left 1; (focus (intro w hSw; (try dsimp only at hSw); go_simp; try with_reducible rfl)))
      | (refine take_drop (i := 10) (v := undef) rfl (by kernel_rfl) (by kernel_rfl) (by kernel_rfl) (fun _ _ _ h => h) (Or.inr ⟨by rfl, rfl⟩) (by assumption) ?_)
    try simp only [Act.put, List.setIfInBounds_toArray, List.set_cons_zero, List.set_cons_succ]
    first
      | (refine take_drop (i := 11) (v := ?_) rfl (by kernel_rfl) (by kernel_rfl) (by kernel_rfl) (fun _ _ _ h => h) (Or.inl ⟨by rfl, ?_⟩) (by assumption) ?_; rotate_left 1; (focus (intro w hSw; (try dsimp only at hSw); go_simp; try with_reducible rfl)))
      | (refine take_drop (i := 11) (v := undef) rfl (by kernel_rfl) (by kernel_rfl) (by kernel_rfl) (fun _ _ _ h => h) (Or.inr ⟨by rfl, rfl⟩) (by assumption) ?_)
    try simp only [Act.put, List.setIfInBounds_toArray, List.set_cons_zero, List.set_cons_succ]
    first
      | (refine take_drop (i := 12) (v := ?_) rfl (by kernel_rfl) (by kernel_rfl) (by kernel_rfl) (fun _ _ _ h => h) (Or.inl ⟨by rfl, ?_⟩) (by assumption) ?_; rotate_left 1; (focus (intro w hSw; (try dsimp only at hSw); go_simp; try with_reducible rfl)))
      | (refine take_drop (i := 12) (v := undef) rfl (by kernel_rfl) (by kernel_rfl) (by kernel_rfl) (fun _ _ _ h => h) (Or.inr ⟨by rfl, rfl⟩) (by assumption) ?_)
    try simp only [Act.put, List.setIfInBounds_toArray, List.set_cons_zero, List.set_cons_succ]
    first
      | (refine take_drop (i := 13) (v := ?_) rfl (by kernel_rfl) (by kernel_rfl) (by kernel_rfl) (fun _ _ _ h => h) (Or.inl ⟨by rfl, ?_⟩) (by assumption) ?_; rotate_left 1; (focus (intro w hSw; (try dsimp only at hSw); go_simp; try with_reducible rfl)))
      | (refine take_drop (i := 13) (v := undef) rfl (by kernel_rfl) (by kernel_rfl) (by kernel_rfl) (fun _ _ _ h => h) (Or.inr ⟨by rfl, rfl⟩) (by assumption) ?_)
    try simp only [Act.put, List.setIfInBounds_toArray, List.set_cons_zero, List.set_cons_succ]
    first
      | (refine take_drop (i := 14) (v := ?_) rfl (by kernel_rfl) (by kernel_rfl) (by kernel_rfl) (fun _ _ _ h => h) (Or.inl ⟨by rfl, ?_⟩) (by assumption) ?_; rotate_left 1; (focus (intro w hSw; (try dsimp only at hSw); go_simp; try with_reducible rfl)))
      | (refine take_drop (i := 14) (v := undef) rfl (by kernel_rfl) (by kernel_rfl) (by kernel_rfl) (fun _ _ _ h => h) (Or.inr ⟨by rfl, rfl⟩) (by assumption) ?_)
    try simp only [Act.put, List.setIfInBounds_toArray, List.set_cons_zero, List.set_cons_succ]
    first
      | (refine take_drop (i := 15) (v := ?_) rfl (by kernel_rfl) (by kernel_rfl) (by kernel_rfl) (fun _ _ _ h => h) (Or.inl ⟨by rfl, ?_⟩) (by assumption) ?_; rotate_left 1; (focus (intro w hSw; (try dsimp only at hSw); go_simp; try with_reducible rfl)))
      | (refine take_drop (i := 15) (v := undef) rfl (by kernel_rfl) (by kernel_rfl) (by kernel_rfl) (fun _ _ _ h => h) (Or.inr ⟨by rfl, rfl⟩) (by assumption) ?_)
    try simp only [Act.put, List.setIfInBounds_toArray, List.set_cons_zero, List.set_cons_succ]
    first
      | (refine take_drop (i := 17) (v := ?_) rfl (by kernel_rfl) (by kernel_rfl) (by kernel_rfl) (fun _ _ _ h => h) (Or.inl ⟨by rfl, ?_⟩) (by assumption) ?_; rotate_left 1; (focus (intro w hSw; (try dsimp only at hSw); go_simp; try with_reducible rfl)))
      | (refine take_drop (i := 17) (v := undef) rfl (by kernel_rfl) (by kernel_rfl) (by kernel_rfl) (fun _ _ _ h => h) (Or.inr ⟨by rfl, rfl⟩) (by assumption) ?_)
    try simp only [Act.put, List.setIfInBounds_toArray, List.set_cons_zero, List.set_cons_succ]
    first
      | (refine take_drop (i := 18) (v := ?_) rfl (by kernel_rfl) (by kernel_rfl) (by kernel_rfl) (fun _ _ _ h => h) (Or.inl ⟨by rfl, ?_⟩) (by assumption) ?_; rotate_left 1; (focus (intro w hSw; (try dsimp only at hSw); go_simp; try with_reducible rfl)))
      | (refine take_drop (i := 18) (v := undef) rfl (by kernel_rfl) (by kernel_rfl) (by kernel_rfl) (fun _ _ _ h => h) (Or.inr ⟨by rfl, rfl⟩) (by assumption) ?_)
    try simp only [Act.put, List.setIfInBounds_toArray, List.set_cons_zero, List.set_cons_succ]
    first
      | (refine take_drop (i := 19) (v := ?_) rfl (by kernel_rfl) (by kernel_rfl) (by kernel_rfl) (fun _ _ _ h => h) (Or.inl ⟨by rfl, ?_⟩) (by assumption) ?_; rotate_left 1; (focus (intro w hSw; (try dsimp only at hSw); go_simp; try with_reducible rfl)))
      | (refine take_drop (i := 19) (v := undef) rfl (by kernel_rfl) (by kernel_rfl) (by kernel_rfl) (fun _ _ _ h => h) (Or.inr ⟨by rfl, rfl⟩) (by assumption) ?_)
    try simp only [Act.put, List.setIfInBounds_toArray, List.set_cons_zero, List.set_cons_succ]
    refine wpAnyH_ready (rs := [16]) (by kernel_rfl) (by simp) ?_
    refine cons_drop rfl (fun K hK => ?_) AllReadyH.nil
    go_simp
    refine hK.out _ _ (KS.out _ HB8.out) (fun hHeld4 => ?_)
    clear hK K hHeld3
    try simp only [Act.put, List.setIfInBounds_toArray, List.set_cons_zero, List.set_cons_succ]
    first
      | (refine take_drop (i := 20) (v := ?_) rfl (by kernel_rfl) (by kernel_rfl) (by kernel_rfl) (fun _ _ _ h => h) (Or.inl ⟨by rfl, ?_⟩) (by assumption) ?_; rotate_left 1; (focus (intro w hSw; (try dsimp only at hSw); go_simp; try with_reducible rfl)))
      | (refine take_drop (i := 20) (v := undef) rfl (by kernel_rfl) (by kernel_rfl) (by kernel_rfl) (fun _ _ _ h => h) (Or.inr ⟨by rfl, rfl⟩) (by assumption) ?_)
    try simp only [Act.put, List.setIfInBounds_toArray, List.set_cons_zero, List.set_cons_succ]
    first
      | (refine take_drop (i := 21) (v := ?_) rfl (by kernel_rfl) (by kernel_rfl) (by kernel_rfl) (fun _ _ _ h => h) (Or.inl ⟨by rfl, ?_⟩) (by assumption) ?_; rotate_left 1; (focus (intro w hSw; (try dsimp only at hSw); go_simp; try with_reducible rfl)))
      | (refine take_drop (i := 21) (v := undef) rfl (by kernel_rfl) (by kernel_rfl) (by kernel_rfl) (fun _ _ _ h => h) (Or.inr ⟨by rfl, rfl⟩) (by assumption) ?_)
    try simp only [Act.put, List.setIfInBounds_toArray, List.set_cons_zero, List.set_cons_succ]
    first
      | (refine take_drop (i := 22) (v := ?_) rfl (by kernel_rfl) (by kernel_rfl) (by kernel_rfl) (fun _ _ _ h => h) (Or.inl ⟨by rfl, ?_⟩) (by assumption) ?_; rotate_left 1; (focus (intro w hSw; (try dsimp only at hSw); go_simp; try with_reducible rfl)))
      | (refine take_drop (i := 22) (v := undef) rfl (by kernel_rfl) (by kernel_rfl) (by kernel_rfl) (fun _ _ _ h => h) (Or.inr ⟨by rfl, rfl⟩) (by assumption) ?_)
    try simp only [Act.put, List.setIfInBounds_toArray, List.set_cons_zero, List.set_cons_succ]
    refine wpAnyH_ready (rs := [23]) (by kernel_rfl) (by simp) ?_
    refine cons_drop rfl (fun K hK => ?_) AllReadyH.nil
    go_simp
    refine hK.out _ _ (KS.out _ HB8.out) (fun hHeld5 => ?_)
    clear hK K hHeld4
    try simp only [Act.put, List.setIfInBounds_toArray, List.set_cons_zero, List.set_cons_succ]
    first
      | (refine take_drop (i := 24) (v := ?_) rfl (by kernel_rfl) (by kernel_rfl) (by kernel_rfl) (fun _ _ _ h => h) (Or.inl ⟨by rfl, ?_⟩) (by assumption) ?_; rotate_left 1; (focus (intro w hSw; (try dsimp only at hSw); go_simp; try with_reducible rfl)))
      | (refine take_drop (i := 24) (v := undef) rfl (by kernel_rfl) (by kernel_rfl) (by kernel_rfl) (fun _ _ _ h => h) (Or.inr ⟨by rfl, rfl⟩) (by assumption) ?_)
    try simp only [Act.put, List.setIfInBounds_toArray, List.set_cons_zero, List.set_cons_succ]
    first
      | (refine take_drop (i := 25) (v := ?_) rfl (by kernel_rfl) (by kernel_rfl) (by kernel_rfl) (fun _ _ _ h => h) (Or.inl ⟨by rfl, ?_⟩) (by assumption) ?_; rotate_left 1; (focus (intro w hSw; (try dsimp only at hSw); go_simp; try with_reducible rfl)))
      | (refine take_drop (i := 25) (v := undef) rfl (by kernel_rfl) (by kernel_rfl) (by kernel_rfl) (fun _ _ _ h => h) (Or.inr ⟨by rfl, rfl⟩) (by assumption) ?_)
    try simp only [Act.put, List.setIfInBounds_toArray, List.set_cons_zero, List.set_cons_succ]
    first
      | (refine take_drop (i := 26) (v := ?_) rfl (by kernel_rfl) (by kernel_rfl) (by kernel_rfl) (fun _ _ _ h => h) (Or.inl ⟨by rfl, ?_⟩) (by assumption) ?_; rotate_left 1; (focus (intro w hSw; (try dsimp only at hSw); go_simp; try with_reducible rfl)))
      | (refine take_drop (i := 26) (v := undef) rfl (by kernel_rfl) (by kernel_rfl) (by kernel_rfl) (fun _ _ _ h => h) (Or.inr ⟨by rfl, rfl⟩) (by assumption) ?_)
    try simp only [Act.put, List.setIfInBounds_toArray, List.set_cons_zero, List.set_cons_succ]
    first
      | (refine take_drop (i := 27) (v := ?_) rfl (by kernel_rfl) (by kernel_rfl) (by kernel_rfl) (fun _ _ _ h => h) (Or.inl ⟨by rfl, ?_⟩) (by assumption) ?_; rotate_left 1; (focus (intro w hSw; (try dsimp only at hSw); go_simp; try with_reducible rfl)))
      | (refine take_drop (i := 27) (v := undef) rfl (by kernel_rfl) (by kernel_rfl) (by kernel_rfl) (fun _ _ _ h => h) (Or.inr ⟨by rfl, rfl⟩) (by assumption) ?_)
    try simp only [Act.put, List.setIfInBounds_toArray, List.set_cons_zero, List.set_cons_succ]
    refine wpAnyH_done (by kernel_rfl) ?_ _
    refine NoPanic.normal ?_
    go_wp2_with fail
    go_ret
    exact ⟨rfl, HBW5.out.trans (HB8.out.mono HBW5.out.size)⟩
  | some p =>
    rw [hp] at her
    obtain ⟨⟨s1, bad1⟩, e0⟩ := p
    obtain ⟨xe, rfl, ⟨hf1, vk1, vn1, vf1, vs1, A1, m1, c1, rfl, hrep1⟩, hr2, ho2⟩ := her
    obtain ⟨-, hb1x, -, hgood⟩ := pe_form (l, false) (s1, bad1) e0 HBY.out (by show l.length ≤ _; omega) hp
    obtain rfl : bad1 = false := hb1x
    obtain ⟨k, id, n, at', nm, tx, vt⟩ := e0
    unfold evCells at *
    simp only at *
    have hz2 := ho2.size
    obtain ⟨W3, hW3⟩ : ∃ W3, W3 = w2.alloc (.cells #[.int .i64 k, .int .u64 (id : Nat), .int .i64 n, .int .u64 (at' : Nat), .string nm, .string tx, .int .i64 vk1, .int .i64 vn1, .float .f64 vf1, .string vs1, .slice A1 m1 c1] 32) := ⟨_, rfl⟩
    obtain ⟨b4, hb4⟩ : ∃ b4, b4 = w2.heap.size := ⟨_, rfl⟩
    have hb3 : Below w2.heap.size w2 W3 := by rw [hW3]; exact (Below.refl _ _).alloc (Nat.le_refl _) _
    have hE4 : EBox W3 b4 #[.int .i64 k, .int .u64 (id : Nat), .int .i64 n, .int .u64 (at' : Nat), .string nm, .string tx, .int .i64 vk1, .int .i64 vn1, .float .f64 vf1, .string vs1, .slice A1 m1 c1] := by rw [hW3, hb4]; exact heap_alloc_new _ _
    have hz3 : W3.heap.size = b4 + 1 := by rw [hW3, hb4]; simp
    have hbw3 : Below w.heap.size w W3 := (HB1.out.trans (ho2.below HG.out (fun r hr => by cases hr) (by omega))).trans (hb3.mono (by omega))
    have hr3 := hr2.later hb3
    have HR := Lib.hid (reread_any (l, false) (.agg #[.slice A l.length cap, .bool false]) W3 w.heap.size hbw3.size ⟨⟨_, rfl, HV.out.later hbw3, fun q hq => brd_block HV.out q hq⟩, HBY.out, by show l.length ≤ _; omega⟩)
    have HREP1 := Lib.hid ((hrep1.later (w' := W3) hb3).more (Nat.le_refl _) hb3.size)
    have HF1 := Lib.hid hf1
    have HGV := Lib.hid hgood.1
    have HE4 := Lib.hid hE4; have HR3 := Lib.hid hr3; have HBW3 := Lib.hid hbw3; have HP := Lib.hid hp
    clear hr2 ho2 hb3 hE4 hbw3 hr3 hp hrep1 hf1 hgood
    replace hW3 := Lib.hid hW3
    have HB4 := Lib.hid hb4
    clear hb4
    go_upto_region 5 with fail
    rw [← hW3.out, ← HB4.out]
    go_wp2_with fail
    refine HR.out.mono ?_
    intro e w4 hre
    obtain ⟨okb, y, x2, ⟨l5, bad5⟩, e2, rfl, ⟨⟨v5, rfl, hv5, hf5⟩, hb5, hl5⟩, hbl4, hyes, hno⟩ := hre
    simp only at hv5 hf5 hb5 hl5
    rw [HP.out] at hyes hno
    obtain rfl : okb = true := by
      cases okb with
      | true => rfl
      | false => exact absurd (hno rfl).1 (by simp)
    obtain ⟨heq, hf2, vk2, vn2, vf2, vs2, A2, m2, c2, rfl, hrep2⟩ := hyes rfl
    injection heq with heq
    injection heq with heq1 heq2
    injection heq1 with heq3 heq4
    subst heq2 heq3 heq4
    unfold evCells at *
    simp only at *
    obtain ⟨A5, cap5, hv5f⟩ := hv5.form
    subst hv5f
    obtain ⟨b6, hb6⟩ : ∃ b6, b6 = w4.heap.size := ⟨_, rfl⟩
    obtain ⟨W5, hW5⟩ : ∃ W5, W5 = (w4.alloc (.cells #[.slice A5 s1.length cap5, .bool false] 36)).alloc (.cells #[.int .i64 k, .int .u64 (id : Nat), .int .i64 n, .int .u64 (at' : Nat), .string nm, .string tx, .int .i64 vk2, .int .i64 vn2, .float .f64 vf2, .string vs2, .slice A2 m2 c2] 32) := ⟨_, rfl⟩
    have hb45 : Below w4.heap.size w4 W5 := by rw [hW5]; exact ((Below.refl _ _).alloc (Nat.le_refl _) _).alloc (by simp) _
    have hz5 : W5.heap.size = b6 + 2 := by rw [hW5, hb6]; simp
    have hq6 : QB W5 b6 (.slice A5 s1.length cap5) false := by rw [hW5, hb6]; exact (heap_alloc_old _ _ (by simp)).trans (heap_alloc_new _ _)
    have hE7 : EBox W5 (b6 + 1) #[.int .i64 k, .int .u64 (id : Nat), .int .i64 n, .int .u64 (at' : Nat), .string nm, .string tx, .int .i64 vk2, .int .i64 vn2, .float .f64 vf2, .string vs2, .slice A2 m2 c2] := by
      rw [hW5, hb6]
      have e := heap_alloc_new (w4.alloc (.cells #[.slice A5 s1.length cap5, .bool false] 36)) (.cells #[.int .i64 k, .int .u64 (id : Nat), .int .i64 n, .int .u64 (at' : Nat), .string nm, .string tx, .int .i64 vk2, .int .i64 vn2, .float .f64 vf2, .string vs2, .slice A2 m2 c2] 32)
      rw [World.size_alloc] at e
      exact e
    have hb35 : Below W3.heap.size W3 W5 := hbl4.trans (hb45.mono hbl4.size)
    have hE4 := HE4.out.later hb35 HE4.out.lt
    have KS : Hid (∀ W' : World, Below W5.heap.size W5 W' → (W'.cell? ⟨b4, 0, none⟩ = some (.int .i64 k) ∧ W'.cell? ⟨b4, 1, none⟩ = some (.int .u64 (id : Nat)) ∧ W'.cell? ⟨b4, 2, none⟩ = some (.int .i64 n) ∧ W'.cell? ⟨b4, 3, none⟩ = some (.int .u64 (at' : Nat)) ∧ W'.cell? ⟨b4, 4, none⟩ = some (.string nm) ∧ W'.cell? ⟨b4, 5, none⟩ = some (.string tx) ∧ W'.cell? ⟨b4, 6, none⟩ = some (.int .i64 vk1) ∧ W'.cell? ⟨b4, 7, none⟩ = some (.int .i64 vn1) ∧ W'.cell? ⟨b4, 8, none⟩ = some (.float .f64 vf1) ∧ W'.cell? ⟨b4, 9, none⟩ = some (.string vs1) ∧ W'.cell? ⟨b4, 10, none⟩ = some (.slice A1 m1 c1) ∧ W'.cell? ⟨b6 + 1, 0, none⟩ = some (.int .i64 k) ∧ W'.cell? ⟨b6 + 1, 1, none⟩ = some (.int .u64 (id : Nat)) ∧ W'.cell? ⟨b6 + 1, 2, none⟩ = some (.int .i64 n) ∧ W'.cell? ⟨b6 + 1, 3, none⟩ = some (.int .u64 (at' : Nat)) ∧ W'.cell? ⟨b6 + 1, 4, none⟩ = some (.string nm) ∧ W'.cell? ⟨b6 + 1, 5, none⟩ = some (.string tx) ∧ W'.cell? ⟨b6 + 1, 6, none⟩ = some (.int .i64 vk2) ∧ W'.cell? ⟨b6 + 1, 7, none⟩ = some (.int .i64 vn2) ∧ W'.cell? ⟨b6 + 1, 8, none⟩ = some (.float .f64 vf2) ∧ W'.cell? ⟨b6 + 1, 9, none⟩ = some (.string vs2) ∧ W'.cell? ⟨b6 + 1, 10, none⟩ = some (.slice A2 m2 c2) ∧ W'.cell? ⟨b6, 0, none⟩ = some (.slice A5 s1.length cap5))) := Lib.hid fun W' hW => by
      obtain ⟨p0, p1, p2, p3, p4, p5, p6, p7, p8, p9, p10⟩ := (hE4.later hW hE4.lt).cells
      obtain ⟨q0, q1, q2, q3, q4, q5, q6, q7, q8, q9, q10⟩ := (hE7.later hW hE7.lt).cells
      exact ⟨p0, p1, p2, p3, p4, p5, p6, p7, p8, p9, p10, q0, q1, q2, q3, q4, q5, q6, q7, q8, q9, q10, (hq6.later hW hq6.lt).cells.1⟩
    have HBW5 := Lib.hid (HBW3.out.trans (hb35.mono HBW3.out.size))
    have HSM : Hid (∀ W' : World, Below W5.heap.size W5 W' → Calls Tryz.prog 10 #[.agg #[.int .i64 k, .int .u64 (id : Nat), .int .i64 n, .int .u64 (at' : Nat), .string nm, .string tx, .int .i64 vk1, .int .i64 vn1, .float .f64 vf1, .string vs1, .slice A1 m1 c1], .agg #[.int .i64 k, .int .u64 (id : Nat), .int .i64 n, .int .u64 (at' : Nat), .string nm, .string tx, .int .i64 vk2, .int .i64 vn2, .float .f64 vf2, .string vs2, .slice A2 m2 c2]] W' fun r w' => r = .returned (.bool true) ∧ Below W'.heap.size W' w') := Lib.hid fun W' hW => by
      have h1 : ERep W' w1.heap.size W3.heap.size ⟨k, id, n, at', nm, tx, vt⟩ (.agg #[.int .i64 k, .int .u64 (id : Nat), .int .i64 n, .int .u64 (at' : Nat), .string nm, .string tx, .int .i64 vk1, .int .i64 vn1, .float .f64 vf1, .string vs1, .slice A1 m1 c1]) := ⟨HF1.out, vk1, vn1, vf1, vs1, A1, m1, c1, rfl, (HREP1.out.later hb35).later (hW.mono hb35.size)⟩
      have h2 : ERep W' W3.heap.size w4.heap.size ⟨k, id, n, at', nm, tx, vt⟩ (.agg #[.int .i64 k, .int .u64 (id : Nat), .int .i64 n, .int .u64 (at' : Nat), .string nm, .string tx, .int .i64 vk2, .int .i64 vn2, .float .f64 vf2, .string vs2, .slice A2 m2 c2]) := ⟨hf2, vk2, vn2, vf2, vs2, A2, m2, c2, rfl, (hrep2.later hb45).later (hW.mono hb45.size)⟩
      have := Cm.rsev_any ⟨k, id, n, at', nm, tx, vt⟩ ⟨k, id, n, at', nm, tx, vt⟩ W' _ _ _ _ _ _ h1 (Nat.le_trans hb35.size hW.size) h2 (Nat.le_trans hb45.size hW.size)
      rw [Cm.evSame_refl] at this
      exact this
    have HVL : Hid (∀ W' : World, Below W5.heap.size W5 W' → Calls Tryz.prog 12 #[.agg #[.int .i64 k, .int .u64 (id : Nat), .int .i64 n, .int .u64 (at' : Nat), .string nm, .string tx, .int .i64 vk1, .int .i64 vn1, .float .f64 vf1, .string vs1, .slice A1 m1 c1]] W' fun r w' => r = .returned (.bool true) ∧ Below W'.heap.size W' w') := Lib.hid fun W' hW => by
      have := Ev.evalid_any ⟨k, id, n, at', nm, tx, vt⟩ W' w1.heap.size W3.heap.size (.agg #[.int .i64 k, .int .u64 (id : Nat), .int .i64 n, .int .u64 (at' : Nat), .string nm, .string tx, .int .i64 vk1, .int .i64 vn1, .float .f64 vf1, .string vs1, .slice A1 m1 c1]) ⟨HF1.out, vk1, vn1, vf1, vs1, A1, m1, c1, rfl, (HREP1.out.later hb35).later (hW.mono hb35.size)⟩ (Nat.le_trans hb35.size hW.size)
      rw [HGV.out] at this
      exact this
    have HLF : Hid (∀ W' : World, Below W5.heap.size W5 W' → Calls Tryz.prog 11 #[.pointer (some ⟨g, 0, none⟩)] W' fun r w' => r = .returned (.int .i64 s1.length) ∧ W' = w') := Lib.hid fun W' hW => by
      obtain ⟨⟨vv, hvv⟩, -⟩ := (HR3.out.later hb35).later hW
      exact left_any g vv s1 false W' hvv
    clear hE4 hE7 hq6 hb35 hb45 hbl4 hyes hno hv5 hf5 hb5 hl5 hf2 hrep2
    replace hW5 := Lib.hid hW5
    have HB6 := Lib.hid hb6
    clear hb6
    go_upto_region 6 with fail
    rw [← hW5.out, ← HB6.out]
    refine wp_region_noPanic ?_
    refine wp_region_held_drew (S := (fun W' : World => W'.cell? ⟨b4, 0, none⟩ = some (.int .i64 k) ∧ W'.cell? ⟨b4, 1, none⟩ = some (.int .u64 (id : Nat)) ∧ W'.cell? ⟨b4, 2, none⟩ = some (.int .i64 n) ∧ W'.cell? ⟨b4, 3, none⟩ = some (.int .u64 (at' : Nat)) ∧ W'.cell? ⟨b4, 4, none⟩ = some (.string nm) ∧ W'.cell? ⟨b4, 5, none⟩ = some (.string tx) ∧ W'.cell? ⟨b4, 6, none⟩ = some (.int .i64 vk1) ∧ W'.cell? ⟨b4, 7, none⟩ = some (.int .i64 vn1) ∧ W'.cell? ⟨b4, 8, none⟩ = some (.float .f64 vf1) ∧ W'.cell? ⟨b4, 9, none⟩ = some (.string vs1) ∧ W'.cell? ⟨b4, 10, none⟩ = some (.slice A1 m1 c1) ∧ W'.cell? ⟨b6 + 1, 0, none⟩ = some (.int .i64 k) ∧ W'.cell? ⟨b6 + 1, 1, none⟩ = some (.int .u64 (id : Nat)) ∧ W'.cell? ⟨b6 + 1, 2, none⟩ = some (.int .i64 n) ∧ W'.cell? ⟨b6 + 1, 3, none⟩ = some (.int .u64 (at' : Nat)) ∧ W'.cell? ⟨b6 + 1, 4, none⟩ = some (.string nm) ∧ W'.cell? ⟨b6 + 1, 5, none⟩ = some (.string tx) ∧ W'.cell? ⟨b6 + 1, 6, none⟩ = some (.int .i64 vk2) ∧ W'.cell? ⟨b6 + 1, 7, none⟩ = some (.int .i64 vn2) ∧ W'.cell? ⟨b6 + 1, 8, none⟩ = some (.float .f64 vf2) ∧ W'.cell? ⟨b6 + 1, 9, none⟩ = some (.string vs2) ∧ W'.cell? ⟨b6 + 1, 10, none⟩ = some (.slice A2 m2 c2) ∧ W'.cell? ⟨b6, 0, none⟩ = some (.slice A5 s1.length cap5))) (by kernel_rfl) ?_ (fun hHeld => ?_)
    · exact KS.out _ (below_drew (Below.refl _ _))
    refine wpAnyH_ready (rs := [0]) (by kernel_rfl) (by simp) ?_
    refine cons_drop rfl (fun K hK => ?_) AllReadyH.nil
    go_simp
    refine (HA.out _).mono ?_
    rintro x6 w6 ⟨rfl, hb6⟩
    have HB7 : Hid (Below W5.heap.size W5 w6) := Lib.hid ((below_drew (Below.refl _ _)).trans hb6)
    clear hb6
    go_wp2_with fail
    refine hK.out _ _ (KS.out _ HB7.out) (fun hHeld2 => ?_)
    clear hK K hHeld
    try simp only [Act.put, List.setIfInBounds_toArray, List.set_cons_zero, List.set_cons_succ]
    first
      | (refine take_drop (i := 1) (v := ?_) rfl (by kernel_rfl) (by kernel_rfl) (by kernel_rfl) (fun _ _ _ h => h) (Or.inl ⟨by rfl, ?_⟩) (by assumption) ?_; rotate_left 1; (focus (intro w hSw; (try dsimp only at hSw); go_simp; try with_reducible rfl)))
      | (refine take_drop (i := 1) (v := undef) rfl (by kernel_rfl) (by kernel_rfl) (by kernel_rfl) (fun _ _ _ h => h) (Or.inr ⟨by rfl, rfl⟩) (by assumption) ?_)
    try simp only [Act.put, List.setIfInBounds_toArray, List.set_cons_zero, List.set_cons_succ]
    first
      | (refine take_drop (i := 2) (v := ?_) rfl (by kernel_rfl) (by kernel_rfl) (by kernel_rfl) (fun _ _ _ h => h) (Or.inl ⟨by rfl, ?_⟩) (by assumption) ?_; rotate_left 1; (focus (intro w hSw; (try dsimp only at hSw); go_simp; try with_reducible rfl)))
      | (refine take_drop (i := 2) (v := undef) rfl (by kernel_rfl) (by kernel_rfl) (by kernel_rfl) (fun _ _ _ h => h) (Or.inr ⟨by rfl, rfl⟩) (by assumption) ?_)
    try simp only [Act.put, List.setIfInBounds_toArray, List.set_cons_zero, List.set_cons_succ]
    first
      | (refine take_drop (i := 3) (v := ?_) rfl (by kernel_rfl) (by kernel_rfl) (by kernel_rfl) (fun _ _ _ h => h) (Or.inl ⟨by rfl, ?_⟩) (by assumption) ?_; rotate_left 1; (focus (intro w hSw; (try dsimp only at hSw); go_simp; try with_reducible rfl)))
      | (refine take_drop (i := 3) (v := undef) rfl (by kernel_rfl) (by kernel_rfl) (by kernel_rfl) (fun _ _ _ h => h) (Or.inr ⟨by rfl, rfl⟩) (by assumption) ?_)
    try simp only [Act.put, List.setIfInBounds_toArray, List.set_cons_zero, List.set_cons_succ]
    refine wpAnyH_ready (rs := [4]) (by kernel_rfl) (by simp) ?_
    refine cons_drop rfl (fun K hK => ?_) AllReadyH.nil
    go_simp
    refine (HSM.out _ HB7.out).mono ?_
    rintro x7 w7 ⟨rfl, hb7⟩
    have HB8 : Hid (Below W5.heap.size W5 w7) := Lib.hid (HB7.out.trans (hb7.mono HB7.out.size))
    clear hb7
    go_wp2_with fail
    refine hK.out _ _ (KS.out _ HB8.out) (fun hHeld3 => ?_)
    clear hK K hHeld2
    try simp only [Act.put, List.setIfInBounds_toArray, List.set_cons_zero, List.set_cons_succ]
    first
      | (refine take_drop (i := 5) (v := ?_) rfl (by kernel_rfl) (by kernel_rfl) (by kernel_rfl) (fun _ _ _ h => h) (Or.inl ⟨by rfl, ?_⟩) (by assumption) ?_; rotate_left 1; (focus (intro w hSw; (try dsimp only at hSw); go_simp; try with_reducible rfl)))
      | (refine take_drop (i := 5) (v := undef) rfl (by kernel_rfl) (by kernel_rfl) (by kernel_rfl) (fun _ _ _ h => h) (Or.inr ⟨by rfl, rfl⟩) (by assumption) ?_)
    try simp only [Act.put, List.setIfInBounds_toArray, List.set_cons_zero, List.set_cons_succ]
    first
      | (refine take_drop (i := 6) (v := ?_) rfl (by kernel_rfl) (by kernel_rfl) (by kernel_rfl) (fun _ _ _ h => h) (Or.inl ⟨by rfl, ?_⟩) (by assumption) ?_; rotate_left 1; (focus (intro w hSw; (try dsimp only at hSw); go_simp; try with_reducible rfl)))
      | (refine take_drop (i := 6) (v := undef) rfl (by kernel_rfl) (by kernel_rfl) (by kernel_rfl) (fun _ _ _ h => h) (Or.inr ⟨by rfl, rfl⟩) (by assumption) ?_)
    try simp only [Act.put, List.setIfInBounds_toArray, List.set_cons_zero, List.set_cons_succ]
    first
      | (refine take_drop (i := 7) (v := ?_) rfl (by kernel_rfl) (by kernel_rfl) (by kernel_rfl) (fun _ _ _ h => h) (Or.inl ⟨by rfl, ?_⟩) (by assumption) ?_; rotate_left 1; (focus (intro w hSw; (try dsimp only at hSw); go_simp; try with_reducible rfl)))
      | (refine take_drop (i := 7) (v := undef) rfl (by kernel_rfl) (by kernel_rfl) (by kernel_rfl) (fun _ _ _ h => h) (Or.inr ⟨by rfl, rfl⟩) (by assumption) ?_)
    try simp only [Act.put, List.setIfInBounds_toArray, List.set_cons_zero, List.set_cons_succ]
    first
      | (refine take_drop (i := 8) (v := ?_) rfl (by kernel_rfl) (by kernel_rfl) (by kernel_rfl) (fun _ _ _ h => h) (Or.inl ⟨by rfl, ?_⟩) (by assumption) ?_; rotate_left 1; (focus (intro w hSw; (try dsimp only at hSw); go_simp; try with_reducible rfl)))
      | (refine take_drop (i := 8) (v := undef) rfl (by kernel_rfl) (by kernel_rfl) (by kernel_rfl) (fun _ _ _ h => h) (Or.inr ⟨by rfl, rfl⟩) (by assumption) ?_)
    try simp only [Act.put, List.setIfInBounds_toArray, List.set_cons_zero, List.set_cons_succ]
    first
      | (refine take_drop (i := 9) (v := ?_) rfl (by kernel_rfl) (by kernel_rfl) (by kernel_rfl) (fun _ _ _ h => h) (Or.inl ⟨by rfl, ?_⟩) (by assumption) ?_; rotate_left 1; (focus (intro w hSw; (try dsimp only at hSw); go_simp; try with_reducible rfl)))
      | (refine take_drop (i := 9) (v := undef) rfl (by kernel_rfl) (by kernel_rfl) (by kernel_rfl) (fun _ _ _ h => h) (Or.inr ⟨by rfl, rfl⟩) (by assumption) ?_)
    try simp only [Act.put, List.setIfInBounds_toArray, List.set_cons_zero, List.set_cons_succ]
    first
      | (refine take_drop (i := 10) (v := ?_) rfl (by kernel_rfl) (by kernel_rfl) (by kernel_rfl) (fun _ _ _ h => h) (Or.inl ⟨by rfl, ?_⟩) (by assumption) ?_; rotate_left 1; (focus (intro w hSw; (try dsimp only at hSw); go_simp; try with_reducible rfl)))
      | (refine take_drop (i := 10) (v := undef) rfl (by kernel_rfl) (by kernel_rfl) (by kernel_rfl) (fun _ _ _ h => h) (Or.inr ⟨by rfl, rfl⟩) (by assumption) ?_)
    try simp only [Act.put, List.setIfInBounds_toArray, List.set_cons_zero, List.set_cons_succ]
    first
      | (refine take_drop (i := 11) (v := ?_) rfl (by kernel_rfl) (by kernel_rfl) (by kernel_rfl) (fun _ _ _ h => h) (Or.inl ⟨by rfl, ?_⟩) (by assumption) ?_; rotate_left 1; (focus (intro w hSw; (try dsimp only at hSw); go_simp; try with_reducible rfl)))
      | (refine take_drop (i := 11) (v := undef) rfl (by kernel_rfl) (by kernel_rfl) (by kernel_rfl) (fun _ _ _ h => h) (Or.inr ⟨by rfl, rfl⟩) (by assumption) ?_)
    try simp only [Act.put, List.setIfInBounds_toArray, List.set_cons_zero, List.set_cons_succ]
    first
      | (refine take_drop (i := 12) (v := ?_) rfl (by kernel_rfl) (by kernel_rfl) (by kernel_rfl) (fun _ _ _ h => h) (Or.inl ⟨by rfl, ?_⟩) (by assumption) ?_; rotate_left 1; (focus (intro w hSw; (try dsimp only at hSw); go_simp; try with_reducible rfl)))
      | (refine take_drop (i := 12) (v := undef) rfl (by kernel_rfl) (by kernel_rfl) (by kernel_rfl) (fun _ _ _ h => h) (Or.inr ⟨by rfl, rfl⟩) (by assumption) ?_)
    try simp only [Act.put, List.setIfInBounds_toArray, List.set_cons_zero, List.set_cons_succ]
    first
      | (refine take_drop (i := 13) (v := ?_) rfl (by kernel_rfl) (by kernel_rfl) (by kernel_rfl) (fun _ _ _ h => h) (Or.inl ⟨by rfl, ?_⟩) (by assumption) ?_; rotate_left 1; (focus (intro w hSw; (try dsimp only at hSw); go_simp; try with_reducible rfl)))
      | (refine take_drop (i := 13) (v := undef) rfl (by kernel_rfl) (by kernel_rfl) (by kernel_rfl) (fun _ _ _ h => h) (Or.inr ⟨by rfl, rfl⟩) (by assumption) ?_)
    try simp only [Act.put, List.setIfInBounds_toArray, List.set_cons_zero, List.set_cons_succ]
    first
      | (refine take_drop (i := 14) (v := ?_) rfl (by kernel_rfl) (by kernel_rfl) (by kernel_rfl) (fun _ _ _ h => h) (Or.inl ⟨by rfl, ?_⟩) (by assumption) ?_; rotate_left 1; (focus (intro w hSw; (try dsimp only at hSw); go_simp; try with_reducible rfl)))
      | (refine take_drop (i := 14) (v := undef) rfl (by kernel_rfl) (by kernel_rfl) (by kernel_rfl) (fun _ _ _ h => h) (Or.inr ⟨by rfl, rfl⟩) (by assumption) ?_)
    try simp only [Act.put, List.setIfInBounds_toArray, List.set_cons_zero, List.set_cons_succ]
    first
      | (refine take_drop (i := 15) (v := ?_) rfl (by kernel_rfl) (by kernel_rfl) (by kernel_rfl) (fun _ _ _ h => h) (Or.inl ⟨by rfl, ?_⟩) (by assumption) ?_; rotate_left 1; (focus (intro w hSw; (try dsimp only at hSw); go_simp; try with_reducible rfl)))
      | (refine take_drop (i := 15) (v := undef) rfl (by kernel_rfl) (by kernel_rfl) (by kernel_rfl) (fun _ _ _ h => h) (Or.inr ⟨by rfl, rfl⟩) (by assumption) ?_)
    try simp only [Act.put, List.setIfInBounds_toArray, List.set_cons_zero, List.set_cons_succ]
    first
      | (refine take_drop (i := 17) (v := ?_) rfl (by kernel_rfl) (by kernel_rfl) (by kernel_rfl) (fun _ _ _ h => h) (Or.inl ⟨by rfl, ?_⟩) (by assumption) ?_; rotate_left 1; (focus (intro w hSw; (try dsimp only at hSw); go_simp; try with_reducible rfl)))
      | (refine take_drop (i := 17) (v := undef) rfl (by kernel_rfl) (by kernel_rfl) (by kernel_rfl) (fun _ _ _ h => h) (Or.inr ⟨by rfl, rfl⟩) (by assumption) ?_)
    try simp only [Act.put, List.setIfInBounds_toArray, List.set_cons_zero, List.set_cons_succ]
    first
      | (refine take_drop (i := 18) (v := ?_) rfl (by kernel_rfl) (by kernel_rfl) (by kernel_rfl) (fun _ _ _ h => h) (Or.inl ⟨by rfl, ?_⟩) (by assumption) ?_; rotate_left 1; (focus (intro w hSw; (try dsimp only at hSw); go_simp; try with_reducible rfl)))
      | (refine take_drop (i := 18) (v := undef) rfl (by kernel_rfl) (by kernel_rfl) (by kernel_rfl) (fun _ _ _ h => h) (Or.inr ⟨by rfl, rfl⟩) (by assumption) ?_)
    try simp only [Act.put, List.setIfInBounds_toArray, List.set_cons_zero, List.set_cons_succ]
    first
      | (refine take_drop (i := 19) (v := ?_) rfl (by kernel_rfl) (by kernel_rfl) (by kernel_rfl) (fun _ _ _ h => h) (Or.inl ⟨by rfl, ?_⟩) (by assumption) ?_; rotate_left 1; (focus (intro w hSw; (try dsimp only at hSw); go_simp; try with_reducible rfl)))
      | (refine take_drop (i := 19) (v := undef) rfl (by kernel_rfl) (by kernel_rfl) (by kernel_rfl) (fun _ _ _ h => h) (Or.inr ⟨by rfl, rfl⟩) (by assumption) ?_)
    try simp only [Act.put, List.setIfInBounds_toArray, List.set_cons_zero, List.set_cons_succ]
    refine wpAnyH_ready (rs := [16]) (by kernel_rfl) (by simp) ?_
    refine cons_drop rfl (fun K hK => ?_) AllReadyH.nil
    go_simp
    refine (HLF.out _ HB8.out).mono ?_
    rintro x8 w8 ⟨rfl, rfl⟩
    go_wp2_with fail
    refine hK.out _ _ (KS.out _ HB8.out) (fun hHeld4 => ?_)
    clear hK K hHeld3
    try simp only [Act.put, List.setIfInBounds_toArray, List.set_cons_zero, List.set_cons_succ]
    first
      | (refine take_drop (i := 20) (v := ?_) rfl (by kernel_rfl) (by kernel_rfl) (by kernel_rfl) (fun _ _ _ h => h) (Or.inl ⟨by rfl, ?_⟩) (by assumption) ?_; rotate_left 1; (focus (intro w hSw; (try dsimp only at hSw); go_simp; try with_reducible rfl)))
      | (refine take_drop (i := 20) (v := undef) rfl (by kernel_rfl) (by kernel_rfl) (by kernel_rfl) (fun _ _ _ h => h) (Or.inr ⟨by rfl, rfl⟩) (by assumption) ?_)
    try simp only [Act.put, List.setIfInBounds_toArray, List.set_cons_zero, List.set_cons_succ]
    first
      | (refine take_drop (i := 21) (v := ?_) rfl (by kernel_rfl) (by kernel_rfl) (by kernel_rfl) (fun _ _ _ h => h) (Or.inl ⟨by rfl, ?_⟩) (by assumption) ?_; rotate_left 1; (focus (intro w hSw; (try dsimp only at hSw); go_simp; try with_reducible rfl)))
      | (refine take_drop (i := 21) (v := undef) rfl (by kernel_rfl) (by kernel_rfl) (by kernel_rfl) (fun _ _ _ h => h) (Or.inr ⟨by rfl, rfl⟩) (by assumption) ?_)
    try simp only [Act.put, List.setIfInBounds_toArray, List.set_cons_zero, List.set_cons_succ]
    first
      | (refine take_drop (i := 22) (v := ?_) rfl (by kernel_rfl) (by kernel_rfl) (by kernel_rfl) (fun _ _ _ h => h) (Or.inl ⟨by rfl, ?_⟩) (by assumption) ?_; rotate_left 1; (focus (intro w hSw; (try dsimp only at hSw); go_simp; try with_reducible rfl)))
      | (refine take_drop (i := 22) (v := undef) rfl (by kernel_rfl) (by kernel_rfl) (by kernel_rfl) (fun _ _ _ h => h) (Or.inr ⟨by rfl, rfl⟩) (by assumption) ?_)
    try simp only [Act.put, List.setIfInBounds_toArray, List.set_cons_zero, List.set_cons_succ]
    refine wpAnyH_ready (rs := [23]) (by kernel_rfl) (by simp) ?_
    refine cons_drop rfl (fun K hK => ?_) AllReadyH.nil
    go_simp
    refine (HVL.out _ HB8.out).mono ?_
    rintro x9 w9 ⟨rfl, hb9⟩
    have HB9 : Hid (Below W5.heap.size W5 w9) := Lib.hid (HB8.out.trans (hb9.mono HB8.out.size))
    clear hb9
    go_wp2_with fail
    refine hK.out _ _ (KS.out _ HB9.out) (fun hHeld5 => ?_)
    clear hK K hHeld4
    try simp only [Act.put, List.setIfInBounds_toArray, List.set_cons_zero, List.set_cons_succ]
    first
      | (refine take_drop (i := 24) (v := ?_) rfl (by kernel_rfl) (by kernel_rfl) (by kernel_rfl) (fun _ _ _ h => h) (Or.inl ⟨by rfl, ?_⟩) (by assumption) ?_; rotate_left 1; (focus (intro w hSw; (try dsimp only at hSw); go_simp; try with_reducible rfl)))
      | (refine take_drop (i := 24) (v := undef) rfl (by kernel_rfl) (by kernel_rfl) (by kernel_rfl) (fun _ _ _ h => h) (Or.inr ⟨by rfl, rfl⟩) (by assumption) ?_)
    try simp only [Act.put, List.setIfInBounds_toArray, List.set_cons_zero, List.set_cons_succ]
    first
      | (refine take_drop (i := 25) (v := ?_) rfl (by kernel_rfl) (by kernel_rfl) (by kernel_rfl) (fun _ _ _ h => h) (Or.inl ⟨by rfl, ?_⟩) (by assumption) ?_; rotate_left 1; (focus (intro w hSw; (try dsimp only at hSw); go_simp; try with_reducible rfl)))
      | (refine take_drop (i := 25) (v := undef) rfl (by kernel_rfl) (by kernel_rfl) (by kernel_rfl) (fun _ _ _ h => h) (Or.inr ⟨by rfl, rfl⟩) (by assumption) ?_)
    try simp only [Act.put, List.setIfInBounds_toArray, List.set_cons_zero, List.set_cons_succ]
    first
      | (refine take_drop (i := 26) (v := ?_) rfl (by kernel_rfl) (by kernel_rfl) (by kernel_rfl) (fun _ _ _ h => h) (Or.inl ⟨by rfl, ?_⟩) (by assumption) ?_; rotate_left 1; (focus (intro w hSw; (try dsimp only at hSw); go_simp; try with_reducible rfl)))
      | (refine take_drop (i := 26) (v := undef) rfl (by kernel_rfl) (by kernel_rfl) (by kernel_rfl) (fun _ _ _ h => h) (Or.inr ⟨by rfl, rfl⟩) (by assumption) ?_)
    try simp only [Act.put, List.setIfInBounds_toArray, List.set_cons_zero, List.set_cons_succ]
    first
      | (refine take_drop (i := 27) (v := ?_) rfl (by kernel_rfl) (by kernel_rfl) (by kernel_rfl) (fun _ _ _ h => h) (Or.inl ⟨by rfl, ?_⟩) (by assumption) ?_; rotate_left 1; (focus (intro w hSw; (try dsimp only at hSw); go_simp; try with_reducible rfl)))
      | (refine take_drop (i := 27) (v := undef) rfl (by kernel_rfl) (by kernel_rfl) (by kernel_rfl) (fun _ _ _ h => h) (Or.inr ⟨by rfl, rfl⟩) (by assumption) ?_)
    try simp only [Act.put, List.setIfInBounds_toArray, List.set_cons_zero, List.set_cons_succ]
    refine wpAnyH_done (by kernel_rfl) ?_ _
    refine NoPanic.normal ?_
    go_wp2_with fail
    go_ret
    exact ⟨rfl, HBW5.out.trans (HB9.out.mono HBW5.out.size)⟩

set_option maxRecDepth 100000 in
open Go.ChangeShapes Go.WideShapes Go.ChangeAt Go.ChangeMaps in
theorem bytes_open {H : Type} {enc : TypeId × Value → H} {base b1 : Nat} {spare : Nat → Bool} {held : Bool} {d : DataW H} {p : List MemPlace} (v : Value) (W : World)
    (o : Value.okWide Tryz.prog W .any base 22 v) (k : DataW.Trod enc Tryz.prog W b1 spare held 22 v d p) :
    ∃ l A cap, v = .slice A l.length cap ∧ BRd W v l ∧ Byt l := by
  have hC : Tryz.prog.cellsOf 5 = 1 := by kernel_rfl
  have hu : Tryz.prog.underlying 22 = some (.slice 5) := Tryz.underlying22
  obtain ⟨a0, l0, cp0, rfl⟩ := okWide_slice Tryz.underlying22 o
  obtain ⟨fuel, hf⟩ := k
  have hcs : (Value.slice a0 l0 cp0).cells.toList = [.slice a0 l0 cp0] := rfl
  rw [hcs] at hf
  rcases DataW.trod_slice Tryz.underlying22 hf with ⟨e4, -⟩ | ⟨a, len, cap, elems, rest, n', hn', e4, -, hb, hl, hm, hel, he, -, -⟩
  · injection List.singleton_inj.1 e4 with q1 q2 q3
    subst q1 q2 q3
    exact ⟨[], none, 0, rfl, .inl ⟨rfl, rfl⟩, fun b hb => by simp at hb⟩
  · injection List.singleton_inj.1 e4 with q1 q2 q3
    subst q1 q2 q3
    have hsp : a.spot = none ∧ a.block < W.heap.size := by
      unfold Value.okWide at o
      rw [hu] at o
      simp only [Cell.okWide, Cell.ok, hu] at o
      obtain ⟨-, -, h2, h3, row, cells, h4, -⟩ := o
      refine ⟨h3, ?_⟩
      rcases Nat.lt_or_ge a.block W.heap.size with q | q
      · exact q
      · simp [World.shape?, Array.getElem?_eq_none q] at h4
    have h4 : ∀ i : Nat, ∃ x : Nat, i < l0 → x < 256 ∧ W.cell? (a.add i) = some (.int .u8 (x : Nat)) := fun i => by
      by_cases hi : i < l0
      · have e := he i hi
        rw [List.getElem?_eq_getElem (by omega)] at e
        obtain ⟨cs', q1, q2⟩ := Option.bind_eq_some_iff.1 e
        rw [hC] at q1
        obtain ⟨_, ql, qc⟩ := World.cells?_some q1
        obtain ⟨k, e0, -, w0⟩ := DataW.trod_int Tryz.underlying5 q2
        simp [Lit.wf, IntKind.min, IntKind.max, IntKind.bits, IntKind.signed] at w0
        have q0 := qc 0 (by omega)
        rw [e0] at q0
        refine ⟨k.toNat, fun _ => ⟨by omega, ?_⟩⟩
        rw [Nat.mul_one, Go.Deep.add_add, Nat.add_zero] at q0
        rw [q0, Int.toNat_of_nonneg w0.1]; rfl
      · exact ⟨0, fun h => absurd h hi⟩
    obtain ⟨F, hF⟩ := Classical.axiomOfChoice h4
    have hlen' : ((List.range l0).map F).length = l0 := by simp
    obtain ⟨b, off, spot⟩ := a
    obtain ⟨hs, hlt⟩ := hsp
    simp only at hs hlt
    subst hs
    refine ⟨(List.range l0).map F, some ⟨b, off, none⟩, cp0, by rw [hlen'], .inr ⟨b, off, cp0, by rw [hlen'], by rw [hlen']; exact hl, hm, hlt, fun i hi => ?_⟩, fun x hx => ?_⟩
    · rw [hlen'] at hi
      have := (hF i hi).2
      rw [show (⟨b, off, none⟩ : Addr).add i = ⟨b, off + i, none⟩ from by by_cases h : i = 0 <;> simp [Addr.add, h]] at this
      simpa using this
    · obtain ⟨i, hi, rfl⟩ := List.mem_map.1 hx
      exact (hF i (List.mem_range.1 hi)).1
set_option maxRecDepth 100000 in
open Go.ChangeShapes Go.WideShapes Go.ChangeAt Go.ChangeMaps in
theorem ereads_open {H : Type} {enc : TypeId × Value → H} {base b1 : Nat} {spare : Nat → Bool} {held : Bool} {d0 : DataW H} {p0 : List MemPlace} (v0 : Value) (W : World)
    (o0 : Value.okWide Tryz.prog W .any base 22 v0) (k0 : DataW.Trod enc Tryz.prog W b1 spare held 22 v0 d0 p0) :
    Calls Tryz.prog 3 #[v0] W fun e w' => e = .returned (.bool true) ∧ Below W.heap.size W w' := by
  obtain ⟨l, A, cap, rfl, hin, hb⟩ := bytes_open v0 W o0 k0
  by_cases h : l.length ≤ 600
  · exact ereads_walk _ l h hb W hin
  · exact ereads_long A l.length cap W (by omega)
end Rd
end Go.Proofs.YtcbddebmmaflgaaGreatDoor
