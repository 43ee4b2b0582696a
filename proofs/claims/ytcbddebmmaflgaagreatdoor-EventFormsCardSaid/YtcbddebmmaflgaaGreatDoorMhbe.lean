/- clockworklaw11's alive. -/
import Derived.Test.YtcbddebmmaflgaaGreatDoorMhat
namespace Go.Proofs.YtcbddebmmaflgaaGreatDoor
open Go.RowKit
set_option linter.unusedVariables false
namespace Bt
open Vt (VT Rep BoxAt below_drew)
open Ev (EV FieldsOk ERep evCells vCells zeroT EBox nameOf fieldsOf rowCellsOf of_in evalid_any)

def e5 : EV := ⟨5, 5, 0, 0, ⟨#[]⟩, ⟨#[]⟩, zeroT⟩
theorem e5_rep (w : World) : ERep w 0 0 e5 (.agg #[.int .i64 5, .int .u64 5, .int .i64 0, .int .u64 0, .string ⟨#[]⟩, .string ⟨#[]⟩, .int .i64 0, .int .i64 0, .float .f64 0, .string ⟨#[]⟩, .slice none 0 0]) :=
  ⟨⟨by decide, by decide, by decide, by decide, by decide, by decide, by decide, by decide⟩, 0, 0, 0, ⟨#[]⟩, none, 0, 0, rfl, Rep.leaf ⟨by omega, by omega, by omega, by omega, by omega, by decide, by decide⟩⟩
theorem zero_valid : zeroT.valid 8 = true := by unfold zeroT; rw [Vt.valid_mk]; simp; decide
theorem e5_valid : e5.valid = true := by
  unfold EV.valid Ev.goodL e5
  simp [fieldsOf, Vt.same_refl, Ev.pickB]
  try decide
theorem five_bytes (w : World) : Calls Tryz.prog 14 #[.agg #[.int .i64 5, .int .u64 5, .int .i64 0, .int .u64 0, .string ⟨#[]⟩, .string ⟨#[]⟩, .int .i64 0, .int .i64 0, .float .f64 0, .string ⟨#[]⟩, .slice none 0 0]] w fun e w' => ∃ v, e = .returned (.tuple #[v, .bool true]) ∧ BOwn w' w.heap.size v [1, 5, 5] ∧ Below w.heap.size w w' := by
  have h := ebytes_walk 5 5 0 0 ⟨#[]⟩ ⟨#[]⟩ (by omega) (by omega) (by omega) (by omega) (by decide) (by decide) 0 0 0 ⟨#[]⟩ none 0 0 (nameOf 5) true false false false false false [0] (by simp) w
    (fun W hW => (evalid_any e5 W 0 0 _ (e5_rep W) (Nat.zero_le _)).mono fun r w' h => by rw [e5_valid] at h; exact h)
    (fun W => of_in 5 (by omega) (by omega) W)
    (fun W hW => vbytes0 zeroT 0 0 0 0 ⟨#[]⟩ none 0 0 W (Rep.leaf ⟨by omega, by omega, by omega, by omega, by omega, by decide, by decide⟩) (Nat.zero_le _) zero_valid)
  exact h
theorem five_text (w : World) : Calls Tryz.prog 17 #[.agg #[.int .i64 5, .int .u64 5, .int .i64 0, .int .u64 0, .string ⟨#[]⟩, .string ⟨#[]⟩, .int .i64 0, .int .i64 0, .float .f64 0, .string ⟨#[]⟩, .slice none 0 0]] w fun e w' => e = .returned (.string ⟨#[102, 105, 114, 101, 100, 32, 53]⟩) ∧ Below w.heap.size w w' := by
  have h := etext_walk 5 5 0 0 ⟨#[]⟩ ⟨#[]⟩ 0 0 0 ⟨#[]⟩ none 0 0 (nameOf 5) ⟨#[53]⟩ ⟨#[48]⟩ ⟨#[48]⟩ ⟨#[34, 34]⟩ ⟨#[34, 34]⟩ ⟨#[110, 105, 108]⟩ true false false false false false w (by decide)
    (fun W hW => (evalid_any e5 W 0 0 _ (e5_rep W) (Nat.zero_le _)).mono fun r w' h => by rw [e5_valid] at h; exact h)
    (fun W => of_in 5 (by omega) (by omega) W)
    (fun W _ => (fmt5 W).mono fun r w' h => ⟨h.1, by rw [h.2]; exact Below.refl _ _⟩)
    (fun W _ => (itoa0 W).mono fun r w' h => ⟨h.1, by rw [h.2]; exact Below.refl _ _⟩)
    (fun W _ => (fmt0 W).mono fun r w' h => ⟨h.1, by rw [h.2]; exact Below.refl _ _⟩)
    (fun W _ => quoted0 W) (fun W _ => quoted0 W)
    (fun W hW => vtext_none zeroT 0 0 0 0 ⟨#[]⟩ none 0 0 W (Rep.leaf ⟨by omega, by omega, by omega, by omega, by omega, by decide, by decide⟩) (Nat.zero_le _) zero_valid _ (fun W => none_text 0 0 ⟨#[]⟩ none 0 0 0 W))
  exact h

theorem BOwn.three {w : World} {base : Nat} {v : Value} {a b c : Nat} (h : BOwn w base v [a, b, c]) : ∃ g cap, v = .slice (some ⟨g, 0, none⟩) 3 cap ∧ base ≤ g ∧ 3 ≤ cap ∧ g < w.heap.size ∧ w.cell? ⟨g, 0, none⟩ = some (.int .u8 a) ∧ w.cell? ⟨g, 1, none⟩ = some (.int .u8 b) ∧ w.cell? ⟨g, 2, none⟩ = some (.int .u8 c) := by
  rcases h.2 with ⟨h1, h2⟩ | ⟨g, cap, cur, rfl, q2, q3, q4, q5, q6, q7⟩
  · simp at h2
  · refine ⟨g, cap, rfl, q2, q4, (Array.getElem?_eq_some_iff.1 q3).1, ?_, ?_, ?_⟩
    all_goals
      have q8 : cur.toList.take 3 = [.int .u8 (a : Int), .int .u8 (b : Int), .int .u8 (c : Int)] := q7
      simp only [World.cell?, q3]
      rw [← Array.getElem?_toList]
    · rw [← List.getElem?_take_of_lt (l := cur.toList) (j := 3) (by omega), q8]; rfl
    · rw [← List.getElem?_take_of_lt (l := cur.toList) (j := 3) (by omega), q8]; rfl
    · rw [← List.getElem?_take_of_lt (l := cur.toList) (j := 3) (by omega), q8]; rfl

set_option maxRecDepth 100000 in
theorem alive_any (w : World) : Calls Tryz.prog 6 #[] w fun e w' => e = .returned (.bool true) ∧ Below w.heap.size w w' := by
  obtain ⟨W0, hW0⟩ : ∃ W0, W0 = w.alloc (.cells #[.int .i64 5, .int .u64 5, .int .i64 0, .int .u64 0, .string ⟨#[]⟩, .string ⟨#[]⟩, .int .i64 0, .int .i64 0, .float .f64 0, .string ⟨#[]⟩, .slice none 0 0] 32) := ⟨_, rfl⟩
  have HB0 : Hid (Below w.heap.size w W0) := Lib.hid (by rw [hW0]; exact (Below.refl _ _).alloc (Nat.le_refl _) _)
  have hbx : EBox W0 w.heap.size #[.int .i64 5, .int .u64 5, .int .i64 0, .int .u64 0, .string ⟨#[]⟩, .string ⟨#[]⟩, .int .i64 0, .int .i64 0, .float .f64 0, .string ⟨#[]⟩, .slice none 0 0] := by rw [hW0]; exact heap_alloc_new w _
  have hzz : w.heap.size < W0.heap.size := by rw [hW0]; simp
  have HY := Lib.hid (five_bytes W0)
  have HT := Lib.hid five_text
  obtain ⟨a0, a1, a2, a3, a4, a5, a6, a7, a8, a9, a10⟩ := EBox.cells hbx
  have HX := Lib.hid hbx
  clear hbx
  replace hW0 := Lib.hid hW0
  go_enter Tryz.func6, Tryz.ntmps6
  go_upto_region 2 with fail
  rw [← hW0.out]
  go_wp2_with fail
  refine HY.out.mono ?_
  rintro e w1 ⟨v, rfl, hown, hb⟩
  obtain ⟨g, cap, rfl, hg0, hg1, hg2, c0, c1, c2⟩ := BOwn.three hown
  have hbx := HX.out.later hb hzz
  have HB1 : Hid (Below w.heap.size w w1) := Lib.hid (HB0.out.trans (hb.mono HB0.out.size))
  clear a0 a1 a2 a3 a4 a5 a6 a7 a8 a9 a10 hown hb HY HX
  obtain ⟨a0, a1, a2, a3, a4, a5, a6, a7, a8, a9, a10⟩ := EBox.cells hbx
  clear hbx
  go_wp2_with fail
  refine (HT.out _).mono ?_
  rintro e w2 ⟨rfl, hb2⟩
  have HB2 : Hid (Below w.heap.size w w2) := Lib.hid (HB1.out.trans (hb2.mono HB1.out.size))
  clear hb2
  go_wp2_with fail
  go_ret
  exact ⟨by first | rfl | simp, HB2.out⟩

end Bt
end Go.Proofs.YtcbddebmmaflgaaGreatDoor
