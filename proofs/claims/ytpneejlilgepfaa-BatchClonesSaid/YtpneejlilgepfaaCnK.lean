/- slices.Equal of bytes; clockworklaw13's alive. -/
import Derived.Test.YtpneejlilgepfaaCnJ
import Derived.BigQuiet
namespace Go.Proofs.Ytpneejlilgepfaa
open Go.RowKit
set_option linter.unusedVariables false
set_option linter.unusedSimpArgs false
namespace Cn
open Nm (bitsW ret_int ret_bool)
open Vt (VT Rep BoxAt below_drew Cloned put5 KidsAt HeadOk)
open Ev (EV FieldsOk evCells vCells EBox ERep zeroT take_drop cons_drop nameOf fieldsOf of_in evalid_any)
open Cm (rowOf EvsIn EvsAt EvNew evsSame evSame)
open Bt (BOwn BIn PIn ubytes sb bv ebytes_walk vbytes0)

/-- Bytes that are read by their places. -/
def BRd (w : World) (v : Value) (l : List Nat) : Prop := (v = .slice none 0 0 ∧ l = []) ∨ ∃ b off cap, v = .slice (some ⟨b, off, none⟩) l.length cap ∧ l.length ≤ cap ∧ cap ≤ maxLen ∧ b < w.heap.size ∧ ∀ j (h : j < l.length), w.cell? ⟨b, off + j, none⟩ = some (.int .u8 (l[j] : Nat))
theorem below_drewN {B n : Nat} {a w : World} (h : Below B a w) : Below B a (w.drewN n) := ⟨h.os, h.tape, h.output, h.size, h.block⟩
theorem BRd.later {w w' : World} {v : Value} {l : List Nat} (h : BRd w v l) (hb : Below w.heap.size w w') : BRd w' v l := by
  rcases h with h | ⟨b, off, cap, h1, h2, h3, h4, h5⟩
  · exact .inl h
  · exact .inr ⟨b, off, cap, h1, h2, h3, Nat.lt_of_lt_of_le h4 hb.size, fun j hj => (hb.cell (p := ⟨b, off + j, none⟩) h4).trans (h5 j hj)⟩
theorem brd_own {w : World} {base : Nat} {v : Value} {l : List Nat} (h : BOwn w base v l) : BRd w v l := by
  rcases h.2 with ⟨h1, h2⟩ | ⟨g, cap, cur, q1, q2, q3, q4, q5, q6, q7⟩
  · exact .inl ⟨h1, List.eq_nil_of_length_eq_zero h2⟩
  · refine .inr ⟨g, 0, cap, q1, q4, q5, (Array.getElem?_eq_some_iff.1 q3).1, fun j hj => ?_⟩
    have e : cur[j]? = some (.int .u8 (l[j] : Nat)) := by
      have e1 : (l.map fun (b : Nat) => Value.int .u8 (b : Int))[j]? = some (.int .u8 (l[j] : Nat)) := by simp [List.getElem?_eq_getElem hj]
      rw [← e1, ← q7, List.getElem?_take_of_lt (by omega), Array.getElem?_toList]
    rw [Nat.zero_add]
    simp [World.cell?, q3, e]
theorem BRd.form {w : World} {v : Value} {l : List Nat} (h : BRd w v l) : ∃ A cap, v = .slice A l.length cap := by
  rcases h with ⟨rfl, rfl⟩ | ⟨b, off, cap, rfl, -⟩
  · exact ⟨none, 0, rfl⟩
  · exact ⟨_, cap, rfl⟩

set_option maxRecDepth 100000 in
set_option maxHeartbeats 1000000 in
theorem bequal_same (l m : List Nat) (hlm : l.length = m.length) (x y : Value) (w : World) (hx : BRd w x l) (hy : BRd w y m) :
    Calls Try.prog 14 #[x, y] w fun r w' => r = .returned (.bool (decide (l = m))) ∧ Below w.heap.size w w' := by
  obtain ⟨A, cap, rfl⟩ := hx.form
  obtain ⟨A', cap', rfl⟩ := hy.form
  have hll : l.length ≤ 9223372036854775807 := by
    rcases hx with ⟨-, rfl⟩ | ⟨b, off, cap, -, h1, h2, -⟩
    · simp
    · simp only [maxLen] at h2; omega
  have HX := Lib.hid fun W (hW : Below w.heap.size w W) => hx.later hW
  have HY := Lib.hid fun W (hW : Below w.heap.size w W) => hy.later hW
  have HLM := Lib.hid hlm
  rw [← hlm] at HY ⊢
  clear hx hy hlm
  generalize hn : l.length = n at *
  have HN := Lib.hid hn; clear hn
  go_enter Try.func14, Try.ntmps14
  go_wp2_with fail
  go_loopw [4, 13] (fun r i wr => ∃ (j : Nat), j ≤ n ∧ i = .int .i64 j ∧ r = .bool false ∧ l.take j = m.take j ∧ Below w.heap.size w wr) (fun _ i _ => n - (intOf i).toNat)
  case atStart => exact ⟨0, by omega, rfl, rfl, by simp, Below.refl _ _⟩
  case round =>
    obtain ⟨j, hj, rfl, rfl, hy, hb⟩ := hrel
    have HYT := Lib.hid hy; have HB := Lib.hid hb
    clear hy hb
    by_cases hlt : j < n
    · have hjl : j < l.length := by have := HN.out; omega
      have hjm : j < m.length := by have := HLM.out; have := HN.out; omega
      obtain ⟨b, off, cp, e1, h2, h3, h4, h5⟩ := (HX.out wr HB.out).resolve_left (fun h => by rw [h.2] at hjl; simp at hjl)
      obtain ⟨b', off', cp', e1', h2', h3', h4', h5'⟩ := (HY.out wr HB.out).resolve_left (fun h => by rw [h.2] at hjm; simp at hjm)
      injection e1 with e1 _ _
      injection e1' with e1' _ _
      subst e1 e1'
      have c1 := h5 j hjl
      have c2 := h5' j hjm
      obtain ⟨a, ha⟩ : ∃ a, a = l[j] := ⟨_, rfl⟩
      obtain ⟨a', ha'⟩ : ∃ a, a = m[j] := ⟨_, rfl⟩
      rw [← ha] at c1
      rw [← ha'] at c2
      have HA := Lib.hid ha; have HA' := Lib.hid ha'
      have HT : Hid (a = a' → l.take (j + 1) = m.take (j + 1)) := Lib.hid fun e => by rw [List.take_succ_eq_append_getElem hjl, List.take_succ_eq_append_getElem hjm, HYT.out, ← HA.out, ← HA'.out, e]
      have HF : Hid (a ≠ a' → decide (l = m) = false) := Lib.hid fun e => decide_eq_false (fun h => e (by rw [HA.out, HA'.out]; simp [h]))
      clear ha ha' h2 h3 h4 h5 h2' h3' h4' h5'
      by_cases haa : a = a'
      · subst haa
        go_upto_region 6 with fail
        go_quiet (fail)
        go_wp2_with fail
        go_roundw
        case rel => exact ⟨j + 1, by omega, by go_num, rfl, HT.out rfl, below_drewN HB.out⟩
        case measure => simp [intOf]; omega
      · have hne : ((a : Int) != (a' : Int)) = true := by simp; omega
        have HNE := Lib.hid haa
        go_upto_region 6 with fail
        go_quiet (fail)
        go_wp2_with fail
        go_ret
        exact ⟨ret_bool (by rw [HF.out HNE.out]), below_drewN HB.out⟩
    · have hj' : j = n := by omega
      subst hj'
      go_wp2_with fail
      go_ret
      have he : l = m := by
        have := HYT.out
        rw [List.take_of_length_le (by have := HN.out; omega), List.take_of_length_le (by have := HN.out; have := HLM.out; omega)] at this
        exact this
      exact ⟨ret_bool (by rw [decide_eq_true he]), HB.out⟩

set_option maxRecDepth 100000 in
theorem bequal_any (l m : List Nat) (x y : Value) (w : World) (hx : BRd w x l) (hy : BRd w y m) :
    Calls Try.prog 14 #[x, y] w fun r w' => r = .returned (.bool (decide (l = m))) ∧ Below w.heap.size w w' := by
  by_cases hlm : l.length = m.length
  · exact bequal_same l m hlm x y w hx hy
  · obtain ⟨A, cap, rfl⟩ := hx.form
    obtain ⟨A', cap', rfl⟩ := hy.form
    have hd : decide (l = m) = false := decide_eq_false (fun h => hlm (by rw [h]))
    rw [hd]
    generalize l.length = n at *
    generalize m.length = k at *
    have hne : ((n : Int) != (k : Int)) = true := by simp; omega
    clear hx hy hd
    go_enter Try.func14, Try.ntmps14
    go_wp2_with fail
    go_ret
    exact ⟨rfl, Below.refl _ _⟩

def e5 : EV := ⟨5, 5, 0, 0, ⟨#[]⟩, ⟨#[]⟩, zeroT⟩
theorem zero_valid : zeroT.valid 8 = true := by unfold zeroT; rw [Vt.valid_mk]; simp; decide
theorem e5_valid : e5.valid = true := by
  unfold EV.valid Ev.goodL e5
  simp [fieldsOf, Vt.same_refl, Ev.pickB]
  try decide
theorem e5_fields : FieldsOk e5 := ⟨by decide, by decide, by decide, by decide, by decide, by decide, by decide, by decide⟩

theorem e5_bytes : EvBytes [e5] [[1, 5, 5]] := by
  refine ⟨rfl, fun i h h' lo hi vk vn vf vs A m c w hf hv hz => ?_⟩
  obtain rfl : i = 0 := by simp at h; omega
  simp only [List.getElem_cons_zero] at hv hf ⊢
  obtain ⟨A2, cap2, hvc, -, -, -⟩ := hv.head (k := 0) (n := 0) (f := 0) (s := ⟨#[]⟩) (l := [])
  unfold vCells at hvc
  injection hvc with hvc
  simp at hvc
  obtain ⟨rfl, rfl, rfl, rfl, rfl, rfl, rfl⟩ := hvc
  have h := ebytes_walk 5 5 0 0 ⟨#[]⟩ ⟨#[]⟩ (by omega) (by omega) (by omega) (by omega) (by decide) (by decide) 0 0 0 ⟨#[]⟩ A 0 c (nameOf 5) true false false false false false [0] (by simp) w
    (fun W hW => (evalid_any e5 W lo hi _ ⟨hf, 0, 0, 0, ⟨#[]⟩, A, 0, c, rfl, hv.later (hW.mono hz)⟩ (Nat.le_trans hz hW.size)).mono fun r w' h => by rw [e5_valid] at h; exact h)
    (fun W => of_in 5 (by omega) (by omega) W)
    (fun W hW => vbytes0 zeroT lo hi 0 0 ⟨#[]⟩ A 0 c W (hv.later (hW.mono hz)) (Nat.le_trans hz hW.size) zero_valid)
  exact h

theorem e5_in (w : World) (g : Nat) (h : w.heap[g]? = some (.cells #[.int .i64 5, .int .u64 5, .int .i64 0, .int .u64 0, .string ⟨#[]⟩, .string ⟨#[]⟩, .int .i64 0, .int .i64 0, .float .f64 0, .string ⟨#[]⟩, .slice none 0 0] 35 (0, 0))) : EvsIn w (some ⟨g, 0, none⟩) 1 [e5] :=
  ⟨by simp, by simp only [maxLen]; omega, fun _ => ⟨g, 0, rfl, (Array.getElem?_eq_some_iff.1 h).1, fun i hi => by
    obtain rfl : i = 0 := by simp at hi; omega
    refine ⟨0, 0, 0, 0, 0, ⟨#[]⟩, none, 0, 0, e5_fields, Rep.leaf ⟨by omega, by omega, by omega, by omega, by omega, by decide, by decide⟩, Nat.zero_le _, fun q hq => ?_⟩
    have e : evCells ([e5][0]) 0 0 0 ⟨#[]⟩ none 0 0 = #[.int .i64 5, .int .u64 5, .int .i64 0, .int .u64 0, .string ⟨#[]⟩, .string ⟨#[]⟩, .int .i64 0, .int .i64 0, .float .f64 0, .string ⟨#[]⟩, .slice none 0 0] := rfl
    rw [e]
    simp [World.cell?, h]⟩⟩

set_option maxRecDepth 100000 in
set_option maxHeartbeats 1000000 in
theorem balive_any (w : World) : Calls Try.prog 5 #[] w fun r w' => r = .returned (.bool true) ∧ Below w.heap.size w w' := by
  obtain ⟨W0, hW0⟩ : ∃ W0, W0 = w.alloc (.cells #[.int .i64 5, .int .u64 5, .int .i64 0, .int .u64 0, .string ⟨#[]⟩, .string ⟨#[]⟩, .int .i64 0, .int .i64 0, .float .f64 0, .string ⟨#[]⟩, .slice none 0 0] 35) := ⟨_, rfl⟩
  have hx0 : W0.heap[w.heap.size]? = some (.cells #[.int .i64 5, .int .u64 5, .int .i64 0, .int .u64 0, .string ⟨#[]⟩, .string ⟨#[]⟩, .int .i64 0, .int .i64 0, .float .f64 0, .string ⟨#[]⟩, .slice none 0 0] 35 (0, 0)) := by rw [hW0]; exact heap_alloc_new w _
  have HB0 : Hid (Below w.heap.size w W0) := Lib.hid (by rw [hW0]; exact (Below.refl _ _).alloc (Nat.le_refl _) _)
  have hval : bvalid ⟨#[119]⟩ 3 [e5] = true := by
    have : ([e5] : List EV).any wrongE = false := by simp [wrongE, e5_valid]
    unfold bvalid
    rw [this, show (⟨#[119]⟩ : ByteArray).toList.isEmpty = false from by decide +kernel]
    rfl
  have HC : Hid (Calls Try.prog 13 #[.agg #[.string ⟨#[119]⟩, .int .u64 3, .slice (some ⟨w.heap.size, 0, none⟩) 1 1]] W0 fun r w' => ∃ v, r = .returned (.tuple #[v, .bool true]) ∧ BOwn w' W0.heap.size v [1, 119, 3, 1, 1, 5, 5] ∧ Below W0.heap.size W0 w') := Lib.hid (by
    have h := bbytes_any [e5] (by simp) [[1, 5, 5]] e5_bytes (by simp) ⟨#[119]⟩ 3 (by omega) (some ⟨w.heap.size, 0, none⟩) 1 W0 (e5_in W0 _ hx0) hval
    have e : bform ⟨#[119]⟩ 3 ([e5] : List EV).length [[1, 5, 5]] = [1, 119, 3, 1, 1, 5, 5] := by decide
    rw [e] at h
    exact h)
  replace hW0 := Lib.hid hW0
  clear hx0 hval
  go_enter Try.func5, Try.ntmps5
  go_wp2_with (go_at_call 13; rw [← hW0.out]; refine HC.out.mono ?_; rintro x w1 ⟨v, rfl, hown, hb1⟩; obtain ⟨A, cap, hv⟩ := (brd_own hown).form; simp only [List.length_cons, List.length_nil, Nat.reduceAdd] at hv; subst hv; have HO := Lib.hid (brd_own hown); have HB1 := Lib.hid (HB0.out.trans (hb1.mono HB0.out.size)); clear hown hb1)
  have hb7 : (w1.alloc (.cells #[.int .u8 1, .int .u8 119, .int .u8 3, .int .u8 1, .int .u8 1, .int .u8 5, .int .u8 5] 5)).heap[w1.heap.size]? = some (.cells #[.int .u8 1, .int .u8 119, .int .u8 3, .int .u8 1, .int .u8 1, .int .u8 5, .int .u8 5] 5 (0, 0)) := heap_alloc_new w1 _
  refine (bequal_any [1, 119, 3, 1, 1, 5, 5] [1, 119, 3, 1, 1, 5, 5] _ _ _ (HO.out.later ((Below.refl _ _).alloc (Nat.le_refl _) _)) (.inr ⟨w1.heap.size, 0, 7, rfl, by simp, by simp only [maxLen]; omega, by simp, fun j hj => ?_⟩)).mono ?_
  · simp only [List.length_cons, List.length_nil] at hj
    rcases (by omega : j = 0 ∨ j = 1 ∨ j = 2 ∨ j = 3 ∨ j = 4 ∨ j = 5 ∨ j = 6) with rfl | rfl | rfl | rfl | rfl | rfl | rfl <;> (simp only [World.cell?, hb7]; rfl)
  rintro x w2 ⟨rfl, hb2⟩
  have HB2 := Lib.hid (HB1.out.trans ((Below.refl w1.heap.size w1).alloc (Nat.le_refl _) (.cells #[.int .u8 1, .int .u8 119, .int .u8 3, .int .u8 1, .int .u8 1, .int .u8 5, .int .u8 5] 5) |>.mono HB1.out.size))
  have HB3 := Lib.hid (HB2.out.trans (hb2.mono HB2.out.size))
  clear hb2 hb7
  go_wp2_with fail
  go_ret
  exact ⟨ret_bool rfl, HB3.out⟩
end Cn
end Go.Proofs.Ytpneejlilgepfaa
