/- batch.Bytes: rows of byte slices; the walk. -/
/- batch.Bytes: the walk. -/
/- slices.Equal of bytes; clockworklaw13's alive. -/
import Derived.Test.YtcbddebmmaflgaaGreatDoorMsal
import Derived.Test.YtcbddebmmaflgaaGreatDoorMsap
import Derived.BigQuiet
namespace Go.Proofs.YtcbddebmmaflgaaGreatDoor
open Go.RowKit
set_option linter.unusedVariables false
set_option linter.unusedSimpArgs false
namespace Cn
open _root_.Go.Proofs.YtcbddebmmaflgaaGreatDoor.Nm (bitsW ret_int ret_bool)
open Vt (VT Rep BoxAt below_drew put5 KidsAt HeadOk)
open Ev (EV FieldsOk evCells vCells EBox ERep zeroT take_drop cons_drop)
open Cm (rowOf EvsIn EvsAt EvNew evSame)
open Bt (BOwn BIn PIn ubytes sb bv concat_any btext_any uint_any)

/-- A row of byte slices of the call's own; each slice lies apart from the row. -/
def PRow (w : World) (base : Nat) (A : Option Addr) (cap n : Nat) (ls : List (List Nat)) : Prop := ls.length = n ∧ ∃ xs, w.ownsRow base 22 1 (.slice A n cap) n xs ∧ ∀ i (h : i < ls.length), ∃ v, xs[i]? = some v ∧ BIn w v ls[i] ∧ ∀ k, v.ownBlock = some k → rowOf A ≠ some k

theorem bin_block {w : World} {v : Value} {l : List Nat} (h : BIn w v l) : ∀ k, v.ownBlock = some k → k < w.heap.size := by
  intro k hk
  rcases h with ⟨rfl, -⟩ | ⟨ad, cap, rfl, h1, h2, h3, h4⟩
  · cases hk
  · cases hk; exact h3
theorem bin_keep {w w' : World} {v : Value} {l : List Nat} (h : BIn w v l) (hz : w.heap.size ≤ w'.heap.size) (hk : ∀ k, v.ownBlock = some k → w'.heap[k]? = w.heap[k]?) : BIn w' v l := by
  rcases h with h | ⟨ad, cap, rfl, h1, h2, h3, h4⟩
  · exact .inl h
  · exact .inr ⟨ad, cap, rfl, h1, h2, Nat.lt_of_lt_of_le h3 hz, fun j u hu => (World.cell?_of_block (a := ad.add j) (by rw [Bt.block_add]; exact hk _ rfl)).trans (h4 j u hu)⟩
theorem PRow.push {W w' : World} {base r H : Nat} {A : Option Addr} {cap cap' n : Nat} {ls : List (List Nat)} {l : List Nat} {xs : List Value} {v : Value}
    (hlen : ls.length = n) (hlx : xs.length = n) (hx : ∀ i (h : i < ls.length), ∃ v, xs[i]? = some v ∧ BIn W v ls[i] ∧ ∀ k, v.ownBlock = some k → rowOf A ≠ some k) (hv : BIn W v l) (hrr : ∀ k, v.ownBlock = some k → rowOf A ≠ some k)
    (hown : w'.ownsRow base 22 1 (.slice (some ⟨r, 0, none⟩) (n + 1) cap') (n + 1) (xs ++ [v])) (hgrow : W.grownBy w' (rowOf A)) (hat : rowOf A = some r ∨ r = H) (hH : W.heap.size ≤ H) :
    PRow w' base (some ⟨r, 0, none⟩) cap' (n + 1) (ls ++ [l]) := by
  have key : ∀ (v : Value) (l : List Nat), BIn W v l → (∀ k, v.ownBlock = some k → rowOf A ≠ some k) → BIn w' v l ∧ ∀ k, v.ownBlock = some k → rowOf (some ⟨r, 0, none⟩) ≠ some k := fun v l h1 h2 => by
    refine ⟨bin_keep h1 hgrow.size (fun k hk => hgrow.block k (bin_block h1 k hk) (fun e => h2 k hk e.symm)), fun k hk e => ?_⟩
    obtain rfl : r = k := Option.some.inj e
    rcases hat with h | h
    · exact h2 r hk h
    · have := bin_block h1 r hk; omega
  refine ⟨by simp [hlen], _, hown, fun i hil => ?_⟩
  simp at hil
  by_cases hlt : i < ls.length
  · rw [List.getElem_append_left hlt]
    obtain ⟨u, k1, k2, k3⟩ := hx i hlt
    obtain ⟨z1, z2⟩ := key u _ k2 k3
    exact ⟨u, (List.getElem?_append_left (by omega)).trans k1, z1, z2⟩
  · obtain rfl : i = ls.length := by omega
    rw [List.getElem_append_right (Nat.le_refl _)]
    simp only [Nat.sub_self, List.getElem_cons_zero]
    obtain ⟨z1, z2⟩ := key v _ hv hrr
    exact ⟨v, by rw [List.getElem?_append_right (by omega), hlx, hlen, Nat.sub_self]; rfl, z1, z2⟩

theorem Tryz.infoY : (Tryz.prog.info? 22).map (fun i => (i.zero, i.size, i.bytes)) = some (some (.slice none 0 0), 1, 24) := by kernel_rfl

end Cn
end Go.Proofs.YtcbddebmmaflgaaGreatDoor
namespace Go.Proofs.YtcbddebmmaflgaaGreatDoor
open Go.RowKit
set_option linter.unusedVariables false
set_option linter.unusedSimpArgs false
namespace Cn
open _root_.Go.Proofs.YtcbddebmmaflgaaGreatDoor.Nm (bitsW ret_int ret_bool)
open Vt (VT Rep BoxAt below_drew put5 KidsAt HeadOk)
open Ev (EV FieldsOk evCells vCells EBox ERep zeroT take_drop cons_drop)
open Cm (rowOf EvsIn EvsAt EvNew evSame)
open Bt (BOwn BIn PIn ubytes sb bv concat_any btext_any uint_any)

theorem slice_form {w : World} {base : Nat} {v : Value} {l : List Nat} (h : BOwn w base v l) : ∃ A n cap, v = .slice A n cap := by
  obtain ⟨A, cap, e⟩ := h.read.form
  exact ⟨A, _, cap, e⟩

end Cn
end Go.Proofs.YtcbddebmmaflgaaGreatDoor
namespace Go.Proofs.YtcbddebmmaflgaaGreatDoor
open Go.RowKit
set_option linter.unusedVariables false
set_option linter.unusedSimpArgs false
namespace Cn
open _root_.Go.Proofs.YtcbddebmmaflgaaGreatDoor.Nm (bitsW ret_int ret_bool)
open Vt (VT Rep BoxAt below_drew put5 KidsAt HeadOk)
open Ev (EV FieldsOk evCells vCells EBox ERep zeroT take_drop cons_drop nameOf fieldsOf of_in evalid_any)
open Cm (rowOf EvsIn EvsAt EvNew evSame)
open Bt (BOwn BIn PIn ubytes sb bv ebytes_walk vbytes0)

/-- Bytes that are read by their places. -/
def BRd (w : World) (v : Value) (l : List Nat) : Prop := (v = .slice none 0 0 ∧ l = []) ∨ ∃ b off cap, v = .slice (some ⟨b, off, none⟩) l.length cap ∧ l.length ≤ cap ∧ cap ≤ maxLen ∧ b < w.heap.size ∧ ∀ j (h : j < l.length), w.cell? ⟨b, off + j, none⟩ = some (.int .u8 (l[j] : Nat))
theorem below_drewN {B n : Nat} {a w : World} (h : Below B a w) : Below B a (w.drewN n) := ⟨h.os, h.tape, h.output, h.size, h.block⟩
theorem BRd.later {w w' : World} {v : Value} {l : List Nat} (h : BRd w v l) (hb : Below w.heap.size w w') : BRd w' v l := by
  rcases h with h | ⟨b, off, cap, h1, h2, h3, h4, h5⟩
  · exact .inl h
  · exact .inr ⟨b, off, cap, h1, h2, h3, Nat.lt_of_lt_of_le h4 hb.size, fun j hj => (hb.cell (p := ⟨b, off + j, none⟩) h4).trans (h5 j hj)⟩
theorem brd_own {w : World} {base : Nat} {v : Value} {l : List Nat} (h : BOwn w base v l) : BRd w v l := by
  rcases h.2 with ⟨h1, h2⟩ | ⟨g, cap, cur, q1, q2, q3, q4, q5, q6, q7⟩
  · exact .inl ⟨h1, List.eq_nil_of_length_eq_zero h2⟩
  · refine .inr ⟨g, 0, cap, q1, q4, q5, (Array.getElem?_eq_some_iff.1 q3).1, fun j hj => ?_⟩
    have e : cur[j]? = some (.int .u8 (l[j] : Nat)) := by
      have e1 : (l.map fun (b : Nat) => Value.int .u8 (b : Int))[j]? = some (.int .u8 (l[j] : Nat)) := by simp [List.getElem?_eq_getElem hj]
      rw [← e1, ← q7, List.getElem?_take_of_lt (by omega), Array.getElem?_toList]
    rw [Nat.zero_add]
    simp [World.cell?, q3, e]
theorem BRd.form {w : World} {v : Value} {l : List Nat} (h : BRd w v l) : ∃ A cap, v = .slice A l.length cap := by
  rcases h with ⟨rfl, rfl⟩ | ⟨b, off, cap, rfl, -⟩
  · exact ⟨none, 0, rfl⟩
  · exact ⟨_, cap, rfl⟩

set_option maxRecDepth 100000 in
set_option maxHeartbeats 1000000 in
theorem bequal_same (l m : List Nat) (hlm : l.length = m.length) (x y : Value) (w : World) (hx : BRd w x l) (hy : BRd w y m) :
    Calls Tryz.prog 16 #[x, y] w fun r w' => r = .returned (.bool (decide (l = m))) ∧ Below w.heap.size w w' := by
  obtain ⟨A, cap, rfl⟩ := hx.form
  obtain ⟨A', cap', rfl⟩ := hy.form
  have hll : l.length ≤ 9223372036854775807 := by
    rcases hx with ⟨-, rfl⟩ | ⟨b, off, cap, -, h1, h2, -⟩
    · simp
    · simp only [maxLen] at h2; omega
  have HX := Lib.hid fun W (hW : Below w.heap.size w W) => hx.later hW
  have HY := Lib.hid fun W (hW : Below w.heap.size w W) => hy.later hW
  have HLM := Lib.hid hlm
  rw [← hlm] at HY ⊢
  clear hx hy hlm
  generalize hn : l.length = n at *
  have HN := Lib.hid hn; clear hn
  go_enter Tryz.func16, Tryz.ntmps16
  go_wp2_with fail
  go_loopw [4, 13] (fun r i wr => ∃ (j : Nat), j ≤ n ∧ i = .int .i64 j ∧ r = .bool false ∧ l.take j = m.take j ∧ Below w.heap.size w wr) (fun _ i _ => n - (intOf i).toNat)
  case atStart => exact ⟨0, by omega, rfl, rfl, by simp, Below.refl _ _⟩
  case round =>
    obtain ⟨j, hj, rfl, rfl, hy, hb⟩ := hrel
    have HYT := Lib.hid hy; have HB := Lib.hid hb
    clear hy hb
    by_cases hlt : j < n
    · have hjl : j < l.length := by have := HN.out; omega
      have hjm : j < m.length := by have := HLM.out; have := HN.out; omega
      obtain ⟨b, off, cp, e1, h2, h3, h4, h5⟩ := (HX.out wr HB.out).resolve_left (fun h => by rw [h.2] at hjl; simp at hjl)
      obtain ⟨b', off', cp', e1', h2', h3', h4', h5'⟩ := (HY.out wr HB.out).resolve_left (fun h => by rw [h.2] at hjm; simp at hjm)
      injection e1 with e1 _ _
      injection e1' with e1' _ _
      subst e1 e1'
      have c1 := h5 j hjl
      have c2 := h5' j hjm
      obtain ⟨a, ha⟩ : ∃ a, a = l[j] := ⟨_, rfl⟩
      obtain ⟨a', ha'⟩ : ∃ a, a = m[j] := ⟨_, rfl⟩
      rw [← ha] at c1
      rw [← ha'] at c2
      have HA := Lib.hid ha; have HA' := Lib.hid ha'
      have HT : Hid (a = a' → l.take (j + 1) = m.take (j + 1)) := Lib.hid fun e => by rw [List.take_succ_eq_append_getElem hjl, List.take_succ_eq_append_getElem hjm, HYT.out, ← HA.out, ← HA'.out, e]
      have HF : Hid (a ≠ a' → decide (l = m) = false) := Lib.hid fun e => decide_eq_false (fun h => e (by rw [HA.out, HA'.out]; simp [h]))
      clear ha ha' h2 h3 h4 h5 h2' h3' h4' h5'
      by_cases haa : a = a'
      · subst haa
        go_upto_region 6 with fail
        go_quiet (fail)
        go_wp2_with fail
        go_roundw
        case rel => exact ⟨j + 1, by omega, by go_num, rfl, HT.out rfl, below_drewN HB.out⟩
        case measure => simp [intOf]; omega
      · have hne : ((a : Int) != (a' : Int)) = true := by simp; omega
        have HNE := Lib.hid haa
        go_upto_region 6 with fail
        go_quiet (fail)
        go_wp2_with fail
        go_ret
        exact ⟨ret_bool (by rw [HF.out HNE.out]), below_drewN HB.out⟩
    · have hj' : j = n := by omega
      subst hj'
      go_wp2_with fail
      go_ret
      have he : l = m := by
        have := HYT.out
        rw [List.take_of_length_le (by have := HN.out; omega), List.take_of_length_le (by have := HN.out; have := HLM.out; omega)] at this
        exact this
      exact ⟨ret_bool (by rw [decide_eq_true he]), HB.out⟩

set_option maxRecDepth 100000 in
theorem bequal_any (l m : List Nat) (x y : Value) (w : World) (hx : BRd w x l) (hy : BRd w y m) :
    Calls Tryz.prog 16 #[x, y] w fun r w' => r = .returned (.bool (decide (l = m))) ∧ Below w.heap.size w w' := by
  by_cases hlm : l.length = m.length
  · exact bequal_same l m hlm x y w hx hy
  · obtain ⟨A, cap, rfl⟩ := hx.form
    obtain ⟨A', cap', rfl⟩ := hy.form
    have hd : decide (l = m) = false := decide_eq_false (fun h => hlm (by rw [h]))
    rw [hd]
    generalize l.length = n at *
    generalize m.length = k at *
    have hne : ((n : Int) != (k : Int)) = true := by simp; omega
    clear hx hy hd
    go_enter Tryz.func16, Tryz.ntmps16
    go_wp2_with fail
    go_ret
    exact ⟨rfl, Below.refl _ _⟩

def e5 : EV := ⟨5, 5, 0, 0, ⟨#[]⟩, ⟨#[]⟩, zeroT⟩
theorem zero_valid : zeroT.valid 8 = true := by unfold zeroT; rw [Vt.valid_mk]; simp; decide
theorem e5_valid : e5.valid = true := by
  unfold EV.valid Ev.goodL e5
  simp [fieldsOf, Vt.same_refl, Ev.pickB]
  try decide
end Cn
end Go.Proofs.YtcbddebmmaflgaaGreatDoor
