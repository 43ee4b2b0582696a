/- value.form and value.Bytes of a value of kind 0. -/
/- event.Bytes of a valid event whose value's bytes are known. -/
/- batch.Bytes: rows of byte slices; the walk. -/
/- batch.Bytes: the walk. -/
/- slices.Equal of bytes; clockworklaw13's alive. -/
/- A reader in memory; the small methods of bin.Reader. -/
/- bin.Reader's peek. -/
/- Bytes read as a string. -/
/- bin.Reader's Uint, Int, Take, Bytes, Text as pure steps. -/
/- bin.Reader's Int. -/
/- bin.Int of any number; the forms of a number with a sign, of a text, of a float. -/
/- value.form of a value whose kind's bytes are known; a list's bytes; value.Bytes of any valid value that is small. -/
/- Forms of events: event.Bytes of any valid small event; no form is the beginning of another. -/
/- Values and events that are read, as pure steps. No program in sight. -/
/- What is read is a form: values. No program in sight. -/
/- The reference's Valid answers as the program's of any event of a kind from 1 to 11. -/
/- The reference's Valid of any event, and of any batch. -/
import Derived.Test.YtkajcldmolcllaaGreatHabd
import Derived.Test.YtkajcldmolcllaaGreatHaad
import Derived.Test.YtkajcldmolcllaaGreatHaaf
import Derived.Deep.RegionWith
import Derived.Deep.CutRange
import Derived.Laws.EntriesVeiled
import Derived.StillTailTactics
import Derived.Test.YtkajcldmolcllaaGreatHaal
import Derived.BigQuiet
import Derived.Test.YtkajcldmolcllaaGreatHaag
import Derived.Test.YtkajcldmolcllaaGreatHaae
import Derived.Laws.BitsAllLaws
import Derived.Lib.BufferRead
import Derived.Lib.AtoiErrMem
import Derived.Laws.Bits64
import Derived.Test.YtkajcldmolcllaaGreatHaab
import Derived.Test.YtkajcldmolcllaaGreatHaao
set_option linter.unusedVariables false
set_option linter.unusedSimpArgs false
open Go.RowKit
namespace Go.Proofs.YtkajcldmolcllaaGreat
namespace Bt
open _root_.Go.Proofs.YtkajcldmolcllaaGreat.Nm (ret_int ret_bool)
open Vt (VT Rep BoxAt below_drew)
open Ev (take_drop tk ap cons_drop)

end Bt
end Go.Proofs.YtkajcldmolcllaaGreat
namespace Go.Proofs.YtkajcldmolcllaaGreat
namespace Bt
open _root_.Go.Proofs.YtkajcldmolcllaaGreat.Nm (ret_int ret_bool)
open Vt (VT Rep BoxAt below_drew)
open Ev (take_drop tk ap cons_drop EBox six_cells six_row RowAt ix0 ix1 ix2 ix3 ix4 ix5)

theorem BIn.far {w : World} {v : Value} {l : List Nat} (h : BIn w v l) {p : Addr} (hp : w.heap.size ≤ p.block) (u : Value) : BIn (w.setCell p u) v l :=
 h.later ((Below.refl _ _).setCell hp u)
end Bt
end Go.Proofs.YtkajcldmolcllaaGreat
namespace Go.Proofs.YtkajcldmolcllaaGreat
namespace Cn
open _root_.Go.Proofs.YtkajcldmolcllaaGreat.Nm (bitsW ret_int ret_bool)
open Vt (VT Rep BoxAt below_drew Cloned put5 KidsAt HeadOk)
open Ev (EV FieldsOk evCells vCells EBox ERep zeroT take_drop tk ap cons_drop)
open Cm (rowOf EvsIn EvsAt EvNew evsSame evSame)
open Bt (BOwn BIn PIn ubytes sb bv)

theorem Tryz.infoY : (Tryz.prog.info? 206).map (fun i => (i.zero, i.size, i.bytes)) = some (some (.slice none 0 0), 1, 24) := by kernel_rfl

end Cn
end Go.Proofs.YtkajcldmolcllaaGreat
namespace Go.Proofs.YtkajcldmolcllaaGreat
namespace Cn
open _root_.Go.Proofs.YtkajcldmolcllaaGreat.Nm (bitsW ret_int ret_bool)
open Vt (VT Rep BoxAt below_drew Cloned put5 KidsAt HeadOk)
open Ev (EV FieldsOk evCells vCells EBox ERep zeroT take_drop tk ap cons_drop)
open Cm (rowOf EvsIn EvsAt EvNew evsSame evSame)
open Bt (BOwn BIn PIn ubytes sb bv)

end Cn
end Go.Proofs.YtkajcldmolcllaaGreat
namespace Go.Proofs.YtkajcldmolcllaaGreat
namespace Cn
open _root_.Go.Proofs.YtkajcldmolcllaaGreat.Nm (bitsW ret_int ret_bool)
open Vt (VT Rep BoxAt below_drew Cloned put5 KidsAt HeadOk)
open Ev (EV FieldsOk evCells vCells EBox ERep zeroT take_drop tk ap cons_drop nameOf fieldsOf of_in evalid_any)
open Cm (rowOf EvsIn EvsAt EvNew evsSame evSame)
open Bt (BOwn BIn PIn ubytes sb bv)

def BRd (w : World) (v : Value) (l : List Nat) : Prop := (v = .slice none 0 0 ∧ l = []) ∨ ∃ b off cap, v = .slice (some ⟨b, off, none⟩) l.length cap ∧ l.length ≤ cap ∧ cap ≤ maxLen ∧ b < w.heap.size ∧ ∀ j (h : j < l.length), w.cell? ⟨b, off + j, none⟩ = some (.int .u8 (l[j] : Nat))
theorem below_drewN {B n : Nat} {a w : World} (h : Below B a w) : Below B a (w.drewN n) := ⟨h.os, h.tape, h.output, h.size, h.block⟩
theorem BRd.later {w w' : World} {v : Value} {l : List Nat} (h : BRd w v l) (hb : Below w.heap.size w w') : BRd w' v l := by
 rcases h with h | ⟨b, off, cap, h1, h2, h3, h4, h5⟩
 ·exact .inl h
 ·exact .inr ⟨b, off, cap, h1, h2, h3, Nat.lt_of_lt_of_le h4 hb.size, fun j hj => (hb.cell (p := ⟨b, off + j, none⟩) h4).trans (h5 j hj)⟩
def e5 : EV := ⟨5, 5, 0, 0, ⟨#[]⟩, ⟨#[]⟩, zeroT⟩
theorem zero_valid : zeroT.valid 8 = true := by unfold zeroT; rw [Vt.valid_mk]; simp; decide
end Cn
end Go.Proofs.YtkajcldmolcllaaGreat
namespace Go.Proofs.YtkajcldmolcllaaGreat
namespace Rd
open _root_.Go.Proofs.YtkajcldmolcllaaGreat.Nm (ret_int ret_bool)
open Vt (below_drew)
open Bt (BOwn BIn bv)
open Cn (BRd)
open Cm (OnlyAt)

end Rd
end Go.Proofs.YtkajcldmolcllaaGreat
namespace Go.Proofs.YtkajcldmolcllaaGreat
namespace Rd
open _root_.Go.Proofs.YtkajcldmolcllaaGreat.Nm (ret_int ret_bool)
open Vt (below_drew)
open Ev (take_drop tk ap cons_drop)
open Bt (BOwn BIn bv ubytes)
open Cn (BRd)
open Cm (OnlyAt)

end Rd
end Go.Proofs.YtkajcldmolcllaaGreat
namespace Go.Proofs.YtkajcldmolcllaaGreat
namespace Bt
open _root_.Go.Proofs.YtkajcldmolcllaaGreat.Nm (ret_int ret_bool)
open Vt (VT Rep BoxAt below_drew)
open Ev (take_drop tk ap cons_drop)

end Bt
end Go.Proofs.YtkajcldmolcllaaGreat
namespace Go.Proofs.YtkajcldmolcllaaGreat
namespace Rd
open _root_.Go.Proofs.YtkajcldmolcllaaGreat.Nm (ret_int ret_bool)
open Vt (below_drew)
open Bt (BOwn BIn bv ubytes sb)
open Cn (BRd)
open Cm (OnlyAt)

abbrev St := List Nat × Bool
end Rd
end Go.Proofs.YtkajcldmolcllaaGreat
namespace Go.Proofs.YtkajcldmolcllaaGreat
namespace Rd
open _root_.Go.Proofs.YtkajcldmolcllaaGreat.Nm (ret_int ret_bool)
open Cm (OnlyAt)

end Rd
end Go.Proofs.YtkajcldmolcllaaGreat
namespace Go.Proofs.YtkajcldmolcllaaGreat
namespace Vf
open _root_.Go.Proofs.YtkajcldmolcllaaGreat.Nm (bitsW bits_any ret_int ret_bool)
open Bt (BOwn BIn ubytes sb bv)

open Vt (VT Rep BoxAt below_drew KidsAt HeadOk)

def KB (w : World) (l : List Nat) (r : Ending) (w' : World) : Prop := ∃ v, r = .returned v ∧ BOwn w' w.heap.size v l ∧ Below w.heap.size w w'

end Vf
end Go.Proofs.YtkajcldmolcllaaGreat
namespace Go.Proofs.YtkajcldmolcllaaGreat
namespace Vf
open _root_.Go.Proofs.YtkajcldmolcllaaGreat.Nm (bitsW bits_any ret_int ret_bool)
open Bt (BOwn BIn ubytes sb bv)

open Vt (VT Rep BoxAt below_drew KidsAt HeadOk kindV of_any)
open Ev (take_drop tk ap cons_drop)

end Vf
end Go.Proofs.YtkajcldmolcllaaGreat
namespace Go.Proofs.YtkajcldmolcllaaGreat
namespace Vf
open _root_.Go.Proofs.YtkajcldmolcllaaGreat.Nm (bitsW ret_int ret_bool)
open Bt (BOwn BIn ubytes sb)
open Pf (size_zero)
open Vt (VT Rep BoxAt below_drew KidsAt HeadOk)
open Ev (EV FieldsOk evCells vCells EBox ERep zeroT fieldsOf nameOf of_in evalid_any goodL pickB)
open Cm (evSame)

theorem toList_nil {s : ByteArray} (h : s.toList.isEmpty = true) : s = ⟨#[]⟩ := by
 rw [Vt.toList_data] at h
 cases s with | mk d => simp at h; rw [h]
theorem zero_val : zeroT.valid 8 = true := by unfold zeroT; rw [Vt.valid_mk]; simp; decide
end Vf
end Go.Proofs.YtkajcldmolcllaaGreat
namespace Go.Proofs.YtkajcldmolcllaaGreat
namespace Rd
open _root_.Go.Proofs.YtkajcldmolcllaaGreat.Nm (bitsW)
open Bt (ubytes sb)
open Vt (VT)
open Ev (EV fieldsOf)

def rep {α : Type} (p : St → Option (St × α)) : Nat → St → Option (St × List α)
 | 0, s => some (s, [])
 | n + 1, s => match p s with
  | none => none
  | some (s1, t) => match rep p n s1 with
   | none => none
   | some (s2, ts) => some (s2, t :: ts)
end Rd
end Go.Proofs.YtkajcldmolcllaaGreat
namespace Go.Proofs.YtkajcldmolcllaaGreat
namespace Rd
open _root_.Go.Proofs.YtkajcldmolcllaaGreat.Nm (bitsW)
open Bt (ubytes sb)
open Vt (VT)
open Pf (fine_mk)

theorem bits0 : bitsW 0 = 0 := by decide
end Rd
end Go.Proofs.YtkajcldmolcllaaGreat
namespace Go.Proofs.YtkajcldmolcllaaGreat
namespace Rd
open _root_.Go.Proofs.YtkajcldmolcllaaGreat.Nm (bitsW ret_int ret_bool)
open Vt (VT Rep)
open Ev (EV FieldsOk evCells vCells ERep zeroT fieldsOf goodL pickB)
open Cm (has_field)

theorem rv1 (b : Bool) (id : Nat) : (!(b != ((id : Int) != 0))) = pickB b (decide (0 < id)) ((id : Int) == 0) := by
 by_cases h : id = 0
 ·subst h; cases b <;> rfl
 ·have h1 : ((id : Int) == 0) = false := beq_eq_false_iff_ne.2 (by omega)
  have h2 : ((id : Int) != 0) = true := by simp [bne, h1]
  rw [h1, h2, decide_eq_true (by omega)]
  cases b <;> rfl
theorem rv2 (b : Bool) (n : Int) : (!((b && (decide (n < 1) || decide (2147483647 < n))) || (!b && (n != 0)))) = pickB b (decide (1 ≤ n ∧ n ≤ 2147483647)) (n == 0) := by
 cases b with
 | true =>
  unfold pickB
  rw [if_pos rfl]
  by_cases h1 : n < 1
  ·rw [decide_eq_true h1, decide_eq_false (by omega : ¬ (1 ≤ n ∧ n ≤ 2147483647))]; rfl
  ·by_cases h2 : 2147483647 < n
   ·rw [decide_eq_false h1, decide_eq_true h2, decide_eq_false (by omega : ¬ (1 ≤ n ∧ n ≤ 2147483647))]; rfl
   ·rw [decide_eq_false h1, decide_eq_false h2, decide_eq_true (by omega : (1 ≤ n ∧ n ≤ 2147483647))]; rfl
 | false =>
  unfold pickB
  rw [if_neg (by simp)]
  simp [bne]
theorem rv3 (b : Bool) (a : Nat) : (!(decide ((9223372036854775807 : Int) < (a : Int)) || (!b && ((a : Int) != 0)))) = pickB b (decide (a ≤ 9223372036854775807)) ((a : Int) == 0) := by
 by_cases h : (9223372036854775807 : Int) < (a : Int)
 ·rw [decide_eq_true h, decide_eq_false (by omega : ¬ a ≤ 9223372036854775807), beq_eq_false_iff_ne.2 (by omega : (a : Int) ≠ 0)]
  cases b <;> rfl
 ·rw [decide_eq_false h, decide_eq_true (by omega : a ≤ 9223372036854775807)]
  cases b <;> simp [pickB, bne]
theorem size_empty {s : ByteArray} (h : s.toList.isEmpty = true) : s.size = 0 := by rw [Vf.toList_nil h]; rfl
theorem rv4 (b c : Bool) (s t : ByteArray) : (!((b != !s.toList.isEmpty) || decide ((1000 : Int) < (s.size : Int)) || decide ((1000 : Int) < (t.size : Int)) || (!c && !t.toList.isEmpty))) = (pickB b (!s.toList.isEmpty && decide (s.size ≤ 1000)) s.toList.isEmpty && pickB c (decide (t.size ≤ 1000)) t.toList.isEmpty) := by
 have e1 : ∀ x : ByteArray, decide ((1000 : Int) < (x.size : Int)) = !decide (x.size ≤ 1000) := fun x => by
  by_cases h : x.size ≤ 1000
  ·rw [decide_eq_true h, decide_eq_false (by omega)]; rfl
  ·rw [decide_eq_false h, decide_eq_true (by omega)]; rfl
 rw [e1, e1]
 have hs : s.toList.isEmpty = true → decide (s.size ≤ 1000) = true := fun h => decide_eq_true (by rw [size_empty h]; omega)
 have ht : t.toList.isEmpty = true → decide (t.size ≤ 1000) = true := fun h => decide_eq_true (by rw [size_empty h]; omega)
 revert hs ht
 generalize s.toList.isEmpty = E
 generalize t.toList.isEmpty = T
 generalize decide (s.size ≤ 1000) = x
 generalize decide (t.size ≤ 1000) = y
 unfold pickB
 revert b c E T x y
 decide
theorem rv5 (b : Bool) (v : VT) : (v.valid 8 && (b || (v.k == 0))) = pickB b (v.valid 8) (v.same zeroT) := by
 cases b with
 | true => unfold pickB; simp
 | false =>
  unfold pickB
  rw [if_neg (by simp), Bool.false_or, Bool.eq_iff_iff, Bool.and_eq_true, beq_iff_eq]
  obtain ⟨k, n, f, s, l⟩ := v
  constructor
  ·rintro ⟨h, rfl⟩
   rcases Pf.valid_cases h with ⟨-, rfl, h3, h4, rfl⟩ | ⟨h0, -⟩ | ⟨h0, -⟩ | ⟨h0, -⟩ | ⟨h0, -⟩
   ·obtain rfl := Pf.size_zero h4
    exact Pf.same_mk_of (by rw [h3, bits0]) rfl fun i hi => absurd hi (by simp)
   all_goals exact absurd h0 (by decide)
  ·intro h
   refine ⟨by rw [Vt.same_valid _ _ 8 h]; exact Vf.zero_val, ?_⟩
   exact ((Vt.same_iff ..).1 h).1
theorem rvalid_ev2 (e : EV) (h1 : 1 ≤ e.k) (h2 : e.k ≤ 11) (lo hi : Nat) (vk vn : Int) (vf : Nat) (vs : ByteArray) (A : Option Addr) (m c : Nat) (w : World) (hv : Rep w lo hi e.v (vCells vk vn vf vs A m c)) (hz : hi ≤ w.heap.size) :
  Calls Tryz.prog 30 #[.agg (evCells e vk vn vf vs A m c)] w fun r w' => r = .returned (.bool e.valid) ∧ Below w.heap.size w w' := by
 obtain ⟨k, id, n, at', name, text, v⟩ := e
 simp only at h1 h2 hv
 obtain ⟨k', rfl⟩ : ∃ k' : Nat, k = k' := ⟨k.toNat, by omega⟩
 have hvk : vk = v.k := by
  obtain ⟨kk, nn, ff, ss, ll⟩ := v
  obtain ⟨A', cap, heq, -⟩ := hv.head
  unfold vCells at heq
  injection heq with heq
  simp at heq
  exact heq.1
 have hf : ∀ cc q, (cc, q) ∈ [(105, 0), (110, 1), (97, 2), (115, 3), (116, 4), (118, 5)] → Hid (∀ W, Calls Tryz.prog 52 #[.int .i64 (k' : Nat), .int .u8 (cc : Nat)] W fun r w' => r = .returned (.bool ((fieldsOf k').contains q)) ∧ Below W.heap.size W w') := fun cc q hq => Lib.hid fun W => has_field k' (by omega) (by omega) cc q hq W
 have := rvalid_gen k' id n at' name text v lo hi vk vn vf vs A m c w hv hz (by omega) (by omega) ((fieldsOf k').contains 0) ((fieldsOf k').contains 1) ((fieldsOf k').contains 2) ((fieldsOf k').contains 3) ((fieldsOf k').contains 4) ((fieldsOf k').contains 5)
  _ _ _ _ _ _ _ _ _ _ _ rfl rfl rfl rfl rfl rfl rfl rfl rfl rfl rfl _ _ _ _ rfl rfl rfl rfl (hf 105 0 (by simp)) (hf 110 1 (by simp)) (hf 97 2 (by simp)) (hf 115 3 (by simp)) (hf 116 4 (by simp)) (hf 118 5 (by simp))
 refine this.mono fun r w' h => ⟨?_, h.2⟩
 rw [h.1]
 congr 2
 unfold EV.valid goodL
 simp only [Int.toNat_natCast, List.all_cons, List.all_nil, Bool.and_true]
 rw [decide_eq_true (show (1 : Int) ≤ (k' : Int) ∧ (k' : Int) ≤ 11 from ⟨h1, h2⟩), Bool.true_and, rv1, rv2, rv3, rv4, hvk, rv5]
 simp only [Bool.and_assoc]
end Rd
end Go.Proofs.YtkajcldmolcllaaGreat
namespace Go.Proofs.YtkajcldmolcllaaGreat
namespace Rd
open _root_.Go.Proofs.YtkajcldmolcllaaGreat.Nm (bitsW ret_int ret_bool)
open Vt (VT Rep BoxAt below_drew)
open Ev (EV FieldsOk evCells vCells EBox ERep zeroT take_drop tk ap cons_drop)
open Cm (rowOf EvsIn)
open Cn (BB wrongE)

set_option maxRecDepth 100000 in
theorem rvalid_out (k : Int) (hk : k < 1 ∨ 11 < k) (id : Nat) (n : Int) (at' : Nat) (name text : ByteArray) (vk vn : Int) (vf : Nat) (vs : ByteArray) (A : Option Addr) (m c : Nat) (w : World) :
  Calls Tryz.prog 30 #[.agg #[.int .i64 k, .int .u64 (id : Nat), .int .i64 n, .int .u64 (at' : Nat), .string name, .string text, .int .i64 vk, .int .i64 vn, .float .f64 vf, .string vs, .slice A m c]] w fun r w' => r = .returned (.bool false) ∧ Below w.heap.size w w' := by
 obtain ⟨W0, hW0⟩ : ∃ W0, W0 = w.alloc (.cells #[.int .i64 k, .int .u64 (id : Nat), .int .i64 n, .int .u64 (at' : Nat), .string name, .string text, .int .i64 vk, .int .i64 vn, .float .f64 vf, .string vs, .slice A m c] 53) := ⟨_, rfl⟩
 have HB0 : Hid (Below w.heap.size w W0) := Lib.hid (by rw [hW0]; exact (Below.refl _ _).alloc (Nat.le_refl _) _)
 have hbx : EBox W0 w.heap.size #[.int .i64 k, .int .u64 (id : Nat), .int .i64 n, .int .u64 (at' : Nat), .string name, .string text, .int .i64 vk, .int .i64 vn, .float .f64 vf, .string vs, .slice A m c] := by rw [hW0]; exact heap_alloc_new w _
 have HS : Hid (∀ W' : World, Below W0.heap.size W0 W' → W'.cell? ⟨w.heap.size, 0, none⟩ = some (.int .i64 k)) := Lib.hid fun W hW => by
  obtain ⟨c0, -⟩ := EBox.cells (hbx.later hW (by rw [hW0]; simp))
  exact c0
 clear hbx
 replace hW0 := Lib.hid hW0
 go_enter Tryz.func30, Tryz.ntmps30
 go_upto_region 1 with fail
 rw [← hW0.out]
 by_cases h1 : k < 1
 ·have g1 : decide (k < 1) = true := decide_eq_true h1
  clear hk
  refine wp_region_noPanic ?_
  refine wp_region_held_drew (S := (fun W' : World => W'.cell? ⟨w.heap.size, 0, none⟩ = some (.int .i64 k))) (by kernel_rfl) ?_ (fun hHeld => ?_)
  ·exact HS.out _ (below_drew (Below.refl _ _))
  refine tk 0 rfl ?_
  try simp only [ap]
  refine tk 1 rfl ?_
  try simp only [ap]
  refine tk 2 rfl ?_
  try simp only [ap]
  refine tk 3 rfl ?_
  try simp only [ap]
  refine tk 4 rfl ?_
  try simp only [ap]
  refine tk 5 rfl ?_
  try simp only [ap]
  refine tk 6 rfl ?_
  try simp only [ap]
  refine tk 7 rfl ?_
  try simp only [ap]
  refine tk 8 rfl ?_
  try simp only [ap]
  refine tk 9 rfl ?_
  try simp only [ap]
  refine tk 10 rfl ?_
  try simp only [ap]
  refine tk 11 rfl ?_
  try simp only [ap]
  refine tk 12 rfl ?_
  try simp only [ap]
  refine tk 13 rfl ?_
  try simp only [ap]
  refine tk 14 rfl ?_
  try simp only [ap]
  refine tk 15 rfl ?_
  try simp only [ap]
  refine tk 16 rfl ?_
  try simp only [ap]
  refine wpAnyH_done (by kernel_rfl) ?_ _
  refine NoPanic.normal ?_
  go_wp2_with fail
  go_ret
  exact ⟨rfl, below_drew HB0.out⟩
 ·have g1 : decide (k < 1) = false := decide_eq_false h1
  have g2 : decide (11 < k) = true := decide_eq_true (by omega)
  clear hk
  refine wp_region_noPanic ?_
  refine wp_region_held_drew (S := (fun W' : World => W'.cell? ⟨w.heap.size, 0, none⟩ = some (.int .i64 k))) (by kernel_rfl) ?_ (fun hHeld => ?_)
  ·exact HS.out _ (below_drew (Below.refl _ _))
  refine tk 0 rfl ?_
  try simp only [ap]
  refine tk 1 rfl ?_
  try simp only [ap]
  refine tk 2 rfl ?_
  try simp only [ap]
  refine tk 3 rfl ?_
  try simp only [ap]
  refine tk 4 rfl ?_
  try simp only [ap]
  refine tk 5 rfl ?_
  try simp only [ap]
  refine tk 6 rfl ?_
  try simp only [ap]
  refine tk 7 rfl ?_
  try simp only [ap]
  refine tk 8 rfl ?_
  try simp only [ap]
  refine tk 9 rfl ?_
  try simp only [ap]
  refine tk 10 rfl ?_
  try simp only [ap]
  refine tk 11 rfl ?_
  try simp only [ap]
  refine tk 12 rfl ?_
  try simp only [ap]
  refine tk 13 rfl ?_
  try simp only [ap]
  refine tk 14 rfl ?_
  try simp only [ap]
  refine tk 15 rfl ?_
  try simp only [ap]
  refine tk 16 rfl ?_
  try simp only [ap]
  refine wpAnyH_done (by kernel_rfl) ?_ _
  refine NoPanic.normal ?_
  go_wp2_with fail
  go_ret
  exact ⟨rfl, below_drew HB0.out⟩

theorem valid_out (e : EV) (h : ¬ (1 ≤ e.k ∧ e.k ≤ 11)) : e.valid = false := by unfold EV.valid; rw [decide_eq_false h]; rfl
theorem rvalid_all (e : EV) (lo hi : Nat) (vk vn : Int) (vf : Nat) (vs : ByteArray) (A : Option Addr) (m c : Nat) (w : World) (hv : Rep w lo hi e.v (vCells vk vn vf vs A m c)) (hz : hi ≤ w.heap.size) :
  Calls Tryz.prog 30 #[.agg (evCells e vk vn vf vs A m c)] w fun r w' => r = .returned (.bool e.valid) ∧ Below w.heap.size w w' := by
 by_cases hk : 1 ≤ e.k ∧ e.k ≤ 11
 ·exact rvalid_ev2 e hk.1 hk.2 lo hi vk vn vf vs A m c w hv hz
 ·rw [valid_out e hk]
  exact rvalid_out e.k (by omega) e.id e.n e.at' e.name e.text vk vn vf vs A m c w

theorem any_take (es : List EV) (j : Nat) (h : j < es.length) : (es.take (j + 1)).any wrongE = ((es.take j).any wrongE || wrongE es[j]) := by
 rw [List.take_succ_eq_append_getElem h, List.any_append]; simp
theorem any_at (es : List EV) (j : Nat) (h : j < es.length) (hw : wrongE es[j] = true) : es.any wrongE = true := List.any_eq_true.2 ⟨_, List.getElem_mem h, hw⟩

end Rd
end Go.Proofs.YtkajcldmolcllaaGreat
