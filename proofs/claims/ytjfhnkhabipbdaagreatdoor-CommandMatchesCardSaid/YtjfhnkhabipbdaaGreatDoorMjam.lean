/- value.form and value.Bytes of a value of kind 0. -/
/- bin.Int of any number; the forms of a number with a sign, of a text, of a float. -/
/- value.form of a value whose kind's bytes are known; a list's bytes; value.Bytes of any valid value that is small. -/
/- event.Bytes of a valid event whose value's bytes are known. -/
/- Bytes read as a string. -/
/- Texts: value.Text of kinds 0 and 3, quoted, small numbers. -/
/- Forms of events: event.Bytes of any valid small event; no form is the beginning of another. -/
/- batch.Bytes: rows of byte slices; the walk. -/
/- batch.Bytes: the walk. -/
/- slices.Equal of bytes; clockworklaw13's alive. -/
/- A reader in memory; the small methods of bin.Reader. -/
/- bin.Reader's peek. -/
/- bin.Reader's Uint, Int, Take, Bytes, Text as pure steps. -/
/- bin.Reader's Int. -/
/- Values and events that are read, as pure steps. No program in sight. -/
/- What is read is a form: values. No program in sight. -/
/- The reference's Valid answers as the program's of any event of a kind from 1 to 11. -/
/- The reference's Valid of any event, and of any batch. -/
/- Small events, bytes that are equal, the form of an invalid event. -/
import Derived.Test.YtjfhnkhabipbdaaGreatDoorMjal
import Derived.Test.YtjfhnkhabipbdaaGreatDoorMjad
import Derived.Test.YtjfhnkhabipbdaaGreatDoorMjag
import Derived.Deep.RegionWith
import Derived.Deep.CutRange
import Derived.Laws.EntriesVeiled
import Derived.StillTailTactics
import Derived.Laws.Bits64
import Derived.Lib.BufferRead
import Derived.Lib.AtoiErrMem
import Derived.Test.YtjfhnkhabipbdaaGreatDoorMjai
import Derived.BigQuiet
import Derived.Test.YtjfhnkhabipbdaaGreatDoorMjah
import Derived.Test.YtjfhnkhabipbdaaGreatDoorMjaf
import Derived.Laws.BitsAllLaws
import Derived.Test.YtjfhnkhabipbdaaGreatDoorMjab
import Derived.Test.YtjfhnkhabipbdaaGreatDoorMjak
namespace Go.Proofs.YtjfhnkhabipbdaaGreatDoor
open Go.RowKit
set_option linter.unusedVariables false
namespace Bt
open _root_.Go.Proofs.YtjfhnkhabipbdaaGreatDoor.Nm (ret_int ret_bool)
open Vt (VT Rep BoxAt below_drew)
open Ev (take_drop tk cons_drop)

theorem step_append_bytes {ops : Array Oper} {o : Oper} {a : Act} {K : Act → World → Prop} {Q : Exit → Act → World → Prop} {E : Prop} (W : World) (hgd : o.guard = none) (s x : Operand)
    (ho : o.op = .call { callee := .builtin .append, args := #[s, x], argTypes := #[79, 79] }) (base : Nat) (v src : Value) (l m : List Nat) (hv : a.eval s = v) (hx : a.eval x = src) (hown : BOwn W base v l) (hs : BIn W src m) (hlen : l.length + m.length ≤ 35184372088832) (hbase : base ≤ W.heap.size)
    (h : ∀ v' W', BOwn W' base v' (l ++ m) → W.grownBy W' v.ownBlock → Below base W W' → K (a.put o.dst v') W') : if Region.wanted o (yielded ops a.tmps) = true then Oper.wp Tryz.prog o a W K Q else E := by
  have hw : Region.wanted o (yielded ops a.tmps) = true := by simp [Region.wanted, hgd]
  rw [if_pos hw]
  obtain ⟨v', W', hr, h1, h2⟩ := run_append_bytes o.type hown hs hlen hbase
  exact Lib.wp_append_run W s x _ _ ho v src hv hx v' W' hr (h v' W' h1 h2 ((Below.refl base W).grown h2 hbase hown.row_ge))

end Bt
end Go.Proofs.YtjfhnkhabipbdaaGreatDoor
namespace Go.Proofs.YtjfhnkhabipbdaaGreatDoor
open Go.RowKit
set_option linter.unusedVariables false
set_option linter.unusedSimpArgs false
namespace Vf
open _root_.Go.Proofs.YtjfhnkhabipbdaaGreatDoor.Nm (bitsW bits_any ret_int ret_bool)
open Bt (BOwn BIn sb wpList_append_bytes bv)

open Vt (VT Rep BoxAt below_drew KidsAt HeadOk)

/-- What a kind's method leaves. -/
def KB (w : World) (l : List Nat) (r : Ending) (w' : World) : Prop := ∃ v, r = .returned v ∧ BOwn w' w.heap.size v l ∧ Below w.heap.size w w'

/-- One byte in a block of its own. -/
theorem one_byte (w : World) (x : Int) (b : Nat) (hx : x = (b : Int)) : BIn (w.alloc (.cells #[.int .u8 x] 5)) (.slice (some ⟨w.heap.size, 0, none⟩) 1 1) [b] := by
  subst hx
  refine .inr ⟨⟨w.heap.size, 0, none⟩, 1, rfl, by simp, by simp only [maxLen]; omega, by simp, fun j u hu => ?_⟩
  have hj : j = 0 := by have := (List.getElem?_eq_some_iff.1 hu).1; simp at this; omega
  subst hj
  simp [bv] at hu
  subst hu
  have e := heap_alloc_new w (.cells #[.int .u8 (b : Int)] 5)
  rw [Go.WideShapes.add_plain]
  simp only [World.cell?, e]
  rfl

end Vf
end Go.Proofs.YtjfhnkhabipbdaaGreatDoor
namespace Go.Proofs.YtjfhnkhabipbdaaGreatDoor
open Go.RowKit
set_option linter.unusedVariables false
set_option linter.unusedSimpArgs false
namespace Vf
open _root_.Go.Proofs.YtjfhnkhabipbdaaGreatDoor.Nm (bitsW bits_any ret_int ret_bool)
open Bt (BOwn BIn sb wpList_append_bytes step_append_bytes bv)

open Vt (VT Rep BoxAt below_drew KidsAt HeadOk kindV of_any)
open Ev (take_drop tk cons_drop)

end Vf
end Go.Proofs.YtjfhnkhabipbdaaGreatDoor
namespace Go.Proofs.YtjfhnkhabipbdaaGreatDoor
open Go.RowKit
set_option linter.unusedVariables false
namespace Bt
open _root_.Go.Proofs.YtjfhnkhabipbdaaGreatDoor.Nm (ret_int ret_bool)
open Vt (VT Rep BoxAt below_drew)
open Ev (take_drop tk cons_drop EBox six_cells six_row RowAt ix0 ix1 ix2 ix3 ix4 ix5)

theorem six_ge {B g : Nat} {w w' : World} (h : Below B w w') (hg : B ≤ g) (a b c d e f : Value) :
    Below B w ((((((w'.setCell ⟨g, 0, none⟩ a).setCell ⟨g, 1, none⟩ b).setCell ⟨g, 2, none⟩ c).setCell ⟨g, 3, none⟩ d).setCell ⟨g, 4, none⟩ e).setCell ⟨g, 5, none⟩ f) :=
  (((((h.setCell (p := ⟨g, 0, none⟩) hg _).setCell (p := ⟨g, 1, none⟩) hg _).setCell (p := ⟨g, 2, none⟩) hg _).setCell (p := ⟨g, 3, none⟩) hg _).setCell (p := ⟨g, 4, none⟩) hg _).setCell (p := ⟨g, 5, none⟩) hg _

end Bt
end Go.Proofs.YtjfhnkhabipbdaaGreatDoor
namespace Go.Proofs.YtjfhnkhabipbdaaGreatDoor
open Go.RowKit
set_option linter.unusedVariables false
namespace Bt
open _root_.Go.Proofs.YtjfhnkhabipbdaaGreatDoor.Nm (ret_int ret_bool)
open Vt (VT Rep BoxAt below_drew)
open Ev (take_drop tk cons_drop)

/-- Bytes read as a string. -/
theorem BIn.toText {w : World} {v : Value} {l : List Nat} (h : BIn w v l) (hb : ∀ b ∈ l, b < 256) : (convert 79 9 v).run Tryz.prog w = .ok (.string ⟨(l.map UInt8.ofNat).toArray⟩) w := by
  rcases h with ⟨rfl, rfl⟩ | ⟨ad, cap, rfl, h2, h3, h4, h5⟩
  · exact Lib.run_convert_nil_bytes w _ _ 5 0 Tryz.underlying79 Tryz.underlying5 Tryz.underlying9
  · have := run_convert_bytes_back (P := Tryz.prog) w 79 9 5 ad cap (l.map UInt8.ofNat) Tryz.underlying79 Tryz.underlying5 Tryz.underlying9 (fun j hj => by
      have hj' : j < l.length := by simpa using hj
      have h6 := h5 j (bv l[j]) (by simp [hj'])
      rw [h6]
      have h7 : l[j] < 256 := hb _ (List.getElem_mem hj')
      simp only [bv, List.getElem_map, UInt8.toNat_ofNat']
      rw [Nat.mod_eq_of_lt (by omega)])
    rw [List.length_map] at this
    exact this

end Bt
end Go.Proofs.YtjfhnkhabipbdaaGreatDoor
namespace Go.Proofs.YtjfhnkhabipbdaaGreatDoor
open Go.RowKit
set_option linter.unusedVariables false
namespace Bt
open _root_.Go.Proofs.YtjfhnkhabipbdaaGreatDoor.Nm (ret_int ret_bool)
open Vt (VT Rep BoxAt below_drew)
open Ev (take_drop tk cons_drop)

theorem none_text (vn : Int) (vf : Nat) (vs : ByteArray) (A : Option Addr) (m c k : Nat) (w : World) :
    Calls Tryz.prog 136 #[.agg #[], .agg #[.int .i64 k, .int .i64 vn, .float .f64 vf, .string vs, .slice A m c]] w fun e w' => e = .returned (.string ⟨#[110, 105, 108]⟩) ∧ Below w.heap.size w w' := by
  go_enter Tryz.func136, Tryz.ntmps136
  go_wp2_with fail
  go_ret
  exact ⟨rfl, ((Below.refl _ _).alloc (Nat.le_refl _) _).alloc (by simp) _⟩

end Bt
end Go.Proofs.YtjfhnkhabipbdaaGreatDoor
namespace Go.Proofs.YtjfhnkhabipbdaaGreatDoor
open Go.RowKit
set_option linter.unusedVariables false
set_option linter.unusedSimpArgs false
namespace Vf
open _root_.Go.Proofs.YtjfhnkhabipbdaaGreatDoor.Nm (bitsW ret_int ret_bool)
open Bt (BOwn BIn sb)
open Pf (size_zero)
open Vt (VT Rep BoxAt below_drew KidsAt HeadOk)
open Ev (EV FieldsOk evCells vCells EBox ERep zeroT fieldsOf nameOf of_in evalid_any goodL pickB)
open Cm (evSame)

/-- Which fields an event's kind has. -/
def hasF (e : EV) (j : Nat) : Bool := (fieldsOf e.k.toNat).contains j
/-- What is valid. -/
structure VE (e : EV) : Prop where
  k1 : 1 ≤ e.k
  k2 : e.k ≤ 11
  i0 : hasF e 0 = false → e.id = 0
  i1 : hasF e 0 = true → 0 < e.id
  n0 : hasF e 1 = false → e.n = 0
  n1 : 0 ≤ e.n
  n2 : e.n ≤ 2147483647
  n3 : hasF e 1 = true → 1 ≤ e.n
  a0 : hasF e 2 = false → e.at' = 0
  a1 : e.at' ≤ 9223372036854775807
  s0 : hasF e 3 = false → e.name = ⟨#[]⟩
  s1 : e.name.size ≤ 1000
  s2 : hasF e 3 = true → e.name.toList.isEmpty = false
  t0 : hasF e 4 = false → e.text = ⟨#[]⟩
  t1 : e.text.size ≤ 1000
  v0 : hasF e 5 = false → e.v.same zeroT = true
  v1 : e.v.valid 8 = true

theorem toList_nil {s : ByteArray} (h : s.toList.isEmpty = true) : s = ⟨#[]⟩ := by
  rw [Vt.toList_data] at h
  cases s with | mk d => simp at h; rw [h]
theorem zero_val : zeroT.valid 8 = true := by unfold zeroT; rw [Vt.valid_mk]; simp; decide
theorem ve_of {e : EV} (h : e.valid = true) : VE e := by
  unfold EV.valid goodL at h
  simp only [Bool.and_eq_true, decide_eq_true_iff, List.all_cons, List.all_nil, Bool.and_true] at h
  obtain ⟨⟨k1, k2⟩, h0, h1, h2, h3, h4, h5⟩ := h
  have pick : ∀ {b f z : Bool}, pickB b f z = true → (b = true → f = true) ∧ (b = false → z = true) := fun {b f z} hh => by
    unfold pickB at hh
    cases b with
    | true => rw [if_pos rfl] at hh; exact ⟨fun _ => hh, fun h => Bool.noConfusion h⟩
    | false => rw [if_neg (by simp)] at hh; exact ⟨fun h => Bool.noConfusion h, fun _ => hh⟩
  obtain ⟨p0, q0⟩ := pick h0
  obtain ⟨p1, q1⟩ := pick h1
  obtain ⟨p2, q2⟩ := pick h2
  obtain ⟨p3, q3⟩ := pick h3
  obtain ⟨p4, q4⟩ := pick h4
  obtain ⟨p5, q5⟩ := pick h5
  have e1 : ∀ b : Bool, b = true ∨ b = false := fun b => by cases b <;> simp
  have fn : ∀ h : hasF e 1 = false, e.n = 0 := fun h => by have := q1 h; simpa using this
  have tn : ∀ h : hasF e 1 = true, 1 ≤ e.n ∧ e.n ≤ 2147483647 := fun h => by have := p1 h; simpa using this
  have fs : ∀ h : hasF e 3 = false, e.name = ⟨#[]⟩ := fun h => toList_nil (q3 h)
  have ts : ∀ h : hasF e 3 = true, e.name.toList.isEmpty = false ∧ e.name.size ≤ 1000 := fun h => by
    have := p3 h
    simp only [Bool.and_eq_true, Bool.not_eq_true', decide_eq_true_iff] at this
    exact this
  have ft : ∀ h : hasF e 4 = false, e.text = ⟨#[]⟩ := fun h => toList_nil (q4 h)
  refine ⟨k1, k2, fun h => by have := q0 h; simpa using this, fun h => by have := p0 h; simpa using this, fn, ?_, ?_, fun h => (tn h).1, fun h => by have := q2 h; simpa using this, ?_, fs, ?_, fun h => (ts h).1, ft, ?_, fun h => q5 h, ?_⟩
  · rcases e1 (hasF e 1) with h | h
    · have := tn h; omega
    · rw [fn h]; omega
  · rcases e1 (hasF e 1) with h | h
    · exact (tn h).2
    · rw [fn h]; omega
  · rcases e1 (hasF e 2) with h | h
    · have := p2 h; simpa using this
    · have : e.at' = 0 := by have := q2 h; simpa using this
      omega
  · rcases e1 (hasF e 3) with h | h
    · exact (ts h).2
    · rw [fs h]; decide
  · rcases e1 (hasF e 4) with h | h
    · have := p4 h; simpa using this
    · rw [ft h]; decide
  · rcases e1 (hasF e 5) with h | h
    · exact p5 h
    · rw [Vt.same_valid e.v zeroT 8 (q5 h)]; exact zero_val

theorem evSame_parts {a b : EV} (h : evSame a b = true) : a.k = b.k ∧ a.id = b.id ∧ a.n = b.n ∧ a.at' = b.at' ∧ a.name = b.name ∧ a.text = b.text ∧ a.v.same b.v = true := by
  simp only [evSame, Bool.and_eq_true, beq_iff_eq, decide_eq_true_iff] at h
  obtain ⟨⟨⟨⟨⟨⟨h1, h2⟩, h3⟩, h4⟩, h5⟩, h6⟩, h7⟩ := h
  exact ⟨h1, h2, h3, h4, h5, h6, h7⟩
end Vf
end Go.Proofs.YtjfhnkhabipbdaaGreatDoor
namespace Go.Proofs.YtjfhnkhabipbdaaGreatDoor
open Go.RowKit
set_option linter.unusedVariables false
set_option linter.unusedSimpArgs false
namespace Cn
open _root_.Go.Proofs.YtjfhnkhabipbdaaGreatDoor.Nm (bitsW ret_int ret_bool)
open Vt (VT Rep BoxAt below_drew Cloned put5 KidsAt HeadOk)
open Ev (EV FieldsOk evCells vCells EBox ERep zeroT take_drop tk cons_drop)
open Cm (rowOf EvsIn EvsAt EvNew evSame)
open Bt (BOwn BIn PIn sb bv)

theorem Tryz.infoY : (Tryz.prog.info? 79).map (fun i => (i.zero, i.size, i.bytes)) = some (some (.slice none 0 0), 1, 24) := by kernel_rfl

end Cn
end Go.Proofs.YtjfhnkhabipbdaaGreatDoor
namespace Go.Proofs.YtjfhnkhabipbdaaGreatDoor
open Go.RowKit
set_option linter.unusedVariables false
set_option linter.unusedSimpArgs false
namespace Cn
open _root_.Go.Proofs.YtjfhnkhabipbdaaGreatDoor.Nm (bitsW ret_int ret_bool)
open Vt (VT Rep BoxAt below_drew Cloned put5 KidsAt HeadOk)
open Ev (EV FieldsOk evCells vCells EBox ERep zeroT take_drop tk cons_drop)
open Cm (rowOf EvsIn EvsAt EvNew evSame)
open Bt (BOwn BIn PIn sb bv)

end Cn
end Go.Proofs.YtjfhnkhabipbdaaGreatDoor
namespace Go.Proofs.YtjfhnkhabipbdaaGreatDoor
open Go.RowKit
set_option linter.unusedVariables false
set_option linter.unusedSimpArgs false
namespace Cn
open _root_.Go.Proofs.YtjfhnkhabipbdaaGreatDoor.Nm (bitsW ret_int ret_bool)
open Vt (VT Rep BoxAt below_drew Cloned put5 KidsAt HeadOk)
open Ev (EV FieldsOk evCells vCells EBox ERep zeroT take_drop tk cons_drop nameOf fieldsOf of_in evalid_any)
open Cm (rowOf EvsIn EvsAt EvNew evSame)
open Bt (BOwn BIn PIn sb bv)

/-- Bytes that are read by their places. -/
def BRd (w : World) (v : Value) (l : List Nat) : Prop := (v = .slice none 0 0 ∧ l = []) ∨ ∃ b off cap, v = .slice (some ⟨b, off, none⟩) l.length cap ∧ l.length ≤ cap ∧ cap ≤ maxLen ∧ b < w.heap.size ∧ ∀ j (h : j < l.length), w.cell? ⟨b, off + j, none⟩ = some (.int .u8 (l[j] : Nat))
theorem BRd.later {w w' : World} {v : Value} {l : List Nat} (h : BRd w v l) (hb : Below w.heap.size w w') : BRd w' v l := by
  rcases h with h | ⟨b, off, cap, h1, h2, h3, h4, h5⟩
  · exact .inl h
  · exact .inr ⟨b, off, cap, h1, h2, h3, Nat.lt_of_lt_of_le h4 hb.size, fun j hj => (hb.cell (p := ⟨b, off + j, none⟩) h4).trans (h5 j hj)⟩
def e5 : EV := ⟨5, 5, 0, 0, ⟨#[]⟩, ⟨#[]⟩, zeroT⟩
end Cn
end Go.Proofs.YtjfhnkhabipbdaaGreatDoor
namespace Go.Proofs.YtjfhnkhabipbdaaGreatDoor
open Go.RowKit
set_option linter.unusedVariables false
set_option linter.unusedSimpArgs false
namespace Rd
open _root_.Go.Proofs.YtjfhnkhabipbdaaGreatDoor.Nm (ret_int ret_bool)
open Vt (below_drew)
open Bt (BOwn BIn bv run_append_bytes)
open Cn (BRd)
open Cm (OnlyAt)

end Rd
end Go.Proofs.YtjfhnkhabipbdaaGreatDoor
namespace Go.Proofs.YtjfhnkhabipbdaaGreatDoor
open Go.RowKit
set_option linter.unusedVariables false
set_option linter.unusedSimpArgs false
namespace Rd
open _root_.Go.Proofs.YtjfhnkhabipbdaaGreatDoor.Nm (ret_int ret_bool)
open Vt (below_drew)
open Ev (take_drop tk cons_drop)
open Bt (BOwn BIn bv)
open Cn (BRd)
open Cm (OnlyAt)

end Rd
end Go.Proofs.YtjfhnkhabipbdaaGreatDoor
namespace Go.Proofs.YtjfhnkhabipbdaaGreatDoor
open Go.RowKit
set_option linter.unusedVariables false
set_option linter.unusedSimpArgs false
namespace Rd
open _root_.Go.Proofs.YtjfhnkhabipbdaaGreatDoor.Nm (ret_int ret_bool)
open Vt (below_drew)
open Bt (BOwn BIn bv sb)
open Cn (BRd)
open Cm (OnlyAt)

end Rd
end Go.Proofs.YtjfhnkhabipbdaaGreatDoor
namespace Go.Proofs.YtjfhnkhabipbdaaGreatDoor
open Go.RowKit
set_option linter.unusedVariables false
set_option linter.unusedSimpArgs false
namespace Rd
open _root_.Go.Proofs.YtjfhnkhabipbdaaGreatDoor.Nm (ret_int ret_bool)
open Cm (OnlyAt)

end Rd
end Go.Proofs.YtjfhnkhabipbdaaGreatDoor
namespace Go.Proofs.YtjfhnkhabipbdaaGreatDoor
open Go.RowKit
set_option linter.unusedVariables false
set_option linter.unusedSimpArgs false
namespace Rd
open _root_.Go.Proofs.YtjfhnkhabipbdaaGreatDoor.Nm (bitsW)
open Bt (sb)
open Vt (VT)
open Ev (EV fieldsOf)

end Rd
end Go.Proofs.YtjfhnkhabipbdaaGreatDoor
namespace Go.Proofs.YtjfhnkhabipbdaaGreatDoor
open Go.RowKit
set_option linter.unusedVariables false
set_option linter.unusedSimpArgs false
namespace Rd
open _root_.Go.Proofs.YtjfhnkhabipbdaaGreatDoor.Nm (bitsW)
open Bt (sb sb_len)
open Vt (VT)
open Pf (fine_mk)

theorem bits0 : bitsW 0 = 0 := by decide
end Rd
end Go.Proofs.YtjfhnkhabipbdaaGreatDoor
namespace Go.Proofs.YtjfhnkhabipbdaaGreatDoor
open Go.RowKit
set_option linter.unusedVariables false
set_option linter.unusedSimpArgs false
namespace Rd
open _root_.Go.Proofs.YtjfhnkhabipbdaaGreatDoor.Nm (bitsW ret_int ret_bool)
open Vt (VT Rep)
open Ev (EV FieldsOk evCells vCells ERep zeroT fieldsOf goodL pickB)
open Cm (has_field)

theorem rv1 (b : Bool) (id : Nat) : (!(b != ((id : Int) != 0))) = pickB b (decide (0 < id)) ((id : Int) == 0) := by
  by_cases h : id = 0
  · subst h; cases b <;> rfl
  · have h1 : ((id : Int) == 0) = false := beq_eq_false_iff_ne.2 (by omega)
    have h2 : ((id : Int) != 0) = true := by simp [bne, h1]
    rw [h1, h2, decide_eq_true (by omega)]
    cases b <;> rfl
theorem rv2 (b : Bool) (n : Int) : (!((b && (decide (n < 1) || decide (2147483647 < n))) || (!b && (n != 0)))) = pickB b (decide (1 ≤ n ∧ n ≤ 2147483647)) (n == 0) := by
  cases b with
  | true =>
    unfold pickB
    rw [if_pos rfl]
    by_cases h1 : n < 1
    · rw [decide_eq_true h1, decide_eq_false (by omega : ¬ (1 ≤ n ∧ n ≤ 2147483647))]; rfl
    · by_cases h2 : 2147483647 < n
      · rw [decide_eq_false h1, decide_eq_true h2, decide_eq_false (by omega : ¬ (1 ≤ n ∧ n ≤ 2147483647))]; rfl
      · rw [decide_eq_false h1, decide_eq_false h2, decide_eq_true (by omega : (1 ≤ n ∧ n ≤ 2147483647))]; rfl
  | false =>
    unfold pickB
    rw [if_neg (by simp)]
    simp [bne]
theorem rv3 (b : Bool) (a : Nat) : (!(decide ((9223372036854775807 : Int) < (a : Int)) || (!b && ((a : Int) != 0)))) = pickB b (decide (a ≤ 9223372036854775807)) ((a : Int) == 0) := by
  by_cases h : (9223372036854775807 : Int) < (a : Int)
  · rw [decide_eq_true h, decide_eq_false (by omega : ¬ a ≤ 9223372036854775807), beq_eq_false_iff_ne.2 (by omega : (a : Int) ≠ 0)]
    cases b <;> rfl
  · rw [decide_eq_false h, decide_eq_true (by omega : a ≤ 9223372036854775807)]
    cases b <;> simp [pickB, bne]
theorem size_empty {s : ByteArray} (h : s.toList.isEmpty = true) : s.size = 0 := by rw [Vf.toList_nil h]; rfl
theorem rv4 (b c : Bool) (s t : ByteArray) : (!((b != !s.toList.isEmpty) || decide ((1000 : Int) < (s.size : Int)) || decide ((1000 : Int) < (t.size : Int)) || (!c && !t.toList.isEmpty))) = (pickB b (!s.toList.isEmpty && decide (s.size ≤ 1000)) s.toList.isEmpty && pickB c (decide (t.size ≤ 1000)) t.toList.isEmpty) := by
  have e1 : ∀ x : ByteArray, decide ((1000 : Int) < (x.size : Int)) = !decide (x.size ≤ 1000) := fun x => by
    by_cases h : x.size ≤ 1000
    · rw [decide_eq_true h, decide_eq_false (by omega)]; rfl
    · rw [decide_eq_false h, decide_eq_true (by omega)]; rfl
  rw [e1, e1]
  have hs : s.toList.isEmpty = true → decide (s.size ≤ 1000) = true := fun h => decide_eq_true (by rw [size_empty h]; omega)
  have ht : t.toList.isEmpty = true → decide (t.size ≤ 1000) = true := fun h => decide_eq_true (by rw [size_empty h]; omega)
  revert hs ht
  generalize s.toList.isEmpty = E
  generalize t.toList.isEmpty = T
  generalize decide (s.size ≤ 1000) = x
  generalize decide (t.size ≤ 1000) = y
  unfold pickB
  revert b c E T x y
  decide
theorem rv5 (b : Bool) (v : VT) : (v.valid 8 && (b || (v.k == 0))) = pickB b (v.valid 8) (v.same zeroT) := by
  cases b with
  | true => unfold pickB; simp
  | false =>
    unfold pickB
    rw [if_neg (by simp), Bool.false_or, Bool.eq_iff_iff, Bool.and_eq_true, beq_iff_eq]
    obtain ⟨k, n, f, s, l⟩ := v
    constructor
    · rintro ⟨h, rfl⟩
      rcases Pf.valid_cases h with ⟨-, rfl, h3, h4, rfl⟩ | ⟨h0, -⟩ | ⟨h0, -⟩ | ⟨h0, -⟩ | ⟨h0, -⟩
      · obtain rfl := Pf.size_zero h4
        exact Pf.same_mk_of (by rw [h3, bits0]) rfl fun i hi => absurd hi (by simp)
      all_goals exact absurd h0 (by decide)
    · intro h
      refine ⟨by rw [Vt.same_valid _ _ 8 h]; exact Vf.zero_val, ?_⟩
      exact ((Vt.same_iff ..).1 h).1
theorem rvalid_ev2 (e : EV) (h1 : 1 ≤ e.k) (h2 : e.k ≤ 11) (lo hi : Nat) (vk vn : Int) (vf : Nat) (vs : ByteArray) (A : Option Addr) (m c : Nat) (w : World) (hv : Rep w lo hi e.v (vCells vk vn vf vs A m c)) (hz : hi ≤ w.heap.size) :
    Calls Tryz.prog 31 #[.agg (evCells e vk vn vf vs A m c)] w fun r w' => r = .returned (.bool e.valid) ∧ Below w.heap.size w w' := by
  obtain ⟨k, id, n, at', name, text, v⟩ := e
  simp only at h1 h2 hv
  obtain ⟨k', rfl⟩ : ∃ k' : Nat, k = k' := ⟨k.toNat, by omega⟩
  have hvk : vk = v.k := by
    obtain ⟨kk, nn, ff, ss, ll⟩ := v
    obtain ⟨A', cap, heq, -⟩ := hv.head
    unfold vCells at heq
    injection heq with heq
    simp at heq
    exact heq.1
  have hf : ∀ cc q, (cc, q) ∈ [(105, 0), (110, 1), (97, 2), (115, 3), (116, 4), (118, 5)] → Hid (∀ W, Calls Tryz.prog 45 #[.int .i64 (k' : Nat), .int .u8 (cc : Nat)] W fun r w' => r = .returned (.bool ((fieldsOf k').contains q)) ∧ Below W.heap.size W w') := fun cc q hq => Lib.hid fun W => has_field k' (by omega) (by omega) cc q hq W
  have := rvalid_gen k' id n at' name text v lo hi vk vn vf vs A m c w hv hz (by omega) (by omega) ((fieldsOf k').contains 0) ((fieldsOf k').contains 1) ((fieldsOf k').contains 2) ((fieldsOf k').contains 3) ((fieldsOf k').contains 4) ((fieldsOf k').contains 5)
    _ _ _ _ _ _ _ _ _ _ _ rfl rfl rfl rfl rfl rfl rfl rfl rfl rfl rfl _ _ _ _ rfl rfl rfl rfl (hf 105 0 (by simp)) (hf 110 1 (by simp)) (hf 97 2 (by simp)) (hf 115 3 (by simp)) (hf 116 4 (by simp)) (hf 118 5 (by simp))
  refine this.mono fun r w' h => ⟨?_, h.2⟩
  rw [h.1]
  congr 2
  unfold EV.valid goodL
  simp only [Int.toNat_natCast, List.all_cons, List.all_nil, Bool.and_true]
  rw [decide_eq_true (show (1 : Int) ≤ (k' : Int) ∧ (k' : Int) ≤ 11 from ⟨h1, h2⟩), Bool.true_and, rv1, rv2, rv3, rv4, hvk, rv5]
  simp only [Bool.and_assoc]
end Rd
end Go.Proofs.YtjfhnkhabipbdaaGreatDoor
namespace Go.Proofs.YtjfhnkhabipbdaaGreatDoor
open Go.RowKit
set_option linter.unusedVariables false
set_option linter.unusedSimpArgs false
namespace Rd
open _root_.Go.Proofs.YtjfhnkhabipbdaaGreatDoor.Nm (bitsW ret_int ret_bool)
open Vt (VT Rep BoxAt below_drew)
open Ev (EV FieldsOk evCells vCells EBox ERep zeroT take_drop tk cons_drop)
open Cm (rowOf EvsIn)


set_option maxRecDepth 100000 in
theorem rvalid_out (k : Int) (hk : k < 1 ∨ 11 < k) (id : Nat) (n : Int) (at' : Nat) (name text : ByteArray) (vk vn : Int) (vf : Nat) (vs : ByteArray) (A : Option Addr) (m c : Nat) (w : World) :
    Calls Tryz.prog 31 #[.agg #[.int .i64 k, .int .u64 (id : Nat), .int .i64 n, .int .u64 (at' : Nat), .string name, .string text, .int .i64 vk, .int .i64 vn, .float .f64 vf, .string vs, .slice A m c]] w fun r w' => r = .returned (.bool false) ∧ Below w.heap.size w w' := by
  obtain ⟨W0, hW0⟩ : ∃ W0, W0 = w.alloc (.cells #[.int .i64 k, .int .u64 (id : Nat), .int .i64 n, .int .u64 (at' : Nat), .string name, .string text, .int .i64 vk, .int .i64 vn, .float .f64 vf, .string vs, .slice A m c] 31) := ⟨_, rfl⟩
  have HB0 : Hid (Below w.heap.size w W0) := Lib.hid (by rw [hW0]; exact (Below.refl _ _).alloc (Nat.le_refl _) _)
  have hbx : EBox W0 w.heap.size #[.int .i64 k, .int .u64 (id : Nat), .int .i64 n, .int .u64 (at' : Nat), .string name, .string text, .int .i64 vk, .int .i64 vn, .float .f64 vf, .string vs, .slice A m c] := by rw [hW0]; exact heap_alloc_new w _
  have HS : Hid (∀ W' : World, Below W0.heap.size W0 W' → W'.cell? ⟨w.heap.size, 0, none⟩ = some (.int .i64 k)) := Lib.hid fun W hW => by
    obtain ⟨c0, -⟩ := EBox.cells (hbx.later hW (by rw [hW0]; simp))
    exact c0
  clear hbx
  replace hW0 := Lib.hid hW0
  go_enter Tryz.func31, Tryz.ntmps31
  go_upto_region 1 with fail
  rw [← hW0.out]
  by_cases h1 : k < 1
  · have g1 : decide (k < 1) = true := decide_eq_true h1
    clear hk
    refine wp_region_noPanic ?_
    refine wp_region_held_drew (S := (fun W' : World => W'.cell? ⟨w.heap.size, 0, none⟩ = some (.int .i64 k))) (by kernel_rfl) ?_ (fun hHeld => ?_)
    · exact HS.out _ (below_drew (Below.refl _ _))
    refine tk (i := 0) rfl ?_
    try simp only [Act.put, List.setIfInBounds_toArray, List.set_cons_zero, List.set_cons_succ]
    refine tk (i := 1) rfl ?_
    try simp only [Act.put, List.setIfInBounds_toArray, List.set_cons_zero, List.set_cons_succ]
    refine tk (i := 2) rfl ?_
    try simp only [Act.put, List.setIfInBounds_toArray, List.set_cons_zero, List.set_cons_succ]
    refine tk (i := 3) rfl ?_
    try simp only [Act.put, List.setIfInBounds_toArray, List.set_cons_zero, List.set_cons_succ]
    refine tk (i := 4) rfl ?_
    try simp only [Act.put, List.setIfInBounds_toArray, List.set_cons_zero, List.set_cons_succ]
    refine tk (i := 5) rfl ?_
    try simp only [Act.put, List.setIfInBounds_toArray, List.set_cons_zero, List.set_cons_succ]
    refine tk (i := 6) rfl ?_
    try simp only [Act.put, List.setIfInBounds_toArray, List.set_cons_zero, List.set_cons_succ]
    refine tk (i := 7) rfl ?_
    try simp only [Act.put, List.setIfInBounds_toArray, List.set_cons_zero, List.set_cons_succ]
    refine tk (i := 8) rfl ?_
    try simp only [Act.put, List.setIfInBounds_toArray, List.set_cons_zero, List.set_cons_succ]
    refine tk (i := 9) rfl ?_
    try simp only [Act.put, List.setIfInBounds_toArray, List.set_cons_zero, List.set_cons_succ]
    refine tk (i := 10) rfl ?_
    try simp only [Act.put, List.setIfInBounds_toArray, List.set_cons_zero, List.set_cons_succ]
    refine tk (i := 11) rfl ?_
    try simp only [Act.put, List.setIfInBounds_toArray, List.set_cons_zero, List.set_cons_succ]
    refine tk (i := 12) rfl ?_
    try simp only [Act.put, List.setIfInBounds_toArray, List.set_cons_zero, List.set_cons_succ]
    refine tk (i := 13) rfl ?_
    try simp only [Act.put, List.setIfInBounds_toArray, List.set_cons_zero, List.set_cons_succ]
    refine tk (i := 14) rfl ?_
    try simp only [Act.put, List.setIfInBounds_toArray, List.set_cons_zero, List.set_cons_succ]
    refine tk (i := 15) rfl ?_
    try simp only [Act.put, List.setIfInBounds_toArray, List.set_cons_zero, List.set_cons_succ]
    refine tk (i := 16) rfl ?_
    try simp only [Act.put, List.setIfInBounds_toArray, List.set_cons_zero, List.set_cons_succ]
    refine wpAnyH_done (by kernel_rfl) ?_ _
    refine NoPanic.normal ?_
    go_wp2_with fail
    go_ret
    exact ⟨rfl, below_drew HB0.out⟩
  · have g1 : decide (k < 1) = false := decide_eq_false h1
    have g2 : decide (11 < k) = true := decide_eq_true (by omega)
    clear hk
    refine wp_region_noPanic ?_
    refine wp_region_held_drew (S := (fun W' : World => W'.cell? ⟨w.heap.size, 0, none⟩ = some (.int .i64 k))) (by kernel_rfl) ?_ (fun hHeld => ?_)
    · exact HS.out _ (below_drew (Below.refl _ _))
    refine tk (i := 0) rfl ?_
    try simp only [Act.put, List.setIfInBounds_toArray, List.set_cons_zero, List.set_cons_succ]
    refine tk (i := 1) rfl ?_
    try simp only [Act.put, List.setIfInBounds_toArray, List.set_cons_zero, List.set_cons_succ]
    refine tk (i := 2) rfl ?_
    try simp only [Act.put, List.setIfInBounds_toArray, List.set_cons_zero, List.set_cons_succ]
    refine tk (i := 3) rfl ?_
    try simp only [Act.put, List.setIfInBounds_toArray, List.set_cons_zero, List.set_cons_succ]
    refine tk (i := 4) rfl ?_
    try simp only [Act.put, List.setIfInBounds_toArray, List.set_cons_zero, List.set_cons_succ]
    refine tk (i := 5) rfl ?_
    try simp only [Act.put, List.setIfInBounds_toArray, List.set_cons_zero, List.set_cons_succ]
    refine tk (i := 6) rfl ?_
    try simp only [Act.put, List.setIfInBounds_toArray, List.set_cons_zero, List.set_cons_succ]
    refine tk (i := 7) rfl ?_
    try simp only [Act.put, List.setIfInBounds_toArray, List.set_cons_zero, List.set_cons_succ]
    refine tk (i := 8) rfl ?_
    try simp only [Act.put, List.setIfInBounds_toArray, List.set_cons_zero, List.set_cons_succ]
    refine tk (i := 9) rfl ?_
    try simp only [Act.put, List.setIfInBounds_toArray, List.set_cons_zero, List.set_cons_succ]
    refine tk (i := 10) rfl ?_
    try simp only [Act.put, List.setIfInBounds_toArray, List.set_cons_zero, List.set_cons_succ]
    refine tk (i := 11) rfl ?_
    try simp only [Act.put, List.setIfInBounds_toArray, List.set_cons_zero, List.set_cons_succ]
    refine tk (i := 12) rfl ?_
    try simp only [Act.put, List.setIfInBounds_toArray, List.set_cons_zero, List.set_cons_succ]
    refine tk (i := 13) rfl ?_
    try simp only [Act.put, List.setIfInBounds_toArray, List.set_cons_zero, List.set_cons_succ]
    refine tk (i := 14) rfl ?_
    try simp only [Act.put, List.setIfInBounds_toArray, List.set_cons_zero, List.set_cons_succ]
    refine tk (i := 15) rfl ?_
    try simp only [Act.put, List.setIfInBounds_toArray, List.set_cons_zero, List.set_cons_succ]
    refine tk (i := 16) rfl ?_
    try simp only [Act.put, List.setIfInBounds_toArray, List.set_cons_zero, List.set_cons_succ]
    refine wpAnyH_done (by kernel_rfl) ?_ _
    refine NoPanic.normal ?_
    go_wp2_with fail
    go_ret
    exact ⟨rfl, below_drew HB0.out⟩

theorem valid_out (e : EV) (h : ¬ (1 ≤ e.k ∧ e.k ≤ 11)) : e.valid = false := by unfold EV.valid; rw [decide_eq_false h]; rfl
theorem rvalid_all (e : EV) (lo hi : Nat) (vk vn : Int) (vf : Nat) (vs : ByteArray) (A : Option Addr) (m c : Nat) (w : World) (hv : Rep w lo hi e.v (vCells vk vn vf vs A m c)) (hz : hi ≤ w.heap.size) :
    Calls Tryz.prog 31 #[.agg (evCells e vk vn vf vs A m c)] w fun r w' => r = .returned (.bool e.valid) ∧ Below w.heap.size w w' := by
  by_cases hk : 1 ≤ e.k ∧ e.k ≤ 11
  · exact rvalid_ev2 e hk.1 hk.2 lo hi vk vn vf vs A m c w hv hz
  · rw [valid_out e hk]
    exact rvalid_out e.k (by omega) e.id e.n e.at' e.name e.text vk vn vf vs A m c w

end Rd
end Go.Proofs.YtjfhnkhabipbdaaGreatDoor
namespace Go.Proofs.YtjfhnkhabipbdaaGreatDoor
open Go.RowKit
set_option linter.unusedVariables false
set_option linter.unusedSimpArgs false
namespace Vf
open _root_.Go.Proofs.YtjfhnkhabipbdaaGreatDoor.Nm (bitsW ret_int ret_bool)
open Vt (VT Rep BoxAt below_drew KidsAt HeadOk)
open Ev (EV FieldsOk evCells vCells EBox ERep zeroT take_drop tk cons_drop nameOf fieldsOf of_in evalid_any)
open Cm (evSame)
open Bt (BOwn BIn PIn sb bv)

theorem box_ev (w : World) (e : EV) (vk vn : Int) (vf : Nat) (vs : ByteArray) (A : Option Addr) (m c : Nat) : EBox (w.alloc (.cells (evCells e vk vn vf vs A m c) 31)) w.heap.size (evCells e vk vn vf vs A m c) := heap_alloc_new w _
/-- Bytes that are read by their places. -/
def BRd (w : World) (v : Value) (l : List Nat) : Prop := (v = .slice none 0 0 ∧ l = []) ∨ ∃ b off cap, v = .slice (some ⟨b, off, none⟩) l.length cap ∧ l.length ≤ cap ∧ cap ≤ maxLen ∧ b < w.heap.size ∧ ∀ j (h : j < l.length), w.cell? ⟨b, off + j, none⟩ = some (.int .u8 (l[j] : Nat))
theorem BRd.later {w w' : World} {v : Value} {l : List Nat} (h : BRd w v l) (hb : Below w.heap.size w w') : BRd w' v l := by
  rcases h with h | ⟨b, off, cap, h1, h2, h3, h4, h5⟩
  · exact .inl h
  · exact .inr ⟨b, off, cap, h1, h2, h3, Nat.lt_of_lt_of_le h4 hb.size, fun j hj => (hb.cell (p := ⟨b, off + j, none⟩) h4).trans (h5 j hj)⟩
/-- Is an event small? -/
def efew (e : EV) : Bool := e.v.few && decide (e.name.size ≤ 1100) && decide (e.text.size ≤ 1100)

set_option maxRecDepth 100000 in
theorem efew_any (e : EV) (hf : FieldsOk e) (lo hi : Nat) (vk vn : Int) (vf : Nat) (vs : ByteArray) (A : Option Addr) (m c : Nat) (w : World) (hv : Rep w lo hi e.v (vCells vk vn vf vs A m c)) (hz : hi ≤ w.heap.size) :
    Calls Tryz.prog 5 #[.agg (evCells e vk vn vf vs A m c)] w fun r w' => r = .returned (.bool (efew e)) ∧ Below w.heap.size w w' := by
  obtain ⟨W0, hW0⟩ : ∃ W0, W0 = w.alloc (.cells (evCells e vk vn vf vs A m c) 31) := ⟨_, rfl⟩
  have hb0 : Below w.heap.size w W0 := by rw [hW0]; exact (Below.refl _ _).alloc (Nat.le_refl _) _
  have hx0 : EBox W0 w.heap.size (evCells e vk vn vf vs A m c) := by rw [hW0]; exact box_ev ..
  have HV := Lib.hid (Vt.few_any e.v W0 lo hi _ (hv.later (hb0.mono hz)) (Nat.le_trans hz hb0.size))
  obtain ⟨g0, g1, g2, g3, g4, g5, g6, g7, g8, g9, g10⟩ := EBox.cells hx0
  have HX0 := Lib.hid hx0
  have HB0 := Lib.hid hb0
  have hsn := hf.s1
  have hst := hf.t1
  simp only [maxLen] at hsn hst
  clear hv hf hx0 hb0
  unfold evCells at hW0 ⊢
  unfold vCells at HV
  replace hW0 := Lib.hid hW0
  go_enter Tryz.func5, Tryz.ntmps5
  go_upto_region 1 with fail
  rw [← hW0.out]
  generalize hfw : e.v.few = fw at *
  have HFW := Lib.hid hfw; clear hfw
  cases fw with
  | false =>
    go_wp2_with (go_at_call 13; refine HV.out.mono ?_; rintro x w1 ⟨rfl, hb1⟩; have HB1 := Lib.hid (HB0.out.trans (hb1.mono HB0.out.size)); clear hb1)
    go_ret
    exact ⟨ret_bool (by unfold efew; rw [HFW.out]; rfl), HB1.out⟩
  | true =>
    by_cases h1 : e.name.size ≤ 1100
    · have k1 : decide ((e.name.size : Int) ≤ 1100) = true := decide_eq_true (by omega)
      by_cases h2 : e.text.size ≤ 1100
      · have k2 : decide ((e.text.size : Int) ≤ 1100) = true := decide_eq_true (by omega)
        go_wp2_with (go_at_call 13; refine HV.out.mono ?_; rintro x w1 ⟨rfl, hb1⟩; have HB1 := Lib.hid (HB0.out.trans (hb1.mono HB0.out.size)); obtain ⟨q0, q1, q2, q3, q4, q5, q6, q7, q8, q9, q10⟩ := EBox.cells (HX0.out.later hb1 HX0.out.lt); clear hb1)
        go_ret
        exact ⟨ret_bool (by unfold efew; rw [HFW.out]; simp; omega), HB1.out⟩
      · have k2 : decide ((e.text.size : Int) ≤ 1100) = false := decide_eq_false (by omega)
        go_wp2_with (go_at_call 13; refine HV.out.mono ?_; rintro x w1 ⟨rfl, hb1⟩; have HB1 := Lib.hid (HB0.out.trans (hb1.mono HB0.out.size)); obtain ⟨q0, q1, q2, q3, q4, q5, q6, q7, q8, q9, q10⟩ := EBox.cells (HX0.out.later hb1 HX0.out.lt); clear hb1)
        go_ret
        exact ⟨ret_bool (by unfold efew; rw [HFW.out]; simp; omega), HB1.out⟩
    · have k1 : decide ((e.name.size : Int) ≤ 1100) = false := decide_eq_false (by omega)
      go_wp2_with (go_at_call 13; refine HV.out.mono ?_; rintro x w1 ⟨rfl, hb1⟩; have HB1 := Lib.hid (HB0.out.trans (hb1.mono HB0.out.size)); obtain ⟨q0, q1, q2, q3, q4, q5, q6, q7, q8, q9, q10⟩ := EBox.cells (HX0.out.later hb1 HX0.out.lt); clear hb1)
      go_ret
      exact ⟨ret_bool (by unfold efew; rw [HFW.out]; simp; omega), HB1.out⟩


end Vf
end Go.Proofs.YtjfhnkhabipbdaaGreatDoor
