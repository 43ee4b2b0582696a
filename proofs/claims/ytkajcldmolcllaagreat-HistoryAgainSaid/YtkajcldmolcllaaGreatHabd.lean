/- bin.Uint: the bytes of a number, in new memory. -/
/- Bytes that are read; appends of bytes; bin.Text; slices.Grow of nil. -/
/- slices.Grow of nil; slices.Concat of bytes. -/
/- Forms of numbers, bytes and values: what a form is, and that no form is the beginning of another. No program in sight. -/
/- Numbers that are read. No program in sight. -/
import Derived.Test.YtkajcldmolcllaaGreatHaap
import Derived.RangeFuncCalls
import Derived.RangeFuncBox
import Derived.Maps.AppendAt
import Derived.Deep.AppendLies
import Derived.Below
import Derived.Shelf.Abstract
import Derived.Lib.AppendStr
import Derived.Lib.AppendZeros
import Derived.Laws.AppendOwnNone
import Derived.ChangeArms
import Derived.Deep.Draws
import Derived.Test.YtkajcldmolcllaaGreatHaab
set_option linter.unusedVariables false
set_option linter.unusedSimpArgs false
open Go.RowKit
namespace Go.Proofs.YtkajcldmolcllaaGreat
open Go.RowKit Go.Shelf
namespace Bt
open _root_.Go.Proofs.YtkajcldmolcllaaGreat.Nm (ret_int ret_bool)

attribute [local go_sem] Oper.semAt_some

def BOwn (w : World) (base : Nat) (v : Value) (l : List Nat) : Prop := w.ownsRow base 5 1 v l.length (l.map fun (b : Nat) => Value.int .u8 (b : Int))

theorem Tryz.infoB : (Tryz.prog.info? 5).map (fun i => (i.zero, i.size, i.bytes)) = some (some (.int .u8 0), 1, 1) := by kernel_rfl

def US (w : World) (m g bx y : Nat) (l : List Nat) (W : World) : Prop :=
 (∃ v, Boxed W g 206 v ∧ BOwn W w.heap.size v l) ∧ Boxed W bx 27 (.int .u64 y) ∧ Below w.heap.size w W ∧ m ≤ W.heap.size

theorem US.alloc {w : World} {m g bx y : Nat} {l : List Nat} {W : World} (h : US w m g bx y l W) (hm : w.heap.size ≤ m) (o : Obj) : US w m g bx y l (W.alloc o) := by
 obtain ⟨⟨v, h1, h2⟩, h3, h4, h5⟩ := h
 exact ⟨⟨v, h1.alloc o, h2.alloc o⟩, h3.alloc o, h4.alloc (by omega) o, by simp; omega⟩
def At (x y : Nat) (l : List Nat) : Prop := y < 18446744073709551616 ∧ ∃ f, l ++ ubytes f y = ubytes 10 x ∧ y < 128 ^ (f + 1) ∧ l.length + f = 10

end Bt
end Go.Proofs.YtkajcldmolcllaaGreat
namespace Go.Proofs.YtkajcldmolcllaaGreat
namespace Bt
open _root_.Go.Proofs.YtkajcldmolcllaaGreat.Nm (ret_int ret_bool)

def bv (b : Nat) : Value := .int .u8 (b : Int)

def BIn (w : World) (v : Value) (l : List Nat) : Prop := (v = .slice none 0 0 ∧ l = []) ∨ ∃ ad cap, v = .slice (some ad) l.length cap ∧ l.length ≤ cap ∧ cap ≤ maxLen ∧ ad.block < w.heap.size ∧ ∀ j u, (l.map bv)[j]? = some u → w.cell? (ad.add j) = some u

theorem block_add (a : Addr) (n : Nat) : (a.add n).block = a.block := by unfold Addr.add; split <;> rfl
theorem BIn.later {w w' : World} {v : Value} {l : List Nat} (h : BIn w v l) (hb : Below w.heap.size w w') : BIn w' v l := by
 rcases h with h | ⟨ad, cap, h1, h2, h3, h4, h5⟩
 ·exact .inl h
 ·exact .inr ⟨ad, cap, h1, h2, h3, Nat.lt_of_lt_of_le h4 hb.size, fun j u hu => (hb.cell (by rw [block_add]; exact h4)).trans (h5 j u hu)⟩
theorem BOwn.later {w w' : World} {base : Nat} {v : Value} {l : List Nat} (h : BOwn w base v l) (hb : Below w.heap.size w w') : BOwn w' base v l := by
 refine ⟨h.1, ?_⟩
 rcases h.2 with h | ⟨g, cap, cur, q1, q2, q3, q4⟩
 ·exact .inl h
 ·exact .inr ⟨g, cap, cur, q1, q2, (hb.block g (Array.getElem?_eq_some_iff.1 q3).1).trans q3, q4⟩
theorem BOwn.base {w : World} {base base' : Nat} {v : Value} {l : List Nat} (h : BOwn w base v l) (hb : base' ≤ base) : BOwn w base' v l := by
 refine ⟨h.1, ?_⟩
 rcases h.2 with h | ⟨g, cap, cur, q1, q2, q3, q4⟩
 ·exact .inl h
 ·exact .inr ⟨g, cap, cur, q1, by omega, q3, q4⟩
def sb (s : ByteArray) : List Nat := s.data.toList.map (·.toNat)
end Bt
end Go.Proofs.YtkajcldmolcllaaGreat
namespace Go.Proofs.YtkajcldmolcllaaGreat
namespace Bt
open _root_.Go.Proofs.YtkajcldmolcllaaGreat.Nm (ret_int ret_bool)

def PIn (w : World) (A : Option Addr) (cap : Nat) (ls : List (List Nat)) : Prop := ls.length ≤ cap ∧ cap ≤ maxLen ∧ (0 < ls.length → ∃ b off, A = some ⟨b, off, none⟩ ∧ b < w.heap.size ∧ ∀ i (h : i < ls.length), ∃ v, w.cell? ⟨b, off + i, none⟩ = some v ∧ BIn w v ls[i])

theorem PIn.later {w w' : World} {A : Option Addr} {cap : Nat} {ls : List (List Nat)} (h : PIn w A cap ls) (hb : Below w.heap.size w w') : PIn w' A cap ls := ⟨h.1, h.2.1, fun hp => by
 obtain ⟨b, off, hA, hlt, h3⟩ := h.2.2 hp
 refine ⟨b, off, hA, Nat.lt_of_lt_of_le hlt hb.size, fun i hi => ?_⟩
 obtain ⟨v, h4, h5⟩ := h3 i hi
 exact ⟨v, (hb.cell (p := ⟨b, _, none⟩) hlt).trans h4, h5.later hb⟩⟩

end Bt
end Go.Proofs.YtkajcldmolcllaaGreat
namespace Go.Proofs.YtkajcldmolcllaaGreat
namespace Pf
open _root_.Go.Proofs.YtkajcldmolcllaaGreat.Nm (bitsW)
open Vt (VT)
open Bt (ubytes sb)

def VT.fine (t : VT) : Prop := t.fold (α := Prop) fun k n f s r => (-9223372036854775808 ≤ n ∧ n ≤ 9223372036854775807 ∧ f < 18446744073709551616 ∧ s.size < 18446744073709551616 ∧ r.length < 18446744073709551616) ∧ ∀ p ∈ r, p
theorem fine_mk {k n : Int} {f : Nat} {s : ByteArray} {l : List VT} : VT.fine (.mk k n f s l) ↔ (-9223372036854775808 ≤ n ∧ n ≤ 9223372036854775807 ∧ f < 18446744073709551616 ∧ s.size < 18446744073709551616 ∧ l.length < 18446744073709551616) ∧ ∀ t ∈ l, VT.fine t := by
 unfold VT.fine; rw [VT.fold, List.length_map]
 simp only [List.mem_map, forall_exists_index, and_imp, forall_apply_eq_imp_iff₂]

theorem Rep.fine {w : World} {lo hi : Nat} {t : VT} : ∀ {v : Value}, Vt.Rep w lo hi t v → VT.fine t := by
 induction t using VT.ind with
 | _ k n f s l ih =>
  intro v h
  obtain ⟨A, cap, rfl, ho, hl, hk⟩ := h.head
  obtain ⟨k0, k1, n0, n1, f1, s1, m1⟩ := ho
  simp only [maxLen] at s1 m1
  refine fine_mk.2 ⟨⟨n0, n1, f1, by omega, by omega⟩, fun t ht => ?_⟩
  obtain ⟨i, hi, rfl⟩ := List.getElem_of_mem ht
  obtain ⟨b, off, -, -, -, h3⟩ := hk.at_ (by omega)
  obtain ⟨_, _, _, _, _, _, _, -, -, -, -, -, -, hr⟩ := h3 i hi
  exact ih i hi hr

theorem valid_cases {k n : Int} {f : Nat} {s : ByteArray} {l : List VT} {d : Nat} (h : (VT.mk k n f s l).valid d = true) :
  (k = 0 ∧ n = 0 ∧ bitsW f = 0 ∧ s.size = 0 ∧ l = []) ∨ (k = 1 ∧ bitsW f = 0 ∧ s.size = 0 ∧ l = []) ∨ (k = 2 ∧ n = 0 ∧ s.size = 0 ∧ l = []) ∨ (k = 3 ∧ n = 0 ∧ bitsW f = 0 ∧ l = []) ∨ (k = 4 ∧ n = 0 ∧ bitsW f = 0 ∧ s.size = 0 ∧ ∀ t ∈ l, t.valid (d - 1) = true) := by
 rw [Vt.valid_mk] at h
 simp only [Bool.and_eq_true, Bool.or_eq_true, decide_eq_true_iff, beq_iff_eq, bne_iff_ne, List.all_eq_true, List.length_eq_zero_iff] at h
 obtain ⟨⟨⟨⟨⟨⟨⟨h0, h1⟩, h2⟩, h3⟩, h4⟩, h5⟩, h6⟩, h7⟩ := h
 rcases (by omega : k = 0 ∨ k = 1 ∨ k = 2 ∨ k = 3 ∨ k = 4) with rfl | rfl | rfl | rfl | rfl
 ·exact .inl ⟨rfl, by simpa using h2, by simpa using h3, by simpa using h4, by simpa using h5⟩
 ·exact .inr (.inl ⟨rfl, by simpa using h3, by simpa using h4, by simpa using h5⟩)
 ·exact .inr (.inr (.inl ⟨rfl, by simpa using h2, by simpa using h4, by simpa using h5⟩))
 ·exact .inr (.inr (.inr (.inl ⟨rfl, by simpa using h2, by simpa using h3, by simpa using h5⟩)))
 ·exact .inr (.inr (.inr (.inr ⟨rfl, by simpa using h2, by simpa using h3, by simpa using h4, h7⟩)))
theorem size_zero {s : ByteArray} (h : s.size = 0) : s = ⟨#[]⟩ := by
 apply ByteArray.ext
 apply Array.eq_empty_of_size_eq_zero
 exact h
theorem same_mk_of {k n : Int} {f f' : Nat} {s : ByteArray} {l l' : List VT} (hf : bitsW f = bitsW f') (hl : l.length = l'.length) (h : ∀ (i : Nat) (hi : i < l.length) (hi' : i < l'.length), l[i].same l'[i] = true) : (VT.mk k n f s l).same (.mk k n f' s l') = true :=
 (Vt.same_iff ..).2 ⟨rfl, rfl, rfl, hf, hl, h⟩

end Pf
end Go.Proofs.YtkajcldmolcllaaGreat
namespace Go.Proofs.YtkajcldmolcllaaGreat
namespace Rd
open Bt (ubytes sb)


end Rd
end Go.Proofs.YtkajcldmolcllaaGreat
