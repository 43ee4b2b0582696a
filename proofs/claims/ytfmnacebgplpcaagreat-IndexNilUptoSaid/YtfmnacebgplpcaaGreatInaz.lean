/- A small form is that of a small value; a form is read as the value it is the form of. No program in sight. -/
import Derived.Test.YtfmnacebgplpcaaGreatInau
import Derived.Test.YtfmnacebgplpcaaGreatInat
import Derived.Test.YtfmnacebgplpcaaGreatInah
set_option linter.unusedVariables false
set_option linter.unusedSimpArgs false
open Go.RowKit
namespace Go.Proofs.YtfmnacebgplpcaaGreat
namespace Rd
open _root_.Go.Proofs.YtfmnacebgplpcaaGreat.Nm (Di ofW okW)
open Bt (Db sb Fi)
open Vt (VT DB Fp Fr FL Pv)
open Pf (Dp zz be8 Oj Sk)
theorem PH (f x : Nat) : 0 < (Db f x).length := by
 cases f with
 | zero => simp [Db]
 | succ f => simp only [Db]; split <;> simp
theorem GS (l : List VT) (ih : ∀ t ∈ l, ∀ m : Int, t.weight m ≤ ((Pf.VT.form t).length : Int)) : ∀ (n m : Int), DB l n m ≤ n + ((l.map Pf.VT.form).flatten.length : Int) := by
 induction l with
 | nil => intro n m; rw [Fp]; simp
 | cons t l ih2 =>
  intro n m
  rw [Fr]
  have h1 := ih t (by simp) (m - n)
  have h2 := ih2 (fun x hx => ih x (List.mem_cons_of_mem _ hx)) (n + t.weight (m - n)) m
  simp only [List.map_cons, List.flatten_cons, List.length_append]
  split <;> omega
theorem PG (t : VT) : ∀ (d : Nat) (m : Int), t.valid d = true → t.weight m ≤ ((Pf.VT.form t).length : Int) := by
 induction t using VT.ind with
 | _ k n f s l ih =>
  intro d m hv
  rw [FL]
  rw [Oj]
  have u0 := PH 10 0; have u1 := PH 10 1; have u2 := PH 10 2; have u3 := PH 10 3; have u4 := PH 10 4
  rcases Pf.FM hv with ⟨rfl, -, -, h4, rfl⟩ | ⟨rfl, -, h4, rfl⟩ | ⟨rfl, -, h4, rfl⟩ | ⟨rfl, -, -, rfl⟩ | ⟨rfl, -, -, h4, hkv⟩
  ·rw [Fp, h4]; show (1 + min ((0 : Nat) : Int) 1000) ≤ ((Db 10 0 ++ []).length : Int); rw [List.length_append]; push_cast; omega
  ·rw [Fp, h4, List.length_append]; push_cast; omega
  ·rw [Fp, h4, List.length_append]; push_cast; omega
  ·rw [Fp, if_neg (by decide), if_neg (by decide), if_pos rfl]
   unfold Dp
   rw [List.length_append, List.length_append, Fi]; push_cast; omega
  ·have := GS l (fun t ht m => by
    obtain ⟨i, hi, rfl⟩ := List.getElem_of_mem ht
    exact ih i hi (d - 1) m (hkv _ ht)) (1 + min (s.size : Int) 1000) m
   rw [if_neg (by decide), if_neg (by decide), if_neg (by decide), if_pos rfl, List.length_append, List.length_append]
   rw [h4] at this ⊢
   push_cast at this ⊢
   omega
theorem sb_byt (s : ByteArray) : Byt (sb s) := fun b hb => by
 simp only [sb, List.mem_map] at hb
 obtain ⟨x, -, rfl⟩ := hb
 exact x.toNat_lt
open Bt (sel)
open Ev (EV Dm Dk zeroT)
open Cm (DX)
open Cn (Dt GR)
open Vf (VE UA DM FC sel6)
def opt {α : Type} (b : Bool) (d : α) (p : St → St × α) (s : St) : St × α := if b = true then p s else (s, d)
def mkE (k : Nat) (i n a : Nat) (s t : ByteArray) (v : VT) : EV := ⟨(k : Int), i, ((min n 2147483648 : Nat) : Int), a, s, t, v⟩
def oval (b : Bool) (s : St) : Option (St × VT) := if b = true then pv 8 s else some (s, zeroT)
structure FR where
 s0 : St
 i : Nat
 s1 : St
 n : Nat
 s2 : St
 a : Nat
 s3 : St
 s : ByteArray
 s4 : St
 t : ByteArray
def fr (b0 b1 b2 b3 b4 : Bool) (s : St) : FR :=
 let r0 := opt b0 0 Gh s
 let r1 := opt b1 0 Gh r0.1
 let r2 := opt b2 0 Gh r1.1
 let r3 := opt b3 ⟨#[]⟩ rText r2.1
 let r4 := opt b4 ⟨#[]⟩ rText r3.1
 ⟨r0.1, r0.2, r1.1, r1.2, r2.1, r2.2, r3.1, r3.2, r4.1, r4.2⟩
def pf (k : Nat) (b0 b1 b2 b3 b4 b5 : Bool) (s : St) : Option (St × EV) :=
 let q := fr b0 b1 b2 b3 b4 s
 match oval b5 q.s4 with
 | none => none
 | some (s5, v) => if s5.2 = true ∨ (mkE k q.i q.n q.a q.s q.t v).valid = false then none else some (s5, mkE k q.i q.n q.a q.s q.t v)
def pe (s : St) : Option (St × EV) :=
 let a := rTake s 1
 let q := Gh a.1
 if a.2 ≠ [1] ∨ q.1.2 = true ∨ 11 < q.2 then none
 else pf q.2 ((Dm q.2).contains 0) ((Dm q.2).contains 1) ((Dm q.2).contains 2) ((Dm q.2).contains 3) ((Dm q.2).contains 4) ((Dm q.2).contains 5) q.1
def GoodE (e : EV) : Prop := e.valid = true ∧ Dk e ∧ Pf.VT.fine e.v
open Vt (Rep)
open Ev (Pa Dc Dn)
open Cm (EvsIn)
open Cn (GO)
open Rf (Sq PS)
theorem UT {w : World} {A : Option Addr} {cap : Nat} {es : List EV} (h : EvsIn w A cap es) : ∀ e ∈ es, Dk e ∧ Pf.VT.fine e.v := by
 intro e he
 obtain ⟨i, hi, rfl⟩ := List.getElem_of_mem he
 obtain ⟨b, off, lo, hi', vk, vn, vf, vs, A', m, c, -, -, h1, h2, -⟩ := h.get i hi
 exact ⟨h1, Pf.Rep.fine h2⟩
theorem good_of {w : World} {A : Option Addr} {cap : Nat} {es : List EV} (h : EvsIn w A cap es) {f : ByteArray} {a : Nat} (hv : Dt f a es = true) : ∀ e ∈ es, GoodE e := fun e he => ⟨PS hv e he, (UT h e he).1, (UT h e he).2⟩
theorem ub_bytG (f : Nat) : ∀ y, y < 128 ^ (f + 1) → Byt (Db f y) := by
 induction f with
 | zero => intro y h b hb; simp [Db] at hb h; omega
 | succ f ih =>
  intro y h b hb
  by_cases hy : y < 128
  ·rw [Rf.JO hy] at hb; simp at hb; omega
  ·obtain ⟨g, hg, h1, h2⟩ := Rf.JN h (by omega)
   obtain rfl : g = f := by omega
   rw [h2] at hb
   rcases List.mem_cons.1 hb with rfl | hb
   ·omega
   ·exact ih _ h1 b hb
theorem Gn {x : Nat} (h : x < 18446744073709551616) : Byt (Db 10 x) := ub_bytG 10 x (Rf.ub_big h)
theorem PL {s : ByteArray} (h : s.size < 18446744073709551616) : Byt (Pf.Dp s) := fun b hb => by
 unfold Pf.Dp at hb
 rcases List.mem_append.1 hb with h' | h'
 ·exact Gn h b h'
 ·exact sb_byt s b h'
theorem Kn (t : VT) : ∀ d, t.valid d = true → Pf.VT.fine t → Byt (Pf.VT.form t) := by
 induction t using VT.ind with
 | _ k n f s l ih =>
  intro d hv hfine
  obtain ⟨⟨n0, n1, f1, s1, m1⟩, hkf⟩ := Pf.Sk.1 hfine
  rw [Pf.Oj]
  intro b hb
  rcases List.mem_append.1 hb with hb | hb
  ·rcases Pf.FM hv with ⟨rfl, -⟩ | ⟨rfl, -⟩ | ⟨rfl, -⟩ | ⟨rfl, -⟩ | ⟨rfl, -⟩ <;> exact Gn (by decide) b hb
  ·rcases Pf.FM hv with ⟨rfl, -⟩ | ⟨rfl, -⟩ | ⟨rfl, -⟩ | ⟨rfl, -⟩ | ⟨rfl, -, -, -, hkv⟩
   ·simp at hb
   ·rw [if_pos rfl] at hb; exact Gn (Pf.VG n0 n1) b hb
   ·rw [if_neg (by omega), if_pos rfl] at hb
    simp only [Pf.be8, List.mem_cons, List.not_mem_nil, or_false] at hb
    omega
   ·rw [if_neg (by omega), if_neg (by omega), if_pos rfl] at hb; exact PL s1 b hb
   ·rw [if_neg (by omega), if_neg (by omega), if_neg (by omega), if_pos rfl] at hb
    rcases List.mem_append.1 hb with hb | hb
    ·exact Gn m1 b hb
    ·obtain ⟨fl, hfl, hb⟩ := List.mem_flatten.1 hb
     obtain ⟨t, ht, rfl⟩ := List.mem_map.1 hfl
     obtain ⟨i, hi, rfl⟩ := List.getElem_of_mem ht
     exact ih i hi (d - 1) (hkv _ ht) (hkf _ ht) b hb
theorem LA {e : EV} (g : GoodE e) : Byt (DM e) := by
 have V := Vf.UA g.1
 have hf := g.2.1
 have h1 := V.k1; have h2 := V.k2; have h3 := V.n1; have h4 := V.n2; have h5 := V.s1; have h6 := V.t1
 unfold DM
 rw [Vf.sel6]
 have hi : ∀ (b : Bool) (l : List Nat), Byt l → Byt (if b = true then l else []) := fun b l h => by
  split
  ·exact h
  ·exact fun _ h => by simp at h
 intro b hb
 simp only [List.mem_append, List.mem_singleton] at hb
 rcases hb with (rfl | h) | h | h | h | h | h | h
 ·omega
 ·exact Gn (by omega) b h
 ·exact hi _ _ (Gn hf.i1) b h
 ·exact hi _ _ (Gn (by omega)) b h
 ·exact hi _ _ (Gn hf.a1) b h
 ·exact hi _ _ (PL (by omega)) b h
 ·exact hi _ _ (PL (by omega)) b h
 ·exact hi _ _ (Kn _ 8 V.v1 g.2.2) b h
theorem LF {f : ByteArray} {a n : Nat} {es : List EV} (hf : f.size ≤ 1000) (ha : a < 18446744073709551616) (hn : n < 18446744073709551616) (g : ∀ e ∈ es, GoodE e) : Byt (GR f a n (es.map DM)) := by
 unfold GR
 intro b hb
 simp only [List.mem_append] at hb
 rcases hb with (h | h) | h | h | h
 ·exact Gn (by omega) b h
 ·exact sb_byt f b h
 ·exact Gn ha b h
 ·exact Gn hn b h
 ·obtain ⟨l, hl, h⟩ := List.mem_flatten.1 h
  obtain ⟨e, he, rfl⟩ := List.mem_map.1 hl
  exact LA (g e he) b h
end Rd
end Go.Proofs.YtfmnacebgplpcaaGreat
