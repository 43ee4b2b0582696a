/- Events and batches that are read, as pure steps; what is read is a form. No program in sight. -/
/- event.Read: nothing there. -/
import Derived.Test.YtcbddebmmaflgaaGreatDoorMsau
import Derived.Test.YtcbddebmmaflgaaGreatDoorMsaq
import Derived.Test.YtcbddebmmaflgaaGreatDoorMsaz
namespace Go.Proofs.YtcbddebmmaflgaaGreatDoor
open Go.RowKit
set_option linter.unusedVariables false
set_option linter.unusedSimpArgs false
namespace Rd
open _root_.Go.Proofs.YtcbddebmmaflgaaGreatDoor.Nm (bitsW ofW okW)
open Bt (ubytes sb sb_len sel)
open Vt (VT)
open Ev (EV fieldsOf FieldsOk zeroT)
open Cm (evSame)

open Pf (sform)
open Vf (VE ve_of eform hasF sel6)

def opt {α : Type} (b : Bool) (d : α) (p : St → St × α) (s : St) : St × α := if b = true then p s else (s, d)
/-- The fields of an event that have been read. -/
def mkE (k : Nat) (i n a : Nat) (s t : ByteArray) (v : VT) : EV := ⟨(k : Int), i, ((min n 2147483648 : Nat) : Int), a, s, t, v⟩
def oval (b : Bool) (s : St) : Option (St × VT) := if b = true then pv 8 s else some (s, zeroT)
/-- The states behind an event's fields. -/
structure FR where
  s0 : St
  i : Nat
  s1 : St
  n : Nat
  s2 : St
  a : Nat
  s3 : St
  s : ByteArray
  s4 : St
  t : ByteArray
def fr (b0 b1 b2 b3 b4 : Bool) (s : St) : FR :=
  let r0 := opt b0 0 rUint s
  let r1 := opt b1 0 rUint r0.1
  let r2 := opt b2 0 rUint r1.1
  let r3 := opt b3 ⟨#[]⟩ rText r2.1
  let r4 := opt b4 ⟨#[]⟩ rText r3.1
  ⟨r0.1, r0.2, r1.1, r1.2, r2.1, r2.2, r3.1, r3.2, r4.1, r4.2⟩
/-- An event's fields. -/
def pf (k : Nat) (b0 b1 b2 b3 b4 b5 : Bool) (s : St) : Option (St × EV) :=
  let q := fr b0 b1 b2 b3 b4 s
  match oval b5 q.s4 with
  | none => none
  | some (s5, v) => if s5.2 = true ∨ (mkE k q.i q.n q.a q.s q.t v).valid = false then none else some (s5, mkE k q.i q.n q.a q.s q.t v)
/-- An event's reading. -/
def pe (s : St) : Option (St × EV) :=
  let a := rTake s 1
  let q := rUint a.1
  if a.2 ≠ [1] ∨ q.1.2 = true ∨ 11 < q.2 then none
  else pf q.2 ((fieldsOf q.2).contains 0) ((fieldsOf q.2).contains 1) ((fieldsOf q.2).contains 2) ((fieldsOf q.2).contains 3) ((fieldsOf q.2).contains 4) ((fieldsOf q.2).contains 5) q.1
theorem opt_form {α : Type} {b : Bool} {d : α} {p : St → St × α} {F : α → List Nat} {s : St} (h : (opt b d p s).1.2 = false) (hp : (p s).1.2 = false → s.2 = false ∧ s.1 = F (p s).2 ++ (p s).1.1) :
    s.2 = false ∧ s.1 = (if b then F (opt b d p s).2 else []) ++ (opt b d p s).1.1 ∧ (b = false → (opt b d p s).2 = d) := by
  cases b with
  | true =>
    simp only [opt, if_true] at h ⊢
    exact ⟨(hp h).1, (hp h).2, fun h => Bool.noConfusion h⟩
  | false => simp [opt] at h ⊢; exact h
theorem byt_tail {l a r : List Nat} (h : Byt l) (e : l = a ++ r) : Byt r := fun b hb => h b (by rw [e]; exact List.mem_append_right _ hb)
theorem rText_form {s : St} (hb : Byt s.1) (h : (rText s).1.2 = false) : s.2 = false ∧ s.1 = sform (rText s).2 ++ (rText s).1.1 := by
  obtain ⟨h1, h2, -⟩ := rBytes_form hb h
  exact ⟨h1, h2⟩
theorem opt_lt {b : Bool} {s : St} (hb : Byt s.1) : (opt b 0 rUint s).2 < 18446744073709551616 := by
  cases b with
  | true => exact rUint_val hb
  | false => show (0 : Nat) < _; omega
theorem opt_len {α : Type} {b : Bool} {d : α} {p : St → St × α} {s : St} (hp : (p s).1.1.length ≤ s.1.length) : (opt b d p s).1.1.length ≤ s.1.length := by
  cases b with
  | true => exact hp
  | false => exact Nat.le_refl _
theorem opt_byt {α : Type} {b : Bool} {d : α} {p : St → St × α} {s : St} (hb : Byt s.1) (hp : Byt (p s).1.1) : Byt (opt b d p s).1.1 := by
  cases b with
  | true => exact hp
  | false => exact hb
theorem opt_size {b : Bool} {s : St} (hb : Byt s.1) (hl : s.1.length ≤ 1099511627776) : (opt b ⟨#[]⟩ rText s).2.size ≤ 1099511627776 := by
  cases b with
  | true => exact rText_size hb hl
  | false => show (⟨#[]⟩ : ByteArray).size ≤ _; decide
/-- What is known of a valid event that is read. -/
def GoodE (e : EV) : Prop := e.valid = true ∧ FieldsOk e ∧ Pf.VT.fine e.v
theorem pe_form (s s' : St) (e : EV) (hb : Byt s.1) (hl : s.1.length ≤ 1099511627776) (h : pe s = some (s', e)) : s.2 = false ∧ s'.2 = false ∧ s.1 = eform e ++ s'.1 ∧ GoodE e := by
  unfold pe at h
  simp only at h
  split at h
  · cases h
  · rename_i h0
    have h1 : (rTake s 1).2 = [1] := by
      cases hh : decide ((rTake s 1).2 = [1]) with
      | true => simpa using hh
      | false => exact absurd (.inl (by simpa using hh)) h0
    have h2 : (rUint (rTake s 1).1).1.2 = false := bool_of fun hh => h0 (.inr (.inl hh))
    have h3 : (rUint (rTake s 1).1).2 ≤ 11 := by
      have := fun hh => h0 (.inr (.inr hh))
      omega
    have hbt : Byt (rTake s 1).1.1 := (rTake_byt hb hl 1).1
    have hlt : (rTake s 1).1.1.length ≤ 1099511627776 := (rTake_byt hb hl 1).2
    obtain ⟨f1, f2, f3⟩ := rUint_form hbt h2
    obtain ⟨g1, g2, g3⟩ := rTake_form f1
    have hbq : Byt (rUint (rTake s 1).1).1.1 := byt_tail hbt f2
    have hlq : (rUint (rTake s 1).1).1.1.length ≤ 1099511627776 := Nat.le_trans (rUint_le _) hlt
    rw [h1, f2] at g2
    generalize (rUint (rTake s 1).1) = q at *
    obtain ⟨sq, k⟩ := q
    simp only at *
    clear h0 h1 hbt hlt f1 f2 f3
    unfold pf at h
    simp only at h
    generalize hc0 : (fieldsOf k).contains 0 = b0 at *
    generalize hc1 : (fieldsOf k).contains 1 = b1 at *
    generalize hc2 : (fieldsOf k).contains 2 = b2 at *
    generalize hc3 : (fieldsOf k).contains 3 = b3 at *
    generalize hc4 : (fieldsOf k).contains 4 = b4 at *
    generalize hc5 : (fieldsOf k).contains 5 = b5 at *
    split at h
    · cases h
    · rename_i s5 v hv
      split at h
      · cases h
      · rename_i h9
        injection h with h; injection h with h h'
        subst h h'
        have hs5 : s5.2 = false := bool_of fun hh => h9 (.inl hh)
        have hval : (mkE k (fr b0 b1 b2 b3 b4 sq).i (fr b0 b1 b2 b3 b4 sq).n (fr b0 b1 b2 b3 b4 sq).a (fr b0 b1 b2 b3 b4 sq).s (fr b0 b1 b2 b3 b4 sq).t v).valid = true := by
          cases hh : (mkE k (fr b0 b1 b2 b3 b4 sq).i (fr b0 b1 b2 b3 b4 sq).n (fr b0 b1 b2 b3 b4 sq).a (fr b0 b1 b2 b3 b4 sq).s (fr b0 b1 b2 b3 b4 sq).t v).valid with
          | true => rfl
          | false => exact absurd (.inr hh) h9
        clear h9
        refine ⟨g1, hs5, ?_⟩
        have B0 := opt_byt (b := b0) (d := 0) hbq (rUint_byt hbq hlq).1
        have L0 := Nat.le_trans (opt_len (b := b0) (d := 0) (rUint_le sq)) hlq
        have V0 := opt_lt (b := b0) hbq
        have O0 := fun h => opt_form (b := b0) (d := 0) (p := rUint) (F := ubytes 10) (s := sq) h fun h => ⟨(rUint_form hbq h).1, (rUint_form hbq h).2.1⟩
        simp only [fr] at hv hval ⊢
        generalize opt b0 0 rUint sq = r0 at *
        have B1 := opt_byt (b := b1) (d := 0) B0 (rUint_byt B0 L0).1
        have L1 := Nat.le_trans (opt_len (b := b1) (d := 0) (rUint_le r0.1)) L0
        have V1 := opt_lt (b := b1) B0
        have O1 := fun h => opt_form (b := b1) (d := 0) (p := rUint) (F := ubytes 10) (s := r0.1) h fun h => ⟨(rUint_form B0 h).1, (rUint_form B0 h).2.1⟩
        generalize opt b1 0 rUint r0.1 = r1 at *
        have B2 := opt_byt (b := b2) (d := 0) B1 (rUint_byt B1 L1).1
        have L2 := Nat.le_trans (opt_len (b := b2) (d := 0) (rUint_le r1.1)) L1
        have V2 := opt_lt (b := b2) B1
        have O2 := fun h => opt_form (b := b2) (d := 0) (p := rUint) (F := ubytes 10) (s := r1.1) h fun h => ⟨(rUint_form B1 h).1, (rUint_form B1 h).2.1⟩
        generalize opt b2 0 rUint r1.1 = r2 at *
        have B3 := opt_byt (b := b3) (d := (⟨#[]⟩ : ByteArray)) (p := rText) B2 (rBytes_byt B2 L2).1
        have L3 := Nat.le_trans (opt_len (b := b3) (d := (⟨#[]⟩ : ByteArray)) (p := rText) (rBytes_le r2.1)) L2
        have V3 := opt_size (b := b3) B2 L2
        have O3 := fun h => opt_form (b := b3) (d := (⟨#[]⟩ : ByteArray)) (p := rText) (F := sform) (s := r2.1) h fun h => rText_form B2 h
        generalize opt b3 (⟨#[]⟩ : ByteArray) rText r2.1 = r3 at *
        have B4 := opt_byt (b := b4) (d := (⟨#[]⟩ : ByteArray)) (p := rText) B3 (rBytes_byt B3 L3).1
        have V4 := opt_size (b := b4) B3 L3
        have O4 := fun h => opt_form (b := b4) (d := (⟨#[]⟩ : ByteArray)) (p := rText) (F := sform) (s := r3.1) h fun h => rText_form B3 h
        generalize opt b4 (⟨#[]⟩ : ByteArray) rText r3.1 = r4 at *
        have hv' : r4.1.2 = false ∧ r4.1.1 = (if b5 then Pf.VT.form v else []) ++ s5.1 ∧ Pf.VT.fine v := by
          unfold oval at hv
          cases b5 with
          | true =>
            rw [if_pos rfl] at hv
            obtain ⟨a1, a2, a3, a4⟩ := pv_form 8 _ _ _ B4 hv
            exact ⟨a1, by simpa using a3, a4.2⟩
          | false =>
            rw [if_neg (by simp)] at hv
            injection hv with hv; injection hv with hv hv'
            subst hv hv'
            refine ⟨hs5, by simp, ?_⟩
            unfold zeroT
            rw [Pf.fine_mk, sz0]; simp
        obtain ⟨v1, v2, v3⟩ := hv'
        obtain ⟨p4, q4, -⟩ := O4 v1
        obtain ⟨p3, q3, -⟩ := O3 p4
        obtain ⟨p2, q2, -⟩ := O2 p3
        obtain ⟨p1, q1, z1⟩ := O1 p2
        obtain ⟨p0, q0, -⟩ := O0 p1
        have hve := ve_of hval
        have hn2 : r1.2 ≤ 2147483647 := by
          have : ((min r1.2 2147483648 : Nat) : Int) ≤ 2147483647 := hve.n2
          omega
        have hmin : min r1.2 2147483648 = r1.2 := by omega
        refine ⟨?_, hval, ⟨by show (-9223372036854775808 : Int) ≤ (k : Int); omega, by show (k : Int) ≤ 9223372036854775807; omega, V0, by show (-9223372036854775808 : Int) ≤ ((min r1.2 2147483648 : Nat) : Int); omega, by show ((min r1.2 2147483648 : Nat) : Int) ≤ 9223372036854775807; omega, V2, by show r3.2.size ≤ maxLen; simp only [maxLen]; omega, by show r4.2.size ≤ maxLen; simp only [maxLen]; omega⟩, v3⟩
        rw [g2, q0, q1, q2, q3, q4, v2]
        unfold eform hasF
        rw [sel6]
        simp only [mkE, Int.toNat_natCast, hc0, hc1, hc2, hc3, hc4, hc5, List.append_assoc, hmin]
end Rd
end Go.Proofs.YtcbddebmmaflgaaGreatDoor
namespace Go.Proofs.YtcbddebmmaflgaaGreatDoor
open Go.RowKit
set_option linter.unusedVariables false
set_option linter.unusedSimpArgs false
namespace Rd
open _root_.Go.Proofs.YtcbddebmmaflgaaGreatDoor.Nm (ret_int ret_bool)
open Vt (VT Rep BoxAt below_drew put5)
open Ev (EV EBox ERep fieldsOf FieldsOk zeroT evCells vCells)
open Cm (OnlyAt)
open Cn (BRd)
attribute [local go_sem] Vt.run_store_float

theorem brd_ne {w : World} {g : Nat} {s : St} {x : Value} {l : List Nat} (hr : RS w g s) (h : BRd w x l) (hp : 0 < l.length) : ∀ k, x.ownBlock = some k → k ≠ g := by
  intro k hk
  rcases h with ⟨-, h2⟩ | ⟨b, off, cap, rfl, -, -, -, h5⟩
  · rw [h2] at hp; simp at hp
  · rw [Bt.ownBlock_slice] at hk
    cases hk
    rintro rfl
    obtain ⟨⟨v, hra⟩, -⟩ := hr
    have h0 := h5 0 hp
    have hb := hra.blk
    obtain ⟨A, c, hv⟩ := hra.rd.form
    rw [Nat.add_zero] at h0
    simp only [World.cell?, hb] at h0
    match off with
    | 0 => simp [hv] at h0
    | 1 => simp at h0
    | n + 2 => simp at h0
theorem brd_later {w w' : World} {g : Nat} {s : St} {x : Value} {l : List Nat} (hr : RS w g s) (h : BRd w x l) (hp : 0 < l.length) (ho : OnlyAt w w' g none) : BRd w' x l :=
  brd_keep h ho.size fun k hk => ho.block k (brd_block h k hk) (brd_ne hr h hp k hk) (by simp)
/-- The zero event. -/
def zeroE : Value := .agg #[.int .i64 0, .int .u64 0, .int .i64 0, .int .u64 0, .string ⟨#[]⟩, .string ⟨#[]⟩, .int .i64 0, .int .i64 0, .float .f64 0, .string ⟨#[]⟩, .slice none 0 0]
def ERead (s : St) (w : World) (g : Nat) (r : Ending) (w' : World) : Prop := match pe s with
  | some (s', e) => ∃ x, r = .returned (.tuple #[x, .bool true]) ∧ ERep w' w.heap.size w'.heap.size e x ∧ RS w' g s' ∧ OnlyAt w w' g none
  | none => r = .returned (.tuple #[zeroE, .bool false]) ∧ (∃ s', RS w' g s') ∧ OnlyAt w w' g none
def set11 (W : World) (b : Nat) (d0 d1 d2 d3 d4 d5 d6 d7 d8 d9 d10 : Value) : World :=
  put5 ((((((W.setCell ⟨b, 0, none⟩ d0).setCell ⟨b, 1, none⟩ d1).setCell ⟨b, 2, none⟩ d2).setCell ⟨b, 3, none⟩ d3).setCell ⟨b, 4, none⟩ d4).setCell ⟨b, 5, none⟩ d5) b 6 d6 d7 d8 d9 d10
theorem only_set11 {w W : World} {g b : Nat} (h : OnlyAt w W g none) (hb : w.heap.size ≤ b) (d0 d1 d2 d3 d4 d5 d6 d7 d8 d9 d10 : Value) : OnlyAt w (set11 W b d0 d1 d2 d3 d4 d5 d6 d7 d8 d9 d10) g none :=
  only_put5 (only_set (only_set (only_set (only_set (only_set (only_set h hb _) hb _) hb _) hb _) hb _) hb _) hb _ _ _ _ _
theorem rs_set11 {W : World} {g b : Nat} {s : St} (h : RS W g s) (hb : g < b) (d0 d1 d2 d3 d4 d5 d6 d7 d8 d9 d10 : Value) : RS (set11 W b d0 d1 d2 d3 d4 d5 d6 d7 d8 d9 d10) g s :=
  rs_put5 (rs_set (rs_set (rs_set (rs_set (rs_set (rs_set h hb _) hb _) hb _) hb _) hb _) hb _) hb _ _ _ _ _
theorem set11_size (W : World) (b : Nat) (d0 d1 d2 d3 d4 d5 d6 d7 d8 d9 d10 : Value) : (set11 W b d0 d1 d2 d3 d4 d5 d6 d7 d8 d9 d10).heap.size = W.heap.size := by unfold set11; rw [Vt.put5_size]; simp [World.setCell]
theorem set11_other (W : World) (b q : Nat) (d0 d1 d2 d3 d4 d5 d6 d7 d8 d9 d10 : Value) (h : q ≠ b) : (set11 W b d0 d1 d2 d3 d4 d5 d6 d7 d8 d9 d10).heap[q]? = W.heap[q]? := by
  have e (w : World) (x : Nat) (v : Value) : (w.setCell ⟨b, x, none⟩ v).heap[q]? = w.heap[q]? := Below.heap_setCell w ⟨b, x, none⟩ v q (by simpa using h)
  unfold set11
  rw [Vt.put5_other _ _ _ _ _ _ _ _ q h, e, e, e, e, e, e]
theorem eread_no {s s' : St} {w w' : World} {g : Nat} (h : pe s = none) (hr : RS w' g s') (ho : OnlyAt w w' g none) : ERead s w g (.returned (.tuple #[.agg #[.int .i64 0, .int .u64 0, .int .i64 0, .int .u64 0, .string ⟨#[]⟩, .string ⟨#[]⟩, .int .i64 0, .int .i64 0, .float .f64 0, .string ⟨#[]⟩, .slice none 0 0], .bool false])) w' := by
  unfold ERead; rw [h]; exact ⟨rfl, ⟨s', hr⟩, ho⟩
theorem ebox_frees {w : World} {g : Nat} {cs : Array Value} (r : EBox w g cs) : w.frozen? ⟨g, 0, none⟩ = false ∧ w.frozen? ⟨g, 1, none⟩ = false ∧ w.frozen? ⟨g, 2, none⟩ = false ∧ w.frozen? ⟨g, 3, none⟩ = false ∧ w.frozen? ⟨g, 4, none⟩ = false ∧ w.frozen? ⟨g, 5, none⟩ = false ∧ w.frozen? ⟨g, 6, none⟩ = false ∧ w.frozen? ⟨g, 7, none⟩ = false ∧ w.frozen? ⟨g, 8, none⟩ = false ∧ w.frozen? ⟨g, 9, none⟩ = false ∧ w.frozen? ⟨g, 10, none⟩ = false := by
  refine ⟨?_, ?_, ?_, ?_, ?_, ?_, ?_, ?_, ?_, ?_, ?_⟩ <;> exact ebox_free r _
set_option maxRecDepth 100000 in
set_option maxHeartbeats 1000000 in
theorem er_bad (g : Nat) (s : St) (w : World) (h : RS w g s) (hq : (rTake s 1).2 ≠ [1] ∨ (rUint (rTake s 1).1).1.2 = true ∨ 11 < (rUint (rTake s 1).1).2) :
    Calls Tryz.prog 8 #[.pointer (some ⟨g, 0, none⟩)] w (ERead s w g) := by
  have HN : Hid (pe s = none) := Lib.hid (by unfold pe; simp only; rw [if_pos hq])
  have hg := h.lt
  have hb := h.2.1
  have hl := h.2.2
  obtain ⟨W0, hW0⟩ : ∃ W0, W0 = (w.alloc (.cells #[.pointer (some ⟨g, 0, none⟩)] 24)).alloc (.cells #[.int .i64 0, .int .u64 0, .int .i64 0, .int .u64 0, .string ⟨#[]⟩, .string ⟨#[]⟩, .int .i64 0, .int .i64 0, .float .f64 0, .string ⟨#[]⟩, .slice none 0 0] 32) := ⟨_, rfl⟩
  have hp0 : PBox W0 w.heap.size g := by rw [hW0]; exact (heap_alloc_old _ _ (by simp)).trans (heap_alloc_new w _)
  have hx0 : EBox W0 (w.heap.size + 1) #[.int .i64 0, .int .u64 0, .int .i64 0, .int .u64 0, .string ⟨#[]⟩, .string ⟨#[]⟩, .int .i64 0, .int .i64 0, .float .f64 0, .string ⟨#[]⟩, .slice none 0 0] := by
    rw [hW0]
    have e := heap_alloc_new (w.alloc (.cells #[.pointer (some ⟨g, 0, none⟩)] 24)) (.cells #[.int .i64 0, .int .u64 0, .int .i64 0, .int .u64 0, .string ⟨#[]⟩, .string ⟨#[]⟩, .int .i64 0, .int .i64 0, .float .f64 0, .string ⟨#[]⟩, .slice none 0 0] 32)
    rw [World.size_alloc] at e
    exact e
  have hr0 : RS W0 g s := by rw [hW0]; exact rs_alloc (rs_alloc h _) _
  have ho0 : OnlyAt w W0 g none := by rw [hW0]; exact only_alloc (only_alloc (OnlyAt.of_below (Below.refl _ _)) _) _
  have hz0 : W0.heap.size = w.heap.size + 2 := by rw [hW0]; simp
  obtain ⟨c0, hc0⟩ : ∃ c0, c0 = w.heap.size := ⟨_, rfl⟩
  rw [← hc0] at hp0 hx0 hz0 hg
  have HT : Hid (Calls Tryz.prog 30 #[.pointer (some ⟨g, 0, none⟩), .int .i64 1] W0 fun r w' => ∃ x, r = .returned x ∧ BRd w' x (rTake s 1).2 ∧ RS w' g (rTake s 1).1 ∧ OnlyAt W0 w' g none) := Lib.hid (take_any g s 1 W0 hr0)
  have hl1 := rTake_len s 1
  have HP0 := Lib.hid hp0
  have HX0 := Lib.hid hx0
  have HO0 := Lib.hid ho0
  have HBY := Lib.hid (rTake_byt hb hl 1)
  have hpc := hp0.cell
  clear h hr0 hx0 ho0 hp0 hb hl
  have HQQ := Lib.hid hq
  clear hq
  have HU := Lib.hid fun W (hW : RS W g (rTake s 1).1) => uint_any g (rTake s 1).1 W hW
  generalize rTake s 1 = a at *
  obtain ⟨sa, l⟩ := a
  simp only at *
  generalize rUint sa = q at *
  obtain ⟨s1, k⟩ := q
  simp only at *
  replace hW0 := Lib.hid hW0
  have HC0 := Lib.hid hc0
  clear hc0
  go_enter Tryz.func8, Tryz.ntmps8
  go_upto_region 1 with fail
  rw [← hW0.out, ← HC0.out]
  go_wp2_with fail
  refine HT.out.mono ?_
  rintro e w1 ⟨x, rfl, hx1, hr1, ho1⟩
  have hp1 : PBox w1 c0 g := (ho1.block c0 HP0.out.lt (by omega) (by simp)).trans HP0.out
  have hX1 := ebox_only HX0.out ho1 (by omega)
  clear hpc
  have hpc := hp1.cell
  have HP1 := Lib.hid hp1
  have HX1 := Lib.hid hX1
  have HR1 := Lib.hid hr1
  have HO1 := Lib.hid (HO0.out.trans ho1)
  have HBR := Lib.hid hx1
  clear hp1 hX1 hr1 ho1 hx1
  go_wp2_with fail
  refine (HU.out _ HR1.out).mono ?_
  rintro e w2 ⟨rfl, hr2, ho2⟩
  have hp2 : PBox w2 c0 g := (ho2.block c0 HP1.out.lt (by omega) (by simp)).trans HP1.out
  have hX2 := ebox_only HX1.out ho2 (by omega)
  clear hpc
  have hpc := hp2.cell
  have HBR2 : Hid (0 < l.length → BRd w2 x l) := Lib.hid fun hp => brd_later HR1.out HBR.out hp ho2
  obtain ⟨A, cap, hxf⟩ := HBR.out.form
  subst hxf
  have HP2 := Lib.hid hp2
  have HX2 := Lib.hid hX2
  have HR2 := Lib.hid hr2
  have HO2 := Lib.hid (HO1.out.trans ho2)
  clear hp2 hX2 hr2 ho2
  obtain ⟨r0, r1, r2, r3, r4, r5, r6, r7, r8, r9, r10⟩ := HX2.out.cells
  obtain ⟨f0, f1, f2, f3, f4, f5, f6, f7, f8, f9, f10⟩ := ebox_frees HX2.out
  have hltx := HX2.out.lt
  match l, hl1 with
  | [], _ =>
    go_wp2_with fail
    refine bodyPost_ret (v := .tuple #[.agg #[.int .i64 0, .int .u64 0, .int .i64 0, .int .u64 0, .string ⟨#[]⟩, .string ⟨#[]⟩, .int .i64 0, .int .i64 0, .float .f64 0, .string ⟨#[]⟩, .slice none 0 0], .bool false]) (by simp [results, Tryz.results8, go_sem, r0, r1, r2, r3, r4, r5, r6, r7, r8, r9, r10]) rfl ?_
    exact eread_no HN.out (rs_set11 HR2.out (by omega) _ _ _ _ _ _ _ _ _ _ _) (only_set11 HO2.out (by rw [← HC0.out]; omega) _ _ _ _ _ _ _ _ _ _ _)
  | [c], _ =>
    rcases HBR2.out (by simp) with ⟨h1, -⟩ | ⟨b, off, cap2, h1, h2, h3, h4, h5⟩
    · cases h1
    · injection h1 with h1 _ h1c
      subst h1 h1c
      have c1 := h5 0 (by simp)
      simp only [Nat.add_zero, List.getElem_cons_zero] at c1
      clear h5 h2 h3
      by_cases hc : c = 1
      · subst hc
        have hok := rs_ok HR2.out
        have HOK := Lib.hid hok
        clear hok
        cases hbad : s1.2 with
        | true =>
          rw [hbad] at HOK
          go_wp2_with fail
          refine HOK.out.mono ?_
          rintro e w3 ⟨rfl, rfl⟩
          go_wp2_with fail
          refine bodyPost_ret (v := .tuple #[.agg #[.int .i64 0, .int .u64 0, .int .i64 0, .int .u64 0, .string ⟨#[]⟩, .string ⟨#[]⟩, .int .i64 0, .int .i64 0, .float .f64 0, .string ⟨#[]⟩, .slice none 0 0], .bool false]) (by simp [results, Tryz.results8, go_sem, r0, r1, r2, r3, r4, r5, r6, r7, r8, r9, r10]) rfl ?_
          exact eread_no HN.out (rs_set11 HR2.out (by omega) _ _ _ _ _ _ _ _ _ _ _) (only_set11 HO2.out (by rw [← HC0.out]; omega) _ _ _ _ _ _ _ _ _ _ _)
        | false =>
          rw [hbad] at HOK
          have hk4 : 11 < k := by
            rcases HQQ.out with h | h | h
            · exact absurd rfl h
            · rw [hbad] at h; cases h
            · exact h
          have k1 : decide ((k : Int) > 11) = true := decide_eq_true (by omega)
          have k2 : decide ((11 : Int) < (k : Int)) = true := decide_eq_true (by omega)
          have k3 : decide (11 < k) = true := decide_eq_true hk4
          go_wp2_with fail
          refine HOK.out.mono ?_
          rintro e w3 ⟨rfl, rfl⟩
          go_wp2_with fail
          refine bodyPost_ret (v := .tuple #[.agg #[.int .i64 0, .int .u64 0, .int .i64 0, .int .u64 0, .string ⟨#[]⟩, .string ⟨#[]⟩, .int .i64 0, .int .i64 0, .float .f64 0, .string ⟨#[]⟩, .slice none 0 0], .bool false]) (by simp [results, Tryz.results8, go_sem, r0, r1, r2, r3, r4, r5, r6, r7, r8, r9, r10]) rfl ?_
          exact eread_no HN.out (rs_set11 HR2.out (by omega) _ _ _ _ _ _ _ _ _ _ _) (only_set11 HO2.out (by rw [← HC0.out]; omega) _ _ _ _ _ _ _ _ _ _ _)
      · have hcn : ¬ ((c : Int) = 1) := by omega
        go_wp2_with fail
        refine bodyPost_ret (v := .tuple #[.agg #[.int .i64 0, .int .u64 0, .int .i64 0, .int .u64 0, .string ⟨#[]⟩, .string ⟨#[]⟩, .int .i64 0, .int .i64 0, .float .f64 0, .string ⟨#[]⟩, .slice none 0 0], .bool false]) (by simp [results, Tryz.results8, go_sem, r0, r1, r2, r3, r4, r5, r6, r7, r8, r9, r10]) rfl ?_
        exact eread_no HN.out (rs_set11 HR2.out (by omega) _ _ _ _ _ _ _ _ _ _ _) (only_set11 HO2.out (by rw [← HC0.out]; omega) _ _ _ _ _ _ _ _ _ _ _)

end Rd
end Go.Proofs.YtcbddebmmaflgaaGreatDoor
