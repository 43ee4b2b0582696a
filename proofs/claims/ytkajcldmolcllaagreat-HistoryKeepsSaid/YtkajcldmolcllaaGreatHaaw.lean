/- The reference's With: a list of activities, one of them replaced or removed. -/
/- The reference's outside: what it asks and answers. -/
/- The reference's outside: an activity dispatched. -/
/- The reference's outside: a start. -/
import Derived.Laws.Rows
import Derived.Laws.IdiomRangeMap
import Derived.Test.YtkajcldmolcllaaGreatHaav
set_option linter.unusedVariables false
set_option linter.unusedSimpArgs false
open Go.RowKit
namespace Go.Proofs.YtkajcldmolcllaaGreat
namespace Hi
open _root_.Go.Proofs.YtkajcldmolcllaaGreat.Nm (ret_int ret_bool)
open Vt (VT Rep below_drew Cloned put5)
open Ev (EV FieldsOk evCells vCells)
open Cm (rowOf EvsIn)
open Cn (BT BtsIn)
variable {X X' Y Y' : Nat → Prop} {u v w w' V V' : World} {hb bt bm bk n cap : Nat} {A : Option Addr} {h : HM}

theorem Tryz.infoRt : (Tryz.prog.info? 105).map (fun i => (i.zero, i.size, i.bytes)) = some (some (.agg #[.int .u64 0, .string ⟨#[]⟩, .int .i64 0, .int .i64 0, .float .f64 0, .string ⟨#[]⟩, .slice none 0 0, .int .i64 0, .bool false, .int .u64 0]), 10, 112) := by kernel_rfl

theorem sz_of {e : TypeId} {i0 : TypeInfo} {k : Nat} (hi : Tryz.prog.info? e = some i0) (h1 : i0.size = k) : ∀ w, (Go.sizeOf e).run Tryz.prog w = .ok k w := fun w => by
 rw [run_sizeOf _ hi]; simp [Program.cellsOf, hi, h1]
theorem below_grown {B : Nat} {W W' : World} {row : Option Nat} (h : Below B w W) (g : W.grownBy W' row) (hr : ∀ r, row = some r → B ≤ r) (hB : B ≤ W.heap.size) : Below B w W' :=
 h.trans ⟨g.os, g.tape, g.output, g.size, fun b hb => g.block b (by omega) (fun e => by have := hr b e.symm; omega)⟩
theorem CIn.mk' {b off m k cp : Nat} {xs : List Value} (h0 : xs.length = m * k) (h1 : ∀ x ∈ xs, x.oneCell' = true) (h2 : m ≤ cp) (h3 : cp ≤ maxLen) (h4 : b < w.heap.size) (h5 : ∀ p x, xs[p]? = some x → w.cell? ⟨b, off + p, none⟩ = some x) : CIn w (.slice (some ⟨b, off, none⟩) m cp) m k xs :=
 ⟨h0, h1, _, cp, rfl, h2, h3, fun _ => ⟨b, off, rfl, h4, h5⟩⟩
theorem CIn.take {b off m k cp j : Nat} {xs : List Value} (h0 : xs.length = m * k) (h1 : ∀ x ∈ xs, x.oneCell' = true) (h2 : m ≤ cp) (h3 : cp ≤ maxLen) (h4 : b < w.heap.size) (h5 : ∀ p x, xs[p]? = some x → w.cell? ⟨b, off + p, none⟩ = some x) (hj : j ≤ m) : CIn w (.slice (some ⟨b, off, none⟩) j cp) j k (xs.take (j * k)) :=
 CIn.mk' (by have := Nat.mul_le_mul_right k hj; rw [List.length_take]; omega) (fun x hx => h1 x (List.mem_of_mem_take hx)) (by omega) h3 h4 fun p x hx => by
  rw [List.getElem?_take] at hx
  split at hx
  ·exact h5 p x hx
  ·cases hx
theorem CIn.drop {b off m k cp j : Nat} {xs : List Value} (h0 : xs.length = m * k) (h1 : ∀ x ∈ xs, x.oneCell' = true) (h2 : m ≤ cp) (h3 : cp ≤ maxLen) (h4 : b < w.heap.size) (h5 : ∀ p x, xs[p]? = some x → w.cell? ⟨b, off + p, none⟩ = some x) (hj : j ≤ m) : CIn w (.slice (some ⟨b, off + j * k, none⟩) (m - j) (cp - j)) (m - j) k (xs.drop (j * k)) :=
 CIn.mk' (by rw [List.length_drop, h0, Nat.sub_mul]) (fun x hx => h1 x (List.mem_of_mem_drop hx)) (by omega) (by omega) h4 fun p x hx => by
  rw [List.getElem?_drop] at hx
  rw [Nat.add_assoc]
  exact h5 _ x hx
theorem tCells_one (t : TK) (k n : Int) (f : Nat) (s : ByteArray) (A : Option Addr) (m c : Nat) : ∀ x ∈ (tCells t k n f s A m c).toList, x.oneCell' = true := by
 intro x hx
 simp [tCells] at hx
 rcases hx with rfl | rfl | rfl | rfl | rfl | rfl | rfl | rfl | rfl | rfl <;> rfl

set_option maxRecDepth 100000 in
set_option maxHeartbeats 2000000 in
theorem rwith_any (N : Nat) (xs : List Value) (i : Nat) (hi : i < N) (t : TK) (k n : Int) (f : Nat) (s : ByteArray) (A : Option Addr) (m c : Nat) (dn : Bool) (ut : Value) (w : World) (h : CIn w ut N 10 xs) (hcap : N ≤ 1200000000000) :
  Calls Tryz.prog 55 #[ut, .int .i64 (i : Nat), .agg (tCells t k n f s A m c), .bool dn] w fun r w' => ∃ u', r = .returned u' ∧ w'.ownsRow w.heap.size 105 10 u' (i + ((if dn then 0 else 1) + (N - (i + 1)))) (xs.take (i * 10) ++ ((if dn then [] else (tCells t k n f s A m c).toList) ++ xs.drop ((i + 1) * 10))) ∧ Below w.heap.size w w' := by
 obtain ⟨hlen, h1, A1, cp, rfl, hle, hcp, hrd⟩ := h
 obtain ⟨b, off, rfl, hblt, h3⟩ := hrd (by omega)
 obtain ⟨i0, hi0, hz0, hz1, hz2⟩ := info_parts Tryz.infoRt
 obtain ⟨W0, hW0⟩ : ∃ W0, W0 = w.alloc (.cells (tCells t k n f s A m c) 105) := ⟨_, rfl⟩
 obtain ⟨W1, hW1⟩ : ∃ W1, W1 = W0.alloc (.cells #[] 105) := ⟨_, rfl⟩
 have hb0 : Below w.heap.size w W0 := by rw [hW0]; exact (Below.refl _ _).alloc (Nat.le_refl _) _
 have hb1 : Below w.heap.size w W1 := by rw [hW1]; exact hb0.alloc hb0.size _
 have hs0 : W0.heap.size = w.heap.size + 1 := by rw [hW0]; simp
 have hs1 : W1.heap.size = w.heap.size + 2 := by rw [hW1]; simp [hs0]
 have hown1 : W1.ownsRow w.heap.size 105 10 (.slice (some ⟨W0.heap.size, 0, none⟩) 0 0) 0 [] := by
  rw [hW1]; exact World.ownsRow_lit W0 #[] 0 hb0.size (Nat.zero_le _) (by simp)
 have HTB : Hid (∀ W, Below (w.heap.size + 1) W0 W → W.heap[w.heap.size]? = some (.cells (tCells t k n f s A m c) 105 (0, 0))) := Lib.hid fun W hW => by
  rw [hW.block _ (by omega), hW0]; exact heap_alloc_new ..
 have HC : Hid (∀ W, Below w.heap.size w W → ∀ p x, xs[p]? = some x → W.cell? ⟨b, off + p, none⟩ = some x) := Lib.hid fun W hW p x hx => (hW.cell (p := ⟨b, off + p, none⟩) hblt).trans (h3 p x hx)
 have HT1 : Hid (∀ W, Below w.heap.size w W → CIn W (.slice (some ⟨b, off, none⟩) i cp) i 10 (xs.take (i * 10))) := Lib.hid fun W hW => CIn.take hlen h1 hle hcp (Nat.lt_of_lt_of_le hblt hW.size) (HC.out W hW) (by omega)
 have HT2 : Hid (∀ W, Below w.heap.size w W → CIn W (.slice (some ⟨b, off + (i + 1) * 10, none⟩) (N - (i + 1)) (cp - (i + 1))) (N - (i + 1)) 10 (xs.drop ((i + 1) * 10))) := Lib.hid fun W hW => CIn.drop hlen h1 hle hcp (Nat.lt_of_lt_of_le hblt hW.size) (HC.out W hW) (by omega)
 have HSZ := Lib.hid (sz_of hi0 hz1)
 have hx1 : xs.take (i * 10) = xs.take (i * 10) := rfl
 simp only [maxLen] at hcp
 have HB0 := Lib.hid hb0; have HB1 := Lib.hid hb1; have HO1 := Lib.hid hown1
 have HS0 := Lib.hid hs0; have HS1 := Lib.hid hs1; have HL := Lib.hid hlen
 have HB01 : Hid (Below (w.heap.size + 1) W0 W1) := Lib.hid (by rw [hW1]; exact (Below.refl _ _).alloc (by omega) _)
 clear hrd h1 hlen h3 hown1 hb0 hb1 hs0 hs1 hx1
 unfold tCells at hW0 HTB ⊢
 replace hW0 := Lib.hid hW0; replace hW1 := Lib.hid hW1
 go_enter Tryz.func55, Tryz.ntmps55
 go_upto_region 1 with fail
 rw [← hW0.out]
 go_upto_region 2 with (at_builtin; rw [← hW1.out]; refine wpList_append_any _ rfl _ _ 29 105 rfl i0 _ 10 112 Tryz.underlying29 HSZ.out hi0 hz0 hz1 hz2 rfl (by decide) w.heap.size _ _ 0 i [] (xs.take (i * 10)) rfl rfl HO1.out (HT1.out _ HB1.out) (by simp only [maxLen]; omega) (by omega) HB1.out.size ?_; intro v1 w1 hown2 hgrow2 hat2)
 have hb1 : Below (w.heap.size + 1) W0 w1 := below_grown HB01.out hgrow2 (fun r hr => by have e : W0.heap.size = r := Option.some.inj hr; have := HS0.out; omega) (by have := HS1.out; omega)
 have HV1 : Hid (∀ r, v1.ownBlock = some r → w.heap.size + 1 ≤ r) := Lib.hid fun r hr => by
  have := HS0.out; have := HS1.out
  rcases hat2 with e | e
  ·have e2 : W0.heap.size = r := Option.some.inj (e.symm.trans hr); omega
  ·have e2 : W1.heap.size = r := Option.some.inj (e.symm.trans hr); omega
 have HBW : Hid (∀ W, Below (w.heap.size + 1) W0 W → Below w.heap.size w W) := Lib.hid fun W hW => HB0.out.trans (hW.mono (Nat.le_succ _))
 rw [Nat.zero_add, List.nil_append] at hown2
 have HO2 := Lib.hid hown2; have HB1' := Lib.hid hb1
 clear hown2 hgrow2 hat2 hb1
 have hv1 : Hid (w.heap.size + 1 ≤ w1.heap.size) := Lib.hid (by have := HB1'.out.size; have := HS0.out; omega)
 have HT3 : Hid (cp = i + 1 → ∀ W, Below w.heap.size w W → CIn W (.slice (some ⟨b, off, none⟩) (N - (i + 1)) 0) (N - (i + 1)) 10 (xs.drop ((i + 1) * 10))) := Lib.hid fun e W hW => by
  have := HL.out
  rw [List.drop_of_length_le (by omega), show N - (i + 1) = 0 by omega]
  exact ⟨by simp, by simp, _, 0, rfl, Nat.zero_le _, Nat.zero_le _, fun h => absurd h (by omega)⟩
 by_cases hcpi : cp = i + 1
 ·have HT4 := Lib.hid (HT3.out hcpi)
  cases dn with
  | true =>
   go_wp2_with (at_builtin; refine wpList_append_any _ rfl _ _ 29 105 rfl i0 _ 10 112 Tryz.underlying29 HSZ.out hi0 hz0 hz1 hz2 rfl (by decide) w.heap.size _ _ i (N - (i + 1)) (xs.take (i * 10)) (xs.drop ((i + 1) * 10)) rfl rfl HO2.out (HT4.out _ (HBW.out _ HB1'.out)) (by simp only [maxLen]; omega) (by omega) (HBW.out _ HB1'.out).size ?_; intro v3 w3 hown4 hgrow4 hat4)
   have HB4 : Hid (Below w.heap.size w w3) := Lib.hid (HBW.out _ (below_grown HB1'.out hgrow4 HV1.out hv1.out))
   have HO4 := Lib.hid hown4
   clear hown4 hgrow4 hat4
   go_ret
   exact ⟨v3, rfl, HO4.out, HB4.out⟩
  | false =>
   obtain ⟨W2, hW2⟩ : ∃ W2, W2 = w1.alloc (.cells #[.int .u64 (t.id : Nat), .string t.name, .int .i64 k, .int .i64 n, .float .f64 f, .string s, .slice A m c, .int .i64 t.n, .bool t.fl, .int .u64 (t.at' : Nat)] 105) := ⟨_, rfl⟩
   have hb2 : Below (w.heap.size + 1) W0 W2 := by rw [hW2]; exact HB1'.out.alloc hv1.out _
   have HO3 : Hid (W2.ownsRow w.heap.size 105 10 v1 i (xs.take (i * 10))) := Lib.hid (by rw [hW2]; exact HO2.out.alloc _)
   have HI3 : Hid (CIn W2 (.slice (some ⟨w1.heap.size, 0, none⟩) 1 1) 1 10 (tCells t k n f s A m c).toList) := Lib.hid (by rw [hW2]; exact CIn.new w1 _ _ rfl (tCells_one t k n f s A m c))
   have hs2 : W2.heap.size = w1.heap.size + 1 := by rw [hW2]; simp
   have HS2 := Lib.hid hs2; have HB2 := Lib.hid hb2
   have hv2 : Hid (w.heap.size + 1 ≤ W2.heap.size) := Lib.hid (by have := hv1.out; omega)
   clear hs2 hb2
   replace hW2 := Lib.hid hW2
   have e0 := HTB.out w1 HB1'.out
   have c0 : w1.cell? ⟨w.heap.size, 0, none⟩ = some (.int .u64 (t.id : Nat)) := by simp [World.cell?, e0]
   have c1 : w1.cell? ⟨w.heap.size, 1, none⟩ = some (.string t.name) := by simp [World.cell?, e0]
   have c2 : w1.cell? ⟨w.heap.size, 2, none⟩ = some (.int .i64 k) := by simp [World.cell?, e0]
   have c3 : w1.cell? ⟨w.heap.size, 3, none⟩ = some (.int .i64 n) := by simp [World.cell?, e0]
   have c4 : w1.cell? ⟨w.heap.size, 4, none⟩ = some (.float .f64 f) := by simp [World.cell?, e0]
   have c5 : w1.cell? ⟨w.heap.size, 5, none⟩ = some (.string s) := by simp [World.cell?, e0]
   have c6 : w1.cell? ⟨w.heap.size, 6, none⟩ = some (.slice A m c) := by simp [World.cell?, e0]
   have c7 : w1.cell? ⟨w.heap.size, 7, none⟩ = some (.int .i64 t.n) := by simp [World.cell?, e0]
   have c8 : w1.cell? ⟨w.heap.size, 8, none⟩ = some (.bool t.fl) := by simp [World.cell?, e0]
   have c9 : w1.cell? ⟨w.heap.size, 9, none⟩ = some (.int .u64 (t.at' : Nat)) := by simp [World.cell?, e0]
   clear e0
   go_upto_region 4 with (at_builtin; rw [← hW2.out]; refine wpList_append_any _ rfl _ _ 29 105 rfl i0 _ 10 112 Tryz.underlying29 HSZ.out hi0 hz0 hz1 hz2 rfl (by decide) w.heap.size _ _ i 1 (xs.take (i * 10)) (tCells t k n f s A m c).toList rfl rfl HO3.out HI3.out (by simp only [maxLen]; omega) (by omega) (HBW.out _ HB2.out).size ?_; intro v2 w2 hown3 hgrow3 hat3)
   have HB3 : Hid (Below (w.heap.size + 1) W0 w2) := Lib.hid (below_grown HB2.out hgrow3 HV1.out hv2.out)
   have HV2 : Hid (∀ r, v2.ownBlock = some r → w.heap.size + 1 ≤ r) := Lib.hid fun r hr => by
    rcases hat3 with e | e
    ·exact HV1.out r (e.symm.trans hr)
    ·have e2 : W2.heap.size = r := Option.some.inj (e.symm.trans hr); have := hv2.out; omega
   have hv3 : Hid (w.heap.size + 1 ≤ w2.heap.size) := Lib.hid (by have := HB3.out.size; have := HS0.out; omega)
   have HO3' : Hid (w2.ownsRow w.heap.size 105 10 v2 (i + 1) (xs.take (i * 10) ++ (tCells t k n f s A m c).toList)) := Lib.hid hown3
   clear hown3 hgrow3 hat3 c0 c1 c2 c3 c4 c5 c6 c7 c8 c9
   go_wp2_with (at_builtin; refine wpList_append_any _ rfl _ _ 29 105 rfl i0 _ 10 112 Tryz.underlying29 HSZ.out hi0 hz0 hz1 hz2 rfl (by decide) w.heap.size _ _ (i + 1) (N - (i + 1)) (xs.take (i * 10) ++ (tCells t k n f s A m c).toList) (xs.drop ((i + 1) * 10)) rfl rfl HO3'.out (HT4.out _ (HBW.out _ HB3.out)) (by simp only [maxLen]; omega) (by omega) (HBW.out _ HB3.out).size ?_; intro v3 w3 hown4 hgrow4 hat4)
   have HB4 : Hid (Below w.heap.size w w3) := Lib.hid (HBW.out _ (below_grown HB3.out hgrow4 HV2.out hv3.out))
   have HO4 := Lib.hid hown4
   clear hown4 hgrow4 hat4
   go_ret
   exact ⟨v3, rfl, (by have q := HO4.out; rw [List.append_assoc, Nat.add_assoc] at q; exact q), HB4.out⟩
 ·cases dn with
  | true =>
   go_wp2_with (at_builtin; refine wpList_append_any _ rfl _ _ 29 105 rfl i0 _ 10 112 Tryz.underlying29 HSZ.out hi0 hz0 hz1 hz2 rfl (by decide) w.heap.size _ _ i (N - (i + 1)) (xs.take (i * 10)) (xs.drop ((i + 1) * 10)) rfl rfl HO2.out (HT2.out _ (HBW.out _ HB1'.out)) (by simp only [maxLen]; omega) (by omega) (HBW.out _ HB1'.out).size ?_; intro v3 w3 hown4 hgrow4 hat4)
   have HB4 : Hid (Below w.heap.size w w3) := Lib.hid (HBW.out _ (below_grown HB1'.out hgrow4 HV1.out hv1.out))
   have HO4 := Lib.hid hown4
   clear hown4 hgrow4 hat4
   go_ret
   exact ⟨v3, rfl, HO4.out, HB4.out⟩
  | false =>
   obtain ⟨W2, hW2⟩ : ∃ W2, W2 = w1.alloc (.cells #[.int .u64 (t.id : Nat), .string t.name, .int .i64 k, .int .i64 n, .float .f64 f, .string s, .slice A m c, .int .i64 t.n, .bool t.fl, .int .u64 (t.at' : Nat)] 105) := ⟨_, rfl⟩
   have hb2 : Below (w.heap.size + 1) W0 W2 := by rw [hW2]; exact HB1'.out.alloc hv1.out _
   have HO3 : Hid (W2.ownsRow w.heap.size 105 10 v1 i (xs.take (i * 10))) := Lib.hid (by rw [hW2]; exact HO2.out.alloc _)
   have HI3 : Hid (CIn W2 (.slice (some ⟨w1.heap.size, 0, none⟩) 1 1) 1 10 (tCells t k n f s A m c).toList) := Lib.hid (by rw [hW2]; exact CIn.new w1 _ _ rfl (tCells_one t k n f s A m c))
   have hs2 : W2.heap.size = w1.heap.size + 1 := by rw [hW2]; simp
   have HS2 := Lib.hid hs2; have HB2 := Lib.hid hb2
   have hv2 : Hid (w.heap.size + 1 ≤ W2.heap.size) := Lib.hid (by have := hv1.out; omega)
   clear hs2 hb2
   replace hW2 := Lib.hid hW2
   have e0 := HTB.out w1 HB1'.out
   have c0 : w1.cell? ⟨w.heap.size, 0, none⟩ = some (.int .u64 (t.id : Nat)) := by simp [World.cell?, e0]
   have c1 : w1.cell? ⟨w.heap.size, 1, none⟩ = some (.string t.name) := by simp [World.cell?, e0]
   have c2 : w1.cell? ⟨w.heap.size, 2, none⟩ = some (.int .i64 k) := by simp [World.cell?, e0]
   have c3 : w1.cell? ⟨w.heap.size, 3, none⟩ = some (.int .i64 n) := by simp [World.cell?, e0]
   have c4 : w1.cell? ⟨w.heap.size, 4, none⟩ = some (.float .f64 f) := by simp [World.cell?, e0]
   have c5 : w1.cell? ⟨w.heap.size, 5, none⟩ = some (.string s) := by simp [World.cell?, e0]
   have c6 : w1.cell? ⟨w.heap.size, 6, none⟩ = some (.slice A m c) := by simp [World.cell?, e0]
   have c7 : w1.cell? ⟨w.heap.size, 7, none⟩ = some (.int .i64 t.n) := by simp [World.cell?, e0]
   have c8 : w1.cell? ⟨w.heap.size, 8, none⟩ = some (.bool t.fl) := by simp [World.cell?, e0]
   have c9 : w1.cell? ⟨w.heap.size, 9, none⟩ = some (.int .u64 (t.at' : Nat)) := by simp [World.cell?, e0]
   clear e0
   go_upto_region 4 with (at_builtin; rw [← hW2.out]; refine wpList_append_any _ rfl _ _ 29 105 rfl i0 _ 10 112 Tryz.underlying29 HSZ.out hi0 hz0 hz1 hz2 rfl (by decide) w.heap.size _ _ i 1 (xs.take (i * 10)) (tCells t k n f s A m c).toList rfl rfl HO3.out HI3.out (by simp only [maxLen]; omega) (by omega) (HBW.out _ HB2.out).size ?_; intro v2 w2 hown3 hgrow3 hat3)
   have HB3 : Hid (Below (w.heap.size + 1) W0 w2) := Lib.hid (below_grown HB2.out hgrow3 HV1.out hv2.out)
   have HV2 : Hid (∀ r, v2.ownBlock = some r → w.heap.size + 1 ≤ r) := Lib.hid fun r hr => by
    rcases hat3 with e | e
    ·exact HV1.out r (e.symm.trans hr)
    ·have e2 : W2.heap.size = r := Option.some.inj (e.symm.trans hr); have := hv2.out; omega
   have hv3 : Hid (w.heap.size + 1 ≤ w2.heap.size) := Lib.hid (by have := HB3.out.size; have := HS0.out; omega)
   have HO3' : Hid (w2.ownsRow w.heap.size 105 10 v2 (i + 1) (xs.take (i * 10) ++ (tCells t k n f s A m c).toList)) := Lib.hid hown3
   clear hown3 hgrow3 hat3 c0 c1 c2 c3 c4 c5 c6 c7 c8 c9
   go_wp2_with (at_builtin; refine wpList_append_any _ rfl _ _ 29 105 rfl i0 _ 10 112 Tryz.underlying29 HSZ.out hi0 hz0 hz1 hz2 rfl (by decide) w.heap.size _ _ (i + 1) (N - (i + 1)) (xs.take (i * 10) ++ (tCells t k n f s A m c).toList) (xs.drop ((i + 1) * 10)) rfl rfl HO3'.out (HT2.out _ (HBW.out _ HB3.out)) (by simp only [maxLen]; omega) (by omega) (HBW.out _ HB3.out).size ?_; intro v3 w3 hown4 hgrow4 hat4)
   have HB4 : Hid (Below w.heap.size w w3) := Lib.hid (HBW.out _ (below_grown HB3.out hgrow4 HV2.out hv3.out))
   have HO4 := Lib.hid hown4
   clear hown4 hgrow4 hat4
   go_ret
   exact ⟨v3, rfl, (by have q := HO4.out; rw [List.append_assoc, Nat.add_assoc] at q; exact q), HB4.out⟩
end Hi
end Go.Proofs.YtkajcldmolcllaaGreat
namespace Go.Proofs.YtkajcldmolcllaaGreat
namespace Hi
open _root_.Go.Proofs.YtkajcldmolcllaaGreat.Nm (ret_int ret_bool)
open Vt (VT Rep below_drew Cloned put5)
open Ev (EV FieldsOk evCells vCells EBox take_drop tk ap cons_drop)
open Cm (rowOf EvsIn)
open Cn (BT BB BtsIn box_ev)
variable {X X' Y Y' : Nat → Prop} {u v w w' V V' : World} {hb bt bm bk n cap : Nat} {A : Option Addr} {h : HM}

structure RS (w : World) (s : ST) (uk ut um : Value) : Prop where
 keys : RSt w uk s.keys
 tasks : RTk w ut s.tasks
 timers : RTm w um s.timers
theorem RS.leads {s : ST} {uk ut um : Value} (h : RS v s uk ut um) (hl : Leads v w) : RS w s uk ut um :=
 ⟨h.keys.elim fun xs k => ⟨xs, k.1.leads hl, k.2⟩, h.tasks.elim fun xs k => ⟨xs, k.1.leads hl, k.2.leads hl⟩, h.timers.elim fun xs k => ⟨xs, k.1.leads hl, k.2⟩⟩
theorem RS.later {s : ST} {uk ut um : Value} (h : RS w s uk ut um) (hb : Below w.heap.size w w') : RS w' s uk ut um := h.leads (Leads.of_below hb)
def ROut (X : Nat → Prop) (w : World) (f : ByteArray) (ub : Value) (o : Option ST) (r : Ending) (w' : World) : Prop := Below w.heap.size w w' ∧ ∃ cl nx uk ut um, (∃ A n c, uk = .slice A n c) ∧ (∃ A n c, ut = .slice A n c) ∧ (∃ A n c, um = .slice A n c) ∧ r = .returned (.tuple #[.agg (rhC f ub cl nx uk ut um), .bool o.isSome]) ∧ ∀ s', o = some s' → cl = s'.closed ∧ nx = s'.next ∧ RS (veil X w') s' uk ut um
structure OIn (X : Nat → Prop) (w : World) (s : ST) (uk ut um : Value) (b : BT) (A : Option Addr) (cap : Nat) : Prop where
 rs : RS (veil X w) s uk ut um
 evs : EvsIn (veil X w) A cap b.es
 xb : ∀ c, X c → c < w.heap.size
 fine : Fine s
 flow : b.flow.size ≤ maxLen
 at' : b.at' < 18446744073709551616
 n1 : s.tasks.length ≤ 1200000000000
 n2 : s.timers.length ≤ 1200000000000
 n3 : s.keys.length ≤ 1200000000000
 n4 : s.next ≤ 1200000000000
theorem veil_below (X : Nat → Prop) (hb : Below w.heap.size w w') : Leads (veil X w) (veil X w') := leads_veils hb.size fun b hlt hx => ⟨hx, hb.block b hlt⟩
theorem CIn.of_veil {base : Nat} {T : TypeId} {k n : Nat} {v : Value} {xs : List Value} (h : w.ownsRow base T k v n xs) (h1 : ∀ x ∈ xs, x.oneCell' = true) (hX : ∀ c, X c → c < base) : CIn (veil X w) v n k xs := by
 refine ⟨h.1, h1, ?_⟩
 rcases h.2 with ⟨rfl, h0⟩ | ⟨r, cp, cur, rfl, q2, q3, q4, q5, q6, q7⟩
 ·exact ⟨none, 0, by rw [h0], by omega, Nat.zero_le _, fun hp => absurd hp (by omega)⟩
 ·refine ⟨_, cp, rfl, q4, q5, fun _ => ⟨r, 0, rfl, by rw [veil_size]; exact (Array.getElem?_eq_some_iff.1 q3).1, fun p x hx => ?_⟩⟩
  have hlt := (List.getElem?_eq_some_iff.1 hx).1
  rw [h.1] at hlt
  rw [← q7, List.getElem?_take_of_lt hlt, Array.getElem?_toList] at hx
  have hv := (veil_off (X := X) (w := w) (b := r) (fun q => by have := hX r q; omega)).trans q3
  simp [World.cell?, hv, hx]
theorem rtk_with {W : World} {base i lo hi' N : Nat} {ts : List TK} {xs : List Value} {t : TK} {k n : Int} {f : Nat} {s : ByteArray} {A : Option Addr} {m c : Nat} {dn : Bool} {u : Value} (hi : i < ts.length) (ht : TOk t) (hr : Rep (veil X w) lo hi' t.v (vCells k n f s A m c)) (hh : hi' ≤ w.heap.size) (hbt : TkC (veil X w) xs ts) (h1 : ∀ x ∈ xs, x.oneCell' = true) (hb : Below w.heap.size w W) (hN : N = i + ((if dn then 0 else 1) + (ts.length - (i + 1))))
  (ho : W.ownsRow base 105 10 u N (xs.take (i * 10) ++ ((if dn then [] else (tCells t k n f s A m c).toList) ++ xs.drop ((i + 1) * 10)))) (hX : ∀ c, X c → c < base) :
  RTk (veil X W) u (ts.take i ++ ((if dn then [] else [t]) ++ ts.drop (i + 1))) := by
 have hl := veil_below X hb
 have e : (ts.take i ++ ((if dn then [] else [t]) ++ ts.drop (i + 1))).length = i + ((if dn then 0 else 1) + (ts.length - (i + 1))) := by simp only [List.length_append, List.length_take, List.length_drop]; cases dn <;> simp <;> omega
 refine ⟨_, ?_, ((hbt.leads hl).take i (by omega)).append (TkC.append (?_ : TkC (veil X W) (if dn then [] else (tCells t k n f s A m c).toList) (if dn then [] else [t])) ((hbt.leads hl).drop (i + 1) (by omega)))⟩
 ·rw [e, ← hN]
  refine CIn.of_veil ho ?_ hX
  intro x hx
  rcases List.mem_append.1 hx with q | q
  ·exact h1 x (List.mem_of_mem_take q)
  ·rcases List.mem_append.1 q with q | q
   ·cases dn with
    | true => cases q
    | false => exact tCells_one _ _ _ _ _ _ _ _ x q
   ·exact h1 x (List.mem_of_mem_drop q)
 ·cases dn with
  | true => exact TkC.nil _
  | false => exact TkC.one ht (Rep.leads hr hl) (by rw [veil_size]; exact Nat.le_trans hh hb.size)
theorem RX.set5 {g : Nat} {f : ByteArray} {ub uk ut um v : Value} {cl : Int} {nx : Nat} (h : RX w g f ub cl nx uk ut um) : RX (w.setCell ⟨g, 5, none⟩ v) g f ub cl nx uk v um := by
 unfold RX rhC at *; simp [World.setCell, Array.getElem?_modify, h]
theorem RX.set3 {g : Nat} {f : ByteArray} {ub uk ut um : Value} {cl : Int} {nx : Nat} (h : RX w g f ub cl nx uk ut um) : RX (w.setCell ⟨g, 3, none⟩ (.int .u64 ((nx : Int) + 1))) g f ub cl (nx + 1) uk ut um := by
 unfold RX rhC at *; simp [World.setCell, Array.getElem?_modify, h]
theorem RX.set2 {g : Nat} {f : ByteArray} {ub uk ut um : Value} {cl c2 : Int} {nx : Nat} (h : RX w g f ub cl nx uk ut um) : RX (w.setCell ⟨g, 2, none⟩ (.int .i64 c2)) g f ub c2 nx uk ut um := by
 unfold RX rhC at *; simp [World.setCell, Array.getElem?_modify, h]
theorem RX.set6 {g : Nat} {f : ByteArray} {ub uk ut um v : Value} {cl : Int} {nx : Nat} (h : RX w g f ub cl nx uk ut um) : RX (w.setCell ⟨g, 6, none⟩ v) g f ub cl nx uk ut v := by
 unfold RX rhC at *; simp [World.setCell, Array.getElem?_modify, h]
theorem RX.set4 {g : Nat} {f : ByteArray} {ub uk ut um v : Value} {cl : Int} {nx : Nat} (h : RX w g f ub cl nx uk ut um) : RX (w.setCell ⟨g, 4, none⟩ v) g f ub cl nx v ut um := by
 unfold RX rhC at *; simp [World.setCell, Array.getElem?_modify, h]
theorem RX.far {g b o : Nat} {f : ByteArray} {ub uk ut um v : Value} {cl : Int} {nx : Nat} (h : RX w g f ub cl nx uk ut um) (hb : b ≠ g) : RX (w.setCell ⟨b, o, none⟩ v) g f ub cl nx uk ut um :=
 (RowKit.Below.heap_setCell _ _ _ _ (Ne.symm hb)).trans h
theorem heap7 {g b : Nat} (h : b ≠ g) (a1 a2 a3 a4 a5 a6 a7 : Value) : (((((((w.setCell ⟨g, 0, none⟩ a1).setCell ⟨g, 1, none⟩ a2).setCell ⟨g, 2, none⟩ a3).setCell ⟨g, 3, none⟩ a4).setCell ⟨g, 4, none⟩ a5).setCell ⟨g, 5, none⟩ a6).setCell ⟨g, 6, none⟩ a7).heap[b]? = w.heap[b]? := by
 repeat rw [RowKit.Below.heap_setCell _ _ _ _ h]
theorem CIn.grown {k m b cp : Nat} {xs : List Value} {row : Option Nat} (h : CIn w (.slice (some ⟨b, 0, none⟩) m cp) m k xs) (hg : w.grownBy w' row) (hne : some b ≠ row) : CIn w' (.slice (some ⟨b, 0, none⟩) m cp) m k xs := by
 obtain ⟨h1, h2, A, c, h3, h4, h5, h6⟩ := h
 injection h3 with e1 e2 e3
 refine ⟨h1, h2, A, c, by rw [← e1, ← e3], h4, h5, fun hp => ?_⟩
 obtain ⟨b', off, q1, q2, q3⟩ := h6 hp
 rw [← e1] at q1
 cases q1
 exact ⟨b, 0, e1.symm, Nat.lt_of_lt_of_le q2 hg.size, fun p x hx => (World.cell?_of_block (a := ⟨b, 0 + p, none⟩) (hg.block b q2 hne)).trans (q3 p x hx)⟩
theorem CIn.lt {k b cp m : Nat} {xs : List Value} (h : CIn w (.slice (some ⟨b, 0, none⟩) (m + 1) cp) (m + 1) k xs) : b < w.heap.size := by
 obtain ⟨h1, h2, A, c, h3, h4, h5, h6⟩ := h
 injection h3 with e1 e2 e3
 obtain ⟨b', off, q1, q2, q3⟩ := h6 (Nat.succ_pos _)
 rw [← e1] at q1
 cases q1
 exact q2
theorem own_stay {base n k : Nat} {T : TypeId} {u : Value} {xs : List Value} (h : w.ownsRow base T k u n xs) (hb : Below w.heap.size w w') : w'.ownsRow base T k u n xs := Cn.own_keep h hb
theorem Tryz.infoStr : (Tryz.prog.info? 9).map (fun i => (i.zero, i.size, i.bytes)) = some (some (.string ⟨#[]⟩), 1, 16) := by kernel_rfl
theorem Tryz.infoRm : (Tryz.prog.info? 81).map (fun i => (i.zero, i.size, i.bytes)) = some (some (.agg #[.int .u64 0, .int .u64 0]), 2, 16) := by kernel_rfl
theorem own_slice {base n k : Nat} {T : TypeId} {u : Value} {xs : List Value} (h : w.ownsRow base T k u n xs) : ∃ A c, u = .slice A n c ∧ ∀ r, rowOf A = some r → base ≤ r := by
 rcases h.2 with ⟨rfl, h0⟩ | ⟨r, cp, cur, rfl, q2, q3⟩
 ·exact ⟨none, 0, by rw [h0], fun r h => by cases h⟩
 ·exact ⟨_, _, rfl, fun r' h => by cases h; exact q2⟩
end Hi
end Go.Proofs.YtkajcldmolcllaaGreat
namespace Go.Proofs.YtkajcldmolcllaaGreat
namespace Hi
open _root_.Go.Proofs.YtkajcldmolcllaaGreat.Nm (ret_int ret_bool)
open Vt (VT Rep below_drew Cloned put5)
open Ev (EV FieldsOk evCells vCells EBox take_drop tk ap cons_drop)
open Cm (rowOf EvsIn)
open Cn (BT BB BtsIn box_ev)
variable {X X' Y Y' : Nat → Prop} {u v w w' V V' : World} {hb bt bm bk n cap : Nat} {A : Option Addr} {h : HM}
set_option maxRecDepth 100000 in
set_option maxHeartbeats 2000000 in
theorem out2_any (s : ST) (f : ByteArray) (Bu : Option Addr) (nu cu : Nat) (uk ut um : Value) (b : BT) (A : Option Addr) (cap : Nat) (w : World) (h : OIn X w s uk ut um b A cap) (hp : 0 < b.es.length) (he : EvOk (b.es[0]'hp)) (hk : b.es[0].k = 2) :
  Calls Tryz.prog 32 #[.agg (rhC f (.slice Bu nu cu) s.closed s.next uk ut um), .agg #[.string b.flow, .int .u64 (b.at' : Nat), .slice A b.es.length cap]] w (ROut X w f (.slice Bu nu cu) (applyM b.at' (decide (b.es.length = 1)) (b.es[0]'hp) s)) := by
 obtain ⟨Ak, nk, ck, rfl⟩ : ∃ A n c, uk = .slice A n c := by obtain ⟨xs, ⟨-, -, A, c, e, -⟩, -⟩ := h.rs.keys; exact ⟨_, _, _, e⟩
 obtain ⟨Aq, nt, ct, rfl⟩ : ∃ A n c, ut = .slice A n c := by obtain ⟨xs, ⟨-, -, A, c, e, -⟩, -⟩ := h.rs.tasks; exact ⟨_, _, _, e⟩
 obtain ⟨Am, nm, cm, rfl⟩ : ∃ A n c, um = .slice A n c := by obtain ⟨xs, ⟨-, -, A, c, e, -⟩, -⟩ := h.rs.timers; exact ⟨_, _, _, e⟩
 obtain ⟨eb, eo, lo0, hi0, vk, vn, vf, vs, A0, m0, c0, rfl, heb, hff, hrep, hhi, z0, z1, z2, z3, z4, z5, z6, z7, z8, z9, z10⟩ := h.evs.get 0 hp
 have hrepV := hrep
 replace hrep := Rep.leads hrep (leads_veil X w)
 rw [veil_size] at heb hhi
 replace z0 := (leads_veil X w).cell z0
 replace z1 := (leads_veil X w).cell z1
 replace z2 := (leads_veil X w).cell z2
 replace z3 := (leads_veil X w).cell z3
 replace z4 := (leads_veil X w).cell z4
 replace z5 := (leads_veil X w).cell z5
 replace z6 := (leads_veil X w).cell z6
 replace z7 := (leads_veil X w).cell z7
 replace z8 := (leads_veil X w).cell z8
 replace z9 := (leads_veil X w).cell z9
 replace z10 := (leads_veil X w).cell z10
 have hle := h.evs.le
 have hcm := h.evs.cap_le
 simp only [maxLen] at hcm
 rw [show eo + 0 * 11 = eo by omega] at z0 z1 z2 z3 z4 z5 z6 z7 z8 z9 z10
 obtain ⟨m, hm⟩ : ∃ m, m = b.es.length := ⟨_, rfl⟩
 obtain ⟨ff, hf0⟩ : ∃ ff, ff = b.flow := ⟨_, rfl⟩
 obtain ⟨at', hat⟩ : ∃ at', at' = b.at' := ⟨_, rfl⟩
 obtain ⟨e, hee⟩ : ∃ e, e = b.es[0]'hp := ⟨_, rfl⟩
 have hbat := h.at'
 rw [← hat] at hbat
 rw [← hee] at hff hrep hrepV z0 z1 z2 z3 z4 z5 he hk ⊢
 have HRV := Lib.hid h.rs; have HRS := Lib.hid (h.rs.leads (leads_veil X w)); have HXB := Lib.hid h.xb; have HFI := Lib.hid h.fine; have hn1 := h.n1; have hn2 := h.n2; have hn3 := h.n3; have hn4 := h.n4
 rw [← hm] at hle ⊢
 rw [← hf0, ← hat]
 have hmp : 0 < m := by omega
 clear h hee hat hf0 hm hp
 obtain ⟨k, id, en, ea, name, text, ev⟩ := e
 have hid := he.f.i1
 dsimp only at hid hk hrep hrepV hff z0 z1 z2 z3 z4 z5 z6 z7 z8 z9 z10
 obtain rfl : k = 2 := hk
 have HE := Lib.hid he
 obtain ⟨W0, hW0⟩ : ∃ W0, W0 = ((w.alloc (.cells (rhC f (.slice Bu nu cu) s.closed s.next (.slice Ak nk ck) (.slice Aq nt ct) (.slice Am nm cm)) 32)).alloc (.cells #[.string ff, .int .u64 (at' : Nat), .slice (some ⟨eb, eo, none⟩) m cap] 36)).alloc (.cells (rhC ⟨#[]⟩ (.slice none 0 0) 0 0 (.slice none 0 0) (.slice none 0 0) (.slice none 0 0)) 32) := ⟨_, rfl⟩
 obtain ⟨W1, hW1⟩ : ∃ W1, W1 = W0.alloc (.cells (evCells ⟨2, id, en, ea, name, text, ev⟩ vk vn vf vs A0 m0 c0) 53) := ⟨_, rfl⟩
 have hs0 : W0.heap.size = w.heap.size + 3 := by rw [hW0]; simp
 have hs1 : W1.heap.size = w.heap.size + 4 := by rw [hW1]; simp [hs0]
 have hb0 : Below w.heap.size w W0 := by rw [hW0]; exact (((Below.refl _ _).alloc (Nat.le_refl _) _).alloc (by simp) _).alloc (by simp; omega) _
 have hb1 : Below w.heap.size w W1 := by rw [hW1]; exact hb0.alloc (by omega) _
 have hx0 : W0.heap[w.heap.size]? = some (.cells (rhC f (.slice Bu nu cu) s.closed s.next (.slice Ak nk ck) (.slice Aq nt ct) (.slice Am nm cm)) 32 (0, 0)) := by rw [hW0]; exact (heap_alloc_old _ _ (by simp; omega)).trans ((heap_alloc_old _ _ (by simp)).trans (heap_alloc_new w _))
 have hx1 : W0.heap[w.heap.size + 1]? = some (.cells #[.string ff, .int .u64 (at' : Nat), .slice (some ⟨eb, eo, none⟩) m cap] 36 (0, 0)) := by
  rw [hW0, heap_alloc_old _ _ (by simp)]
  have e := heap_alloc_new (w.alloc (.cells (rhC f (.slice Bu nu cu) s.closed s.next (.slice Ak nk ck) (.slice Aq nt ct) (.slice Am nm cm)) 32)) (.cells #[.string ff, .int .u64 (at' : Nat), .slice (some ⟨eb, eo, none⟩) m cap] 36)
  rw [World.size_alloc] at e
  exact e
 have hx2 : W0.heap[w.heap.size + 2]? = some (.cells (rhC ⟨#[]⟩ (.slice none 0 0) 0 0 (.slice none 0 0) (.slice none 0 0) (.slice none 0 0)) 32 (0, 0)) := by
  rw [hW0]
  have e := heap_alloc_new ((w.alloc (.cells (rhC f (.slice Bu nu cu) s.closed s.next (.slice Ak nk ck) (.slice Aq nt ct) (.slice Am nm cm)) 32)).alloc (.cells #[.string ff, .int .u64 (at' : Nat), .slice (some ⟨eb, eo, none⟩) m cap] 36)) (.cells (rhC ⟨#[]⟩ (.slice none 0 0) 0 0 (.slice none 0 0) (.slice none 0 0) (.slice none 0 0)) 32)
  simp only [World.size_alloc] at e
  exact e
 have HX : Hid (∀ W, Below W1.heap.size W1 W → RX W w.heap.size f (.slice Bu nu cu) s.closed s.next (.slice Ak nk ck) (.slice Aq nt ct) (.slice Am nm cm) ∧ BB W (w.heap.size + 1) ff at' (some ⟨eb, eo, none⟩) m cap ∧ RX W (w.heap.size + 1 + 1) ⟨#[]⟩ (.slice none 0 0) 0 0 (.slice none 0 0) (.slice none 0 0) (.slice none 0 0) ∧ EBox W (w.heap.size + 3) (evCells ⟨2, id, en, ea, name, text, ev⟩ vk vn vf vs A0 m0 c0)) := Lib.hid fun W hW => by
  have o : ∀ c, c < w.heap.size + 3 → W.heap[c]? = W0.heap[c]? := fun c hc => (hW.block c (by omega)).trans (by rw [hW1]; exact heap_alloc_old _ _ (by omega))
  refine ⟨(o _ (by omega)).trans hx0, (o _ (by omega)).trans hx1, (o _ (by omega)).trans hx2, (hW.block _ (by omega)).trans ?_⟩
  rw [hW1, ← hs0]; exact heap_alloc_new ..
 have HBW : Hid (∀ W, Below W1.heap.size W1 W → Below w.heap.size w W) := Lib.hid fun W hW => hb1.trans (hW.mono hb1.size)
 have HTK := Lib.hid (rtask_any s.tasks id hid f (.slice Bu nu cu) (.slice Ak nk ck) (.slice Aq nt ct) (.slice Am nm cm) s.closed s.next W1 ((HRS.out.later hb1).tasks))
 have HS1 := Lib.hid hs1; have HB1 := Lib.hid hb1
 obtain ⟨y0, y1, y2, -⟩ := BB.cells (show BB W0 (w.heap.size + 1) ff at' (some ⟨eb, eo, none⟩) m cap from hx1)
 obtain ⟨x0, x1, x2, x3, x4, x5, x6, -⟩ := (HX.out W1 (Below.refl _ _)).1.cells
 have e0 := (hb0.cell (p := ⟨eb, eo, none⟩) heb).trans z0
 have e1 := (hb0.cell (p := ⟨eb, eo + 1, none⟩) heb).trans z1
 have e2 := (hb0.cell (p := ⟨eb, eo + 2, none⟩) heb).trans z2
 have e3 := (hb0.cell (p := ⟨eb, eo + 3, none⟩) heb).trans z3
 have e4 := (hb0.cell (p := ⟨eb, eo + 4, none⟩) heb).trans z4
 have e5 := (hb0.cell (p := ⟨eb, eo + 5, none⟩) heb).trans z5
 have e6 := (hb0.cell (p := ⟨eb, eo + 6, none⟩) heb).trans z6
 have e7 := (hb0.cell (p := ⟨eb, eo + 7, none⟩) heb).trans z7
 have e8 := (hb0.cell (p := ⟨eb, eo + 8, none⟩) heb).trans z8
 have e9 := (hb0.cell (p := ⟨eb, eo + 9, none⟩) heb).trans z9
 have e10 := (hb0.cell (p := ⟨eb, eo + 10, none⟩) heb).trans z10
 have HREP := Lib.hid hrep; have HREPV := Lib.hid hrepV; have HHI := Lib.hid hhi
 unfold rhC at hW0 HTK ⊢
 unfold evCells at hW1
 dsimp only at hW1
 rw [show ((0 : Nat) : Int) = 0 from rfl] at hW0
 have hWs := Lib.hid hs0
 clear hs0 hs1 hb0 hb1 hx0 hx1 hx2 z0 z1 z2 z3 z4 z5 z6 z7 z8 z9 z10 hrep hrepV hhi hff he heb
 replace hW0 := Lib.hid hW0
 replace hW1 := Lib.hid hW1
 obtain ⟨al, hal⟩ : ∃ al, al = decide (m = 1) := ⟨_, rfl⟩
 have hm1 : ((m : Int) == 1) = al := by
  rw [hal]
  by_cases q : m = 1
  ·subst q; rfl
  ·rw [decide_eq_false q, beq_eq_false_iff_ne]; omega
 rw [← hal]
 have HAL := Lib.hid hal
 clear hal
 go_enter Tryz.func32, Tryz.ntmps32
 go_upto_region 1 with fail
 rw [← hW0.out]
 go_upto_region 2 with fail
 rw [← hW1.out]
 rw [show W0.heap.size = w.heap.size + 3 from hWs.out]
 clear y0 y1 y2 e0 e1 e2 e3 e4 e5 e6 e7 e8 e9 e10
 obtain ⟨-, y, -, ez⟩ := HX.out W1 (Below.refl _ _)
 obtain ⟨e0, e1, e2, e3, e4, e5, e6, e7, e8, e9, e10⟩ := EBox.cells ez
 dsimp only at e0 e1 e2 e3 e4 e5
 clear ez y
 go_wp2_with (go_at_call 54; refine HTK.out.mono ?_; rintro x w1 ⟨⟨ti, rfl, hti⟩, hq1⟩; have HTI := Lib.hid (idx_get HFI.out.tasks hti); have HQ1 := Lib.hid hq1; clear hti hq1 x0 x1 x2 x3 x4 x5 x6 e0 e1 e2 e3 e4 e5 e6 e7 e8 e9 e10; obtain ⟨x0, x1, x2, x3, x4, x5, x6, -⟩ := (HX.out w1 HQ1.out).1.cells; obtain ⟨y0, y1, y2, -⟩ := (HX.out w1 HQ1.out).2.1.cells; obtain ⟨e0, e1, e2, e3, e4, e5, e6, e7, e8, e9, e10⟩ := EBox.cells (HX.out w1 HQ1.out).2.2.2; dsimp only at e0 e1 e2 e3 e4 e5)
 rcases HTI.out with ⟨hm1', hg⟩ | ⟨i, hi, hi', hid', hg⟩
 ·subst hm1'
  have HN : Hid (applyM at' al ⟨2, id, en, ea, name, text, ev⟩ s = none) := Lib.hid (by simp [applyM, hg])
  clear hg HTI
  go_quiet (fail)
  generalize hw2 : w1.drewN nq = w2 at *
  have HQ2 : Hid (Below W1.heap.size W1 w2) := Lib.hid (by rw [← hw2]; exact below_drewN HQ1.out nq)
  clear hw2
  clear x0 x1 x2 x3 x4 x5 x6 y0 y1 y2 e0 e1 e2 e3 e4 e5 e6 e7 e8 e9 e10
  obtain ⟨x0, x1, x2, x3, x4, x5, x6, xf⟩ := (HX.out w2 HQ2.out).1.cells
  obtain ⟨y0, y1, y2, -⟩ := (HX.out w2 HQ2.out).2.1.cells
  obtain ⟨e0, e1, e2, e3, e4, e5, e6, e7, e8, e9, e10⟩ := EBox.cells (HX.out w2 HQ2.out).2.2.2
  dsimp only at e0 e1 e2 e3 e4 e5
  obtain ⟨q0, q1, q2, q3, q4, q5, q6, qf⟩ := (HX.out w2 HQ2.out).2.2.1.cells
  rw [show ((0 : Nat) : Int) = 0 from rfl] at q3
  have qf0 := qf 0; have qf1 := qf 1; have qf2 := qf 2; have qf3 := qf 3; have qf4 := qf 4; have qf5 := qf 5; have qf6 := qf 6
  clear qf
  go_wp2_with fail
  refine bodyPost_ret (v := .tuple #[.agg #[.string f, .slice Bu nu cu, .int .i64 s.closed, .int .u64 (s.next : Nat), .slice Ak nk ck, .slice Aq nt ct, .slice Am nm cm], .bool false]) (by simp [results, Tryz.results32, go_sem, q0, q1, q2, q3, q4, q5, q6]) rfl ?_
  exact ⟨below7 (HBW.out w2 HQ2.out) (by omega) _ _ _ _ _ _ _, s.closed, s.next, .slice Ak nk ck, .slice Aq nt ct, .slice Am nm cm, ⟨_, _, _, rfl⟩, ⟨_, _, _, rfl⟩, ⟨_, _, _, rfl⟩, by rw [HN.out]; rfl, fun s' hs => by rw [HN.out] at hs; cases hs⟩
 ·obtain ⟨xs, hcinV, htk⟩ := HRV.out.tasks
  have hcin := hcinV.leads (leads_veil X w)
  clear hcinV
  have HCI := Lib.hid hcin; have HTKC := Lib.hid htk
  obtain ⟨hlen, -, A9, cap9, heq9, hle9, hcp9, hrd9⟩ := hcin
  obtain ⟨rfl, rfl, rfl⟩ : Aq = A9 ∧ nt = s.tasks.length ∧ ct = cap9 := by injection heq9 with a1 a2 a3; exact ⟨a1, a2, a3⟩
  obtain ⟨tb, tf0, rfl, htb, h39⟩ := hrd9 (by omega)
  simp only [maxLen] at hcp9
  obtain ⟨lo2, hi2, tk, tn', tf, ts, tA, tm, tc, hto, htr, hth, hq⟩ := htk.2 i hi
  rw [veil_size] at hth
  obtain ⟨t, htt⟩ : ∃ t, t = s.tasks[i] := ⟨_, rfl⟩
  rw [← htt] at hid' hg hto htr hq
  have HIDQ := Lib.hid hid'
  have HTT := Lib.hid htt
  clear htt
  obtain ⟨tid, tname, tv, tn, tfl, tat⟩ := t
  dsimp only at hid' hto htr hq HIDQ
  have HTKO := Lib.hid hto
  obtain ⟨-, tn0, tn1, ta1, -⟩ := hto
  dsimp only at tn0 tn1 ta1
  have HTC : Hid (∀ W, Below W1.heap.size W1 W → W.cell? ⟨tb, tf0 + i * 10, none⟩ = some (.int .u64 (tid : Nat)) ∧ W.cell? ⟨tb, tf0 + i * 10 + 1, none⟩ = some (.string tname) ∧ W.cell? ⟨tb, tf0 + i * 10 + 2, none⟩ = some (.int .i64 tk) ∧ W.cell? ⟨tb, tf0 + i * 10 + 3, none⟩ = some (.int .i64 tn') ∧ W.cell? ⟨tb, tf0 + i * 10 + 4, none⟩ = some (.float .f64 tf) ∧ W.cell? ⟨tb, tf0 + i * 10 + 5, none⟩ = some (.string ts) ∧ W.cell? ⟨tb, tf0 + i * 10 + 6, none⟩ = some (.slice tA tm tc) ∧ W.cell? ⟨tb, tf0 + i * 10 + 7, none⟩ = some (.int .i64 tn) ∧ W.cell? ⟨tb, tf0 + i * 10 + 8, none⟩ = some (.bool tfl) ∧ W.cell? ⟨tb, tf0 + i * 10 + 9, none⟩ = some (.int .u64 (tat : Nat))) := Lib.hid fun W hW => by
   have g : ∀ q x, q < 10 → (tCells ⟨tid, tname, tv, tn, tfl, tat⟩ tk tn' tf ts tA tm tc)[q]? = some x → W.cell? ⟨tb, tf0 + i * 10 + q, none⟩ = some x := fun q x hq10 hx => by
    have := h39 (i * 10 + q) x (by rw [hq q hq10]; exact hx)
    rw [Nat.add_assoc]
    exact ((HBW.out W hW).cell (p := ⟨tb, tf0 + (i * 10 + q), none⟩) htb).trans this
   exact ⟨g 0 _ (by omega) rfl, g 1 _ (by omega) rfl, g 2 _ (by omega) rfl, g 3 _ (by omega) rfl, g 4 _ (by omega) rfl, g 5 _ (by omega) rfl, g 6 _ (by omega) rfl, g 7 _ (by omega) rfl, g 8 _ (by omega) rfl, g 9 _ (by omega) rfl⟩
  have HTR := Lib.hid htr; have HTH := Lib.hid hth; have HG := Lib.hid hg; have HLEN := Lib.hid hlen
  clear hq h39 hrd9 htr hth hg hlen hid' heq9 htk htb HTI
  obtain ⟨t0, t1, t2, t3, t4, t5, t6, t7, t8, t9⟩ := HTC.out w1 HQ1.out
  have hen0 := HE.out.n0; have hen1 := HE.out.n1
  dsimp only at hen0 hen1
  subst hi'
  have ki0 : decide ((i : Int) < 0) = false := decide_eq_false (by omega)
  obtain ⟨L, hL⟩ : ∃ L, L = s.tasks.length := ⟨_, rfl⟩
  rw [← hL] at hi hn1 hle9 x5 HX
  have HLL := Lib.hid hL
  clear hL
  cases tfl with
  | true =>
   have HN : Hid (applyM at' al ⟨2, id, en, ea, name, text, ev⟩ s = none) := Lib.hid (by simp [applyM, HG.out, ])
   go_quiet (fail)
   generalize hw2 : w1.drewN nq = w2 at *
   have HQ2 : Hid (Below W1.heap.size W1 w2) := Lib.hid (by rw [← hw2]; exact below_drewN HQ1.out nq)
   clear hw2
   clear x0 x1 x2 x3 x4 x5 x6 y0 y1 y2 e0 e1 e2 e3 e4 e5 e6 e7 e8 e9 e10
   obtain ⟨x0, x1, x2, x3, x4, x5, x6, xf⟩ := (HX.out w2 HQ2.out).1.cells
   obtain ⟨y0, y1, y2, -⟩ := (HX.out w2 HQ2.out).2.1.cells
   obtain ⟨e0, e1, e2, e3, e4, e5, e6, e7, e8, e9, e10⟩ := EBox.cells (HX.out w2 HQ2.out).2.2.2
   dsimp only at e0 e1 e2 e3 e4 e5
   obtain ⟨q0, q1, q2, q3, q4, q5, q6, qf⟩ := (HX.out w2 HQ2.out).2.2.1.cells
   rw [show ((0 : Nat) : Int) = 0 from rfl] at q3
   have qf0 := qf 0; have qf1 := qf 1; have qf2 := qf 2; have qf3 := qf 3; have qf4 := qf 4; have qf5 := qf 5; have qf6 := qf 6
   clear qf
   go_wp2_with fail
   refine bodyPost_ret (v := .tuple #[.agg #[.string f, .slice Bu nu cu, .int .i64 s.closed, .int .u64 (s.next : Nat), .slice Ak nk ck, .slice (some ⟨tb, tf0, none⟩) L ct, .slice Am nm cm], .bool false]) (by simp [results, Tryz.results32, go_sem, q0, q1, q2, q3, q4, q5, q6]) rfl ?_
   exact ⟨below7 (HBW.out w2 HQ2.out) (by omega) _ _ _ _ _ _ _, s.closed, s.next, .slice Ak nk ck, .slice (some ⟨tb, tf0, none⟩) L ct, .slice Am nm cm, ⟨_, _, _, rfl⟩, ⟨_, _, _, rfl⟩, ⟨_, _, _, rfl⟩, by rw [HN.out]; rfl, fun s' hs => by rw [HN.out] at hs; cases hs⟩
  | false =>
   by_cases h2 : tn + 1 = en
   rotate_left
   ·have HN : Hid (applyM at' al ⟨2, id, en, ea, name, text, ev⟩ s = none) := Lib.hid (by simp [applyM, HG.out, h2])
    have k2 : (tn == en - 1) = false := by simp; omega
    have k2' : (tn != en - 1) = true := by simp; omega
    have kwr := IntWalk.i64_in (en - 1) (by omega)
    go_quiet (fail)
    generalize hw2 : w1.drewN nq = w2 at *
    have HQ2 : Hid (Below W1.heap.size W1 w2) := Lib.hid (by rw [← hw2]; exact below_drewN HQ1.out nq)
    clear hw2
    clear x0 x1 x2 x3 x4 x5 x6 y0 y1 y2 e0 e1 e2 e3 e4 e5 e6 e7 e8 e9 e10
    obtain ⟨x0, x1, x2, x3, x4, x5, x6, xf⟩ := (HX.out w2 HQ2.out).1.cells
    obtain ⟨y0, y1, y2, -⟩ := (HX.out w2 HQ2.out).2.1.cells
    obtain ⟨e0, e1, e2, e3, e4, e5, e6, e7, e8, e9, e10⟩ := EBox.cells (HX.out w2 HQ2.out).2.2.2
    dsimp only at e0 e1 e2 e3 e4 e5
    obtain ⟨q0, q1, q2, q3, q4, q5, q6, qf⟩ := (HX.out w2 HQ2.out).2.2.1.cells
    rw [show ((0 : Nat) : Int) = 0 from rfl] at q3
    have qf0 := qf 0; have qf1 := qf 1; have qf2 := qf 2; have qf3 := qf 3; have qf4 := qf 4; have qf5 := qf 5; have qf6 := qf 6
    clear qf
    go_wp2_with fail
    refine bodyPost_ret (v := .tuple #[.agg #[.string f, .slice Bu nu cu, .int .i64 s.closed, .int .u64 (s.next : Nat), .slice Ak nk ck, .slice (some ⟨tb, tf0, none⟩) L ct, .slice Am nm cm], .bool false]) (by simp [results, Tryz.results32, go_sem, q0, q1, q2, q3, q4, q5, q6]) rfl ?_
    exact ⟨below7 (HBW.out w2 HQ2.out) (Nat.le_succ_of_le (Nat.le_succ _)) _ _ _ _ _ _ _, s.closed, s.next, .slice Ak nk ck, .slice (some ⟨tb, tf0, none⟩) L ct, .slice Am nm cm, ⟨_, _, _, rfl⟩, ⟨_, _, _, rfl⟩, ⟨_, _, _, rfl⟩, by rw [HN.out]; rfl, fun s' hs => by rw [HN.out] at hs; cases hs⟩
   have k2 : (tn == en - 1) = true := by simp; omega
   have k2' : (tn != en - 1) = false := by simp; omega
   have H2 := Lib.hid h2
   clear h2
   by_cases h3 : tat ≤ at'
   rotate_left
   ·have HN : Hid (applyM at' al ⟨2, id, en, ea, name, text, ev⟩ s = none) := Lib.hid (by simp [applyM, HG.out, H2.out, h3])
    have H3 := Lib.hid h3
    have k3 : decide ((tat : Int) ≤ (at' : Int)) = false := decide_eq_false (by omega)
    have k3' : decide ((at' : Int) < (tat : Int)) = true := decide_eq_true (by omega)
    have h3n : at' < tat := by omega
    have kwr := IntWalk.i64_in (en - 1) (by omega)
    go_quiet (fail)
    generalize hw2 : w1.drewN nq = w2 at *
    have HQ2 : Hid (Below W1.heap.size W1 w2) := Lib.hid (by rw [← hw2]; exact below_drewN HQ1.out nq)
    clear hw2
    clear x0 x1 x2 x3 x4 x5 x6 y0 y1 y2 e0 e1 e2 e3 e4 e5 e6 e7 e8 e9 e10
    obtain ⟨x0, x1, x2, x3, x4, x5, x6, xf⟩ := (HX.out w2 HQ2.out).1.cells
    obtain ⟨y0, y1, y2, -⟩ := (HX.out w2 HQ2.out).2.1.cells
    obtain ⟨e0, e1, e2, e3, e4, e5, e6, e7, e8, e9, e10⟩ := EBox.cells (HX.out w2 HQ2.out).2.2.2
    dsimp only at e0 e1 e2 e3 e4 e5
    obtain ⟨q0, q1, q2, q3, q4, q5, q6, qf⟩ := (HX.out w2 HQ2.out).2.2.1.cells
    rw [show ((0 : Nat) : Int) = 0 from rfl] at q3
    have qf0 := qf 0; have qf1 := qf 1; have qf2 := qf 2; have qf3 := qf 3; have qf4 := qf 4; have qf5 := qf 5; have qf6 := qf 6
    clear qf
    go_wp2_with fail
    refine bodyPost_ret (v := .tuple #[.agg #[.string f, .slice Bu nu cu, .int .i64 s.closed, .int .u64 (s.next : Nat), .slice Ak nk ck, .slice (some ⟨tb, tf0, none⟩) L ct, .slice Am nm cm], .bool false]) (by simp [results, Tryz.results32, go_sem, q0, q1, q2, q3, q4, q5, q6]) rfl ?_
    exact ⟨below7 (HBW.out w2 HQ2.out) (Nat.le_succ_of_le (Nat.le_succ _)) _ _ _ _ _ _ _, s.closed, s.next, .slice Ak nk ck, .slice (some ⟨tb, tf0, none⟩) L ct, .slice Am nm cm, ⟨_, _, _, rfl⟩, ⟨_, _, _, rfl⟩, ⟨_, _, _, rfl⟩, by rw [HN.out]; rfl, fun s' hs => by rw [HN.out] at hs; cases hs⟩
   have k3 : decide ((tat : Int) ≤ (at' : Int)) = true := decide_eq_true (by omega)
   have k3' : decide ((at' : Int) < (tat : Int)) = false := decide_eq_false (by omega)
   by_cases h4 : at' ≤ ea
   rotate_left
   ·have HN : Hid (applyM at' al ⟨2, id, en, ea, name, text, ev⟩ s = none) := Lib.hid (by simp [applyM, HG.out, H2.out, h3, h4])
    have k4 : decide ((at' : Int) ≤ (ea : Int)) = false := decide_eq_false (by omega)
    have k4' : decide ((ea : Int) < (at' : Int)) = true := decide_eq_true (by omega)
    have kwr := IntWalk.i64_in (en - 1) (by omega)
    go_quiet (fail)
    generalize hw2 : w1.drewN nq = w2 at *
    have HQ2 : Hid (Below W1.heap.size W1 w2) := Lib.hid (by rw [← hw2]; exact below_drewN HQ1.out nq)
    clear hw2
    clear x0 x1 x2 x3 x4 x5 x6 y0 y1 y2 e0 e1 e2 e3 e4 e5 e6 e7 e8 e9 e10
    obtain ⟨x0, x1, x2, x3, x4, x5, x6, xf⟩ := (HX.out w2 HQ2.out).1.cells
    obtain ⟨y0, y1, y2, -⟩ := (HX.out w2 HQ2.out).2.1.cells
    obtain ⟨e0, e1, e2, e3, e4, e5, e6, e7, e8, e9, e10⟩ := EBox.cells (HX.out w2 HQ2.out).2.2.2
    dsimp only at e0 e1 e2 e3 e4 e5
    obtain ⟨q0, q1, q2, q3, q4, q5, q6, qf⟩ := (HX.out w2 HQ2.out).2.2.1.cells
    rw [show ((0 : Nat) : Int) = 0 from rfl] at q3
    have qf0 := qf 0; have qf1 := qf 1; have qf2 := qf 2; have qf3 := qf 3; have qf4 := qf 4; have qf5 := qf 5; have qf6 := qf 6
    clear qf
    go_wp2_with fail
    refine bodyPost_ret (v := .tuple #[.agg #[.string f, .slice Bu nu cu, .int .i64 s.closed, .int .u64 (s.next : Nat), .slice Ak nk ck, .slice (some ⟨tb, tf0, none⟩) L ct, .slice Am nm cm], .bool false]) (by simp [results, Tryz.results32, go_sem, q0, q1, q2, q3, q4, q5, q6]) rfl ?_
    exact ⟨below7 (HBW.out w2 HQ2.out) (Nat.le_succ_of_le (Nat.le_succ _)) _ _ _ _ _ _ _, s.closed, s.next, .slice Ak nk ck, .slice (some ⟨tb, tf0, none⟩) L ct, .slice Am nm cm, ⟨_, _, _, rfl⟩, ⟨_, _, _, rfl⟩, ⟨_, _, _, rfl⟩, by rw [HN.out]; rfl, fun s' hs => by rw [HN.out] at hs; cases hs⟩
   have k4 : decide ((at' : Int) ≤ (ea : Int)) = true := decide_eq_true (by omega)
   have k4' : decide ((ea : Int) < (at' : Int)) = false := decide_eq_false (by omega)
   cases al with
   | false =>
    have HN : Hid (applyM at' false ⟨2, id, en, ea, name, text, ev⟩ s = none) := Lib.hid (by simp [applyM, HG.out, H2.out, h3, h4])
    have kwr := IntWalk.i64_in (en - 1) (by omega)
    go_quiet (fail)
    generalize hw2 : w1.drewN nq = w2 at *
    have HQ2 : Hid (Below W1.heap.size W1 w2) := Lib.hid (by rw [← hw2]; exact below_drewN HQ1.out nq)
    clear hw2
    clear x0 x1 x2 x3 x4 x5 x6 y0 y1 y2 e0 e1 e2 e3 e4 e5 e6 e7 e8 e9 e10
    obtain ⟨x0, x1, x2, x3, x4, x5, x6, xf⟩ := (HX.out w2 HQ2.out).1.cells
    obtain ⟨y0, y1, y2, -⟩ := (HX.out w2 HQ2.out).2.1.cells
    obtain ⟨e0, e1, e2, e3, e4, e5, e6, e7, e8, e9, e10⟩ := EBox.cells (HX.out w2 HQ2.out).2.2.2
    dsimp only at e0 e1 e2 e3 e4 e5
    obtain ⟨q0, q1, q2, q3, q4, q5, q6, qf⟩ := (HX.out w2 HQ2.out).2.2.1.cells
    rw [show ((0 : Nat) : Int) = 0 from rfl] at q3
    have qf0 := qf 0; have qf1 := qf 1; have qf2 := qf 2; have qf3 := qf 3; have qf4 := qf 4; have qf5 := qf 5; have qf6 := qf 6
    clear qf
    go_wp2_with fail
    refine bodyPost_ret (v := .tuple #[.agg #[.string f, .slice Bu nu cu, .int .i64 s.closed, .int .u64 (s.next : Nat), .slice Ak nk ck, .slice (some ⟨tb, tf0, none⟩) L ct, .slice Am nm cm], .bool false]) (by simp [results, Tryz.results32, go_sem, q0, q1, q2, q3, q4, q5, q6]) rfl ?_
    exact ⟨below7 (HBW.out w2 HQ2.out) (Nat.le_succ_of_le (Nat.le_succ _)) _ _ _ _ _ _ _, s.closed, s.next, .slice Ak nk ck, .slice (some ⟨tb, tf0, none⟩) L ct, .slice Am nm cm, ⟨_, _, _, rfl⟩, ⟨_, _, _, rfl⟩, ⟨_, _, _, rfl⟩, by rw [HN.out]; rfl, fun s' hs => by rw [HN.out] at hs; cases hs⟩
   | true =>
    have HN : Hid (applyM at' true ⟨2, id, en, ea, name, text, ev⟩ s = some { s with tasks := tput s.tasks ⟨tid, tname, tv, en, true, ea⟩ }) := Lib.hid (by simp [applyM, HG.out, H2.out, h3, h4])
    have kwr := IntWalk.i64_in (en - 1) (by omega)
    go_quiet (fail)
    generalize hw2 : w1.drewN nq = w2 at *
    have HQ2 : Hid (Below W1.heap.size W1 w2) := Lib.hid (by rw [← hw2]; exact below_drewN HQ1.out nq)
    clear hw2 kwr
    clear x0 x1 x2 x3 x4 x5 x6 y0 y1 y2 e0 e1 e2 e3 e4 e5 e6 e7 e8 e9 e10
    clear t0 t1 t2 t3 t4 t5 t6 t7 t8 t9
    obtain ⟨x0, x1, x2, x3, x4, x5, x6, xf⟩ := (HX.out w2 HQ2.out).1.cells
    obtain ⟨y0, y1, y2, -⟩ := (HX.out w2 HQ2.out).2.1.cells
    obtain ⟨e0, e1, e2, e3, e4, e5, e6, e7, e8, e9, e10⟩ := EBox.cells (HX.out w2 HQ2.out).2.2.2
    dsimp only at e0 e1 e2 e3 e4 e5
    obtain ⟨t0, t1, t2, t3, t4, t5, t6, t7, t8, t9⟩ := HTC.out w2 HQ2.out
    obtain ⟨W3, hW3⟩ : ∃ W3, W3 = w2.alloc (.cells #[.int .u64 (tid : Nat), .string tname, .int .i64 tk, .int .i64 tn', .float .f64 tf, .string ts, .slice tA tm tc, .int .i64 tn, .bool false, .int .u64 (tat : Nat)] 105) := ⟨_, rfl⟩
    have hb3 : Below W1.heap.size W1 W3 := by rw [hW3]; exact HQ2.out.alloc HQ2.out.size _
    have hx3 : W3.heap[w2.heap.size]? = some (.cells #[.int .u64 (tid : Nat), .string tname, .int .i64 tk, .int .i64 tn', .float .f64 tf, .string ts, .slice tA tm tc, .int .i64 tn, .bool false, .int .u64 (tat : Nat)] 105 (0, 0)) := by rw [hW3]; exact heap_alloc_new ..
    have hz3 : W3.heap.size = w2.heap.size + 1 := by rw [hW3]; simp
    have hz2 := HQ2.out.size
    have hS1 := HS1.out
    obtain ⟨c0, c1, c2, c3, c4, c5, c6, c7, c8, c9, cf⟩ := t_cells hx3
    have HB3 := Lib.hid hb3; have HX3 := Lib.hid hx3; have HZ3 := Lib.hid hz3; have HZ2 := Lib.hid hz2
    have cf7 := cf 7; have cf8 := cf 8; have cf9 := cf 9
    clear hb3 hx3 hz3 hz2 hS1 cf
    replace hW3 := Lib.hid hW3
    go_upto_region 9 with fail
    rw [← hW3.out]
    clear t0 t1 t2 t3 t4 t5 t6 t7 t8 t9
    clear x0 x1 x2 x3 x4 x5 x6 y0 y1 y2 e0 e1 e2 e3 e4 e5 e6 e7 e8 e9 e10
    obtain ⟨x0, x1, x2, x3, x4, x5, x6, xf⟩ := (HX.out W3 HB3.out).1.cells
    obtain ⟨y0, y1, y2, -⟩ := (HX.out W3 HB3.out).2.1.cells
    obtain ⟨e0, e1, e2, e3, e4, e5, e6, e7, e8, e9, e10⟩ := EBox.cells (HX.out W3 HB3.out).2.2.2
    dsimp only at e0 e1 e2 e3 e4 e5
    go_upto_region 12 with fail
    obtain ⟨W4, hW4⟩ : ∃ W4, W4 = ((W3.setCell ⟨w2.heap.size, 7, none⟩ (.int .i64 en)).setCell ⟨w2.heap.size, 9, none⟩ (.int .u64 (ea : Nat))).setCell ⟨w2.heap.size, 8, none⟩ (.bool true) := ⟨_, rfl⟩
    rw [← hW4]
    have HB4 : Hid (Below W1.heap.size W1 W4) := Lib.hid (by rw [hW4]; exact ((HB3.out.setCell (p := ⟨w2.heap.size, 7, none⟩) HZ2.out _).setCell (p := ⟨w2.heap.size, 9, none⟩) HZ2.out _).setCell (p := ⟨w2.heap.size, 8, none⟩) HZ2.out _)
    have HX4 : Hid (W4.heap[w2.heap.size]? = some (.cells (tCells ⟨tid, tname, tv, en, true, ea⟩ tk tn' tf ts tA tm tc) 105 (0, 0))) := Lib.hid (by rw [hW4]; simp [World.setCell, Array.getElem?_modify, HX3.out, tCells])
    have HWI := Lib.hid (rwith_any L xs i hi ⟨tid, tname, tv, en, true, ea⟩ tk tn' tf ts tA tm tc false (.slice (some ⟨tb, tf0, none⟩) L ct) W4 (by rw [HLL.out]; exact HCI.out.later (HBW.out _ HB4.out)) hn1)
    obtain ⟨c0, c1, c2, c3, c4, c5, c6, c7, c8, c9, cf⟩ := t_cells (show W4.heap[w2.heap.size]? = some (.cells #[.int .u64 (tid : Nat), .string tname, .int .i64 tk, .int .i64 tn', .float .f64 tf, .string ts, .slice tA tm tc, .int .i64 en, .bool true, .int .u64 (ea : Nat)] 105 (0, 0)) from HX4.out)
    replace hW4 := Lib.hid hW4
    clear cf7 cf8 cf9
    unfold tCells at HWI
    dsimp only at HWI
    clear x0 x1 x2 x3 x4 x5 x6 y0 y1 y2 e0 e1 e2 e3 e4 e5 e6 e7 e8 e9 e10
    obtain ⟨x0, x1, x2, x3, x4, x5, x6, xf⟩ := (HX.out W4 HB4.out).1.cells
    obtain ⟨y0, y1, y2, -⟩ := (HX.out W4 HB4.out).2.1.cells
    obtain ⟨e0, e1, e2, e3, e4, e5, e6, e7, e8, e9, e10⟩ := EBox.cells (HX.out W4 HB4.out).2.2.2
    dsimp only at e0 e1 e2 e3 e4 e5
    go_upto_region 35 with (go_at_call 55; refine HWI.out.mono ?_; rintro x w5 ⟨u', rfl, hown5, hb5⟩; have HB5 := Lib.hid (HB4.out.trans (hb5.mono HB4.out.size)); obtain ⟨Ar, cr, rfl, hbr⟩ := own_slice hown5; have HO5 := Lib.hid hown5; have HBR := Lib.hid hbr; clear hown5 hb5 hbr x0 x1 x2 x3 x4 x5 x6 y0 y1 y2 e0 e1 e2 e3 e4 e5 e6 e7 e8 e9 e10 c0 c1 c2 c3 c4 c5 c6 c7 c8 c9 cf; obtain ⟨x0, x1, x2, x3, x4, x5, x6, xf⟩ := (HX.out w5 HB5.out).1.cells; have xf5 := xf 5; clear xf)
    obtain ⟨w6, hw6⟩ : ∃ w6, w6 = w5.setCell ⟨w.heap.size, 5, none⟩ (.slice Ar (i + (1 + (L - (i + 1)))) cr) := ⟨_, rfl⟩
    have hx6 : RX w6 w.heap.size f (.slice Bu nu cu) s.closed s.next (.slice Ak nk ck) (.slice Ar (i + (1 + (L - (i + 1)))) cr) (.slice Am nm cm) := by rw [hw6]; exact (HX.out w5 HB5.out).1.set5
    have hq6 : RX w6 (w.heap.size + 1 + 1) ⟨#[]⟩ (.slice none 0 0) 0 0 (.slice none 0 0) (.slice none 0 0) (.slice none 0 0) := by rw [hw6]; exact (HX.out w5 HB5.out).2.2.1.far (by omega)
    have HB6 : Hid (Below w.heap.size w w6) := Lib.hid (by rw [hw6]; exact (HBW.out w5 HB5.out).setCell (p := ⟨w.heap.size, 5, none⟩) (Nat.le_refl _) _)
    have HW6 := Lib.hid hw6
    clear x0 x1 x2 x3 x4 x5 x6 xf5
    obtain ⟨x0, x1, x2, x3, x4, x5, x6, xf⟩ := hx6.cells
    obtain ⟨q0, q1, q2, q3, q4, q5, q6, qf⟩ := hq6.cells
    rw [show ((0 : Nat) : Int) = 0 from rfl] at q3
    have qf0 := qf 0; have qf1 := qf 1; have qf2 := qf 2; have qf3 := qf 3; have qf4 := qf 4; have qf5 := qf 5; have qf6 := qf 6
    clear qf xf hx6 hq6
    rw [← hw6]
    clear hw6
    go_wp2_with fail
    refine bodyPost_ret (v := .tuple #[.agg #[.string f, .slice Bu nu cu, .int .i64 s.closed, .int .u64 (s.next : Nat), .slice Ak nk ck, .slice Ar (i + (1 + (L - (i + 1)))) cr, .slice Am nm cm], .bool true]) (by simp [results, Tryz.results32, go_sem, q0, q1, q2, q3, q4, q5, q6]) rfl ?_
    obtain ⟨W7, hW7⟩ : ∃ W7, W7 = ((((((w6.setCell ⟨w.heap.size + 1 + 1, 0, none⟩ (.string f)).setCell ⟨w.heap.size + 1 + 1, 1, none⟩ (.slice Bu nu cu)).setCell ⟨w.heap.size + 1 + 1, 2, none⟩ (.int .i64 s.closed)).setCell ⟨w.heap.size + 1 + 1, 3, none⟩ (.int .u64 (s.next : Nat))).setCell ⟨w.heap.size + 1 + 1, 4, none⟩ (.slice Ak nk ck)).setCell ⟨w.heap.size + 1 + 1, 5, none⟩ (.slice Ar (i + (1 + (L - (i + 1)))) cr)).setCell ⟨w.heap.size + 1 + 1, 6, none⟩ (.slice Am nm cm) := ⟨_, rfl⟩
    rw [← hW7]
    have hb7 : Below w.heap.size w W7 := by rw [hW7]; exact below7 (g := w.heap.size + 1 + 1) HB6.out (Nat.le_succ_of_le (Nat.le_succ _)) _ _ _ _ _ _ _
    have hm7 : ∀ r, r ≠ w.heap.size → r ≠ w.heap.size + 1 + 1 → W7.heap[r]? = w5.heap[r]? := fun r h1 h2 => by
     rw [hW7, heap7 h2, HW6.out]
     exact RowKit.Below.heap_setCell _ _ _ _ h1
    clear hW7 x0 x1 x2 x3 x4 x5 x6 q0 q1 q2 q3 q4 q5 q6 qf0 qf1 qf2 qf3 qf4 qf5 qf6
    refine ⟨hb7, s.closed, s.next, .slice Ak nk ck, .slice Ar (i + (1 + (L - (i + 1)))) cr, .slice Am nm cm, ⟨_, _, _, rfl⟩, ⟨_, _, _, rfl⟩, ⟨_, _, _, rfl⟩, by rw [HN.out]; rfl, fun s' hs => ?_⟩
    rw [HN.out] at hs
    cases hs
    have hz4 := HB4.out.size
    have hS1 := HS1.out
    have ho7 := own_move (w' := W7) HO5.out (fun r hr => hm7 r (by have := HBR.out r hr; omega) (by have := HBR.out r hr; omega))
    clear hz4 hS1
    rw [HLL.out] at ho7
    have hi' : i < s.tasks.length := by rw [← HLL.out]; exact hi
    have hr7 := rtk_with (dn := false) (t := ⟨tid, tname, tv, en, true, ea⟩) hi' (by obtain ⟨o1, -, -, -, o5⟩ := HTKO.out; exact ⟨o1, hen0, hen1, HE.out.f.a1, o5⟩) HTR.out HTH.out HTKC.out HCI.out.2.1 hb7 (by simp) ho7 (by intro c hc; have := HXB.out c hc; have := HB4.out.size; have := HS1.out; omega)
    have hp := put_with HFI.out.tasks (i := i) hi' ⟨tid, tname, tv, en, true, ea⟩ (by rw [← HTT.out])
    refine ⟨rfl, rfl, ⟨(HRV.out.leads (veil_below X hb7)).keys, ?_, (HRV.out.leads (veil_below X hb7)).timers⟩⟩
    dsimp only
    rw [← hp, HLL.out]
    exact hr7
end Hi
end Go.Proofs.YtkajcldmolcllaaGreat
namespace Go.Proofs.YtkajcldmolcllaaGreat
namespace Hi
open _root_.Go.Proofs.YtkajcldmolcllaaGreat.Nm (ret_int ret_bool)
open Vt (VT Rep below_drew Cloned put5)
open Ev (EV FieldsOk evCells vCells EBox take_drop tk ap cons_drop)
open Cm (rowOf EvsIn)
open Cn (BT BB BtsIn box_ev)
variable {X X' Y Y' : Nat → Prop} {u v w w' V V' : World} {hb bt bm bk n cap : Nat} {A : Option Addr} {h : HM}
set_option maxRecDepth 100000 in
set_option maxHeartbeats 2000000 in
theorem out1_any (s : ST) (f : ByteArray) (Bu : Option Addr) (nu cu : Nat) (uk ut um : Value) (b : BT) (A : Option Addr) (cap : Nat) (w : World) (h : OIn X w s uk ut um b A cap) (hp : 0 < b.es.length) (he : EvOk (b.es[0]'hp)) (hk : b.es[0].k = 1) :
  Calls Tryz.prog 32 #[.agg (rhC f (.slice Bu nu cu) s.closed s.next uk ut um), .agg #[.string b.flow, .int .u64 (b.at' : Nat), .slice A b.es.length cap]] w (ROut X w f (.slice Bu nu cu) (applyM b.at' (decide (b.es.length = 1)) (b.es[0]'hp) s)) := by
 obtain ⟨Ak, nk, ck, rfl⟩ : ∃ A n c, uk = .slice A n c := by obtain ⟨xs, ⟨-, -, A, c, e, -⟩, -⟩ := h.rs.keys; exact ⟨_, _, _, e⟩
 obtain ⟨Aq, nt, ct, rfl⟩ : ∃ A n c, ut = .slice A n c := by obtain ⟨xs, ⟨-, -, A, c, e, -⟩, -⟩ := h.rs.tasks; exact ⟨_, _, _, e⟩
 obtain ⟨Am, nm, cm, rfl⟩ : ∃ A n c, um = .slice A n c := by obtain ⟨xs, ⟨-, -, A, c, e, -⟩, -⟩ := h.rs.timers; exact ⟨_, _, _, e⟩
 obtain ⟨eb, eo, lo0, hi0, vk, vn, vf, vs, A0, m0, c0, rfl, heb, hff, hrep, hhi, z0, z1, z2, z3, z4, z5, z6, z7, z8, z9, z10⟩ := h.evs.get 0 hp
 have hrepV := hrep
 replace hrep := Rep.leads hrep (leads_veil X w)
 rw [veil_size] at heb hhi
 replace z0 := (leads_veil X w).cell z0
 replace z1 := (leads_veil X w).cell z1
 replace z2 := (leads_veil X w).cell z2
 replace z3 := (leads_veil X w).cell z3
 replace z4 := (leads_veil X w).cell z4
 replace z5 := (leads_veil X w).cell z5
 replace z6 := (leads_veil X w).cell z6
 replace z7 := (leads_veil X w).cell z7
 replace z8 := (leads_veil X w).cell z8
 replace z9 := (leads_veil X w).cell z9
 replace z10 := (leads_veil X w).cell z10
 have hle := h.evs.le
 have hcm := h.evs.cap_le
 simp only [maxLen] at hcm
 rw [show eo + 0 * 11 = eo by omega] at z0 z1 z2 z3 z4 z5 z6 z7 z8 z9 z10
 obtain ⟨m, hm⟩ : ∃ m, m = b.es.length := ⟨_, rfl⟩
 obtain ⟨ff, hf0⟩ : ∃ ff, ff = b.flow := ⟨_, rfl⟩
 obtain ⟨at', hat⟩ : ∃ at', at' = b.at' := ⟨_, rfl⟩
 obtain ⟨e, hee⟩ : ∃ e, e = b.es[0]'hp := ⟨_, rfl⟩
 have hbat := h.at'
 rw [← hat] at hbat
 rw [← hee] at hff hrep hrepV z0 z1 z2 z3 z4 z5 he hk ⊢
 have HRV := Lib.hid h.rs; have HRS := Lib.hid (h.rs.leads (leads_veil X w)); have HXB := Lib.hid h.xb; have HFI := Lib.hid h.fine; have hn1 := h.n1; have hn2 := h.n2; have hn3 := h.n3; have hn4 := h.n4
 rw [← hm] at hle ⊢
 rw [← hf0, ← hat]
 have hmp : 0 < m := by omega
 clear h hee hat hf0 hm hp
 obtain ⟨k, id, en, ea, name, text, ev⟩ := e
 have hid := he.f.i1
 dsimp only at hid hk hrep hrepV hff z0 z1 z2 z3 z4 z5 z6 z7 z8 z9 z10
 obtain rfl : k = 1 := hk
 have HE := Lib.hid he
 obtain ⟨W0, hW0⟩ : ∃ W0, W0 = ((w.alloc (.cells (rhC f (.slice Bu nu cu) s.closed s.next (.slice Ak nk ck) (.slice Aq nt ct) (.slice Am nm cm)) 32)).alloc (.cells #[.string ff, .int .u64 (at' : Nat), .slice (some ⟨eb, eo, none⟩) m cap] 36)).alloc (.cells (rhC ⟨#[]⟩ (.slice none 0 0) 0 0 (.slice none 0 0) (.slice none 0 0) (.slice none 0 0)) 32) := ⟨_, rfl⟩
 obtain ⟨W1, hW1⟩ : ∃ W1, W1 = W0.alloc (.cells (evCells ⟨1, id, en, ea, name, text, ev⟩ vk vn vf vs A0 m0 c0) 53) := ⟨_, rfl⟩
 have hs0 : W0.heap.size = w.heap.size + 3 := by rw [hW0]; simp
 have hs1 : W1.heap.size = w.heap.size + 4 := by rw [hW1]; simp [hs0]
 have hb0 : Below w.heap.size w W0 := by rw [hW0]; exact (((Below.refl _ _).alloc (Nat.le_refl _) _).alloc (by simp) _).alloc (by simp; omega) _
 have hb1 : Below w.heap.size w W1 := by rw [hW1]; exact hb0.alloc (by omega) _
 have hx0 : W0.heap[w.heap.size]? = some (.cells (rhC f (.slice Bu nu cu) s.closed s.next (.slice Ak nk ck) (.slice Aq nt ct) (.slice Am nm cm)) 32 (0, 0)) := by rw [hW0]; exact (heap_alloc_old _ _ (by simp; omega)).trans ((heap_alloc_old _ _ (by simp)).trans (heap_alloc_new w _))
 have hx1 : W0.heap[w.heap.size + 1]? = some (.cells #[.string ff, .int .u64 (at' : Nat), .slice (some ⟨eb, eo, none⟩) m cap] 36 (0, 0)) := by
  rw [hW0, heap_alloc_old _ _ (by simp)]
  have e := heap_alloc_new (w.alloc (.cells (rhC f (.slice Bu nu cu) s.closed s.next (.slice Ak nk ck) (.slice Aq nt ct) (.slice Am nm cm)) 32)) (.cells #[.string ff, .int .u64 (at' : Nat), .slice (some ⟨eb, eo, none⟩) m cap] 36)
  rw [World.size_alloc] at e
  exact e
 have hx2 : W0.heap[w.heap.size + 2]? = some (.cells (rhC ⟨#[]⟩ (.slice none 0 0) 0 0 (.slice none 0 0) (.slice none 0 0) (.slice none 0 0)) 32 (0, 0)) := by
  rw [hW0]
  have e := heap_alloc_new ((w.alloc (.cells (rhC f (.slice Bu nu cu) s.closed s.next (.slice Ak nk ck) (.slice Aq nt ct) (.slice Am nm cm)) 32)).alloc (.cells #[.string ff, .int .u64 (at' : Nat), .slice (some ⟨eb, eo, none⟩) m cap] 36)) (.cells (rhC ⟨#[]⟩ (.slice none 0 0) 0 0 (.slice none 0 0) (.slice none 0 0) (.slice none 0 0)) 32)
  simp only [World.size_alloc] at e
  exact e
 have HX : Hid (∀ W, Below W1.heap.size W1 W → RX W w.heap.size f (.slice Bu nu cu) s.closed s.next (.slice Ak nk ck) (.slice Aq nt ct) (.slice Am nm cm) ∧ BB W (w.heap.size + 1) ff at' (some ⟨eb, eo, none⟩) m cap ∧ RX W (w.heap.size + 1 + 1) ⟨#[]⟩ (.slice none 0 0) 0 0 (.slice none 0 0) (.slice none 0 0) (.slice none 0 0) ∧ EBox W (w.heap.size + 3) (evCells ⟨1, id, en, ea, name, text, ev⟩ vk vn vf vs A0 m0 c0)) := Lib.hid fun W hW => by
  have o : ∀ c, c < w.heap.size + 3 → W.heap[c]? = W0.heap[c]? := fun c hc => (hW.block c (by omega)).trans (by rw [hW1]; exact heap_alloc_old _ _ (by omega))
  refine ⟨(o _ (by omega)).trans hx0, (o _ (by omega)).trans hx1, (o _ (by omega)).trans hx2, (hW.block _ (by omega)).trans ?_⟩
  rw [hW1, ← hs0]; exact heap_alloc_new ..
 have HBW : Hid (∀ W, Below W1.heap.size W1 W → Below w.heap.size w W) := Lib.hid fun W hW => hb1.trans (hW.mono hb1.size)
 have HTK := Lib.hid (rtask_any s.tasks id hid f (.slice Bu nu cu) (.slice Ak nk ck) (.slice Aq nt ct) (.slice Am nm cm) s.closed s.next W1 ((HRS.out.later hb1).tasks))
 have HS1 := Lib.hid hs1; have HB1 := Lib.hid hb1
 obtain ⟨y0, y1, y2, -⟩ := BB.cells (show BB W0 (w.heap.size + 1) ff at' (some ⟨eb, eo, none⟩) m cap from hx1)
 obtain ⟨x0, x1, x2, x3, x4, x5, x6, -⟩ := (HX.out W1 (Below.refl _ _)).1.cells
 have e0 := (hb0.cell (p := ⟨eb, eo, none⟩) heb).trans z0
 have e1 := (hb0.cell (p := ⟨eb, eo + 1, none⟩) heb).trans z1
 have e2 := (hb0.cell (p := ⟨eb, eo + 2, none⟩) heb).trans z2
 have e3 := (hb0.cell (p := ⟨eb, eo + 3, none⟩) heb).trans z3
 have e4 := (hb0.cell (p := ⟨eb, eo + 4, none⟩) heb).trans z4
 have e5 := (hb0.cell (p := ⟨eb, eo + 5, none⟩) heb).trans z5
 have e6 := (hb0.cell (p := ⟨eb, eo + 6, none⟩) heb).trans z6
 have e7 := (hb0.cell (p := ⟨eb, eo + 7, none⟩) heb).trans z7
 have e8 := (hb0.cell (p := ⟨eb, eo + 8, none⟩) heb).trans z8
 have e9 := (hb0.cell (p := ⟨eb, eo + 9, none⟩) heb).trans z9
 have e10 := (hb0.cell (p := ⟨eb, eo + 10, none⟩) heb).trans z10
 have HREP := Lib.hid hrep; have HREPV := Lib.hid hrepV; have HHI := Lib.hid hhi
 unfold rhC at hW0 HTK ⊢
 unfold evCells at hW1
 dsimp only at hW1
 rw [show ((0 : Nat) : Int) = 0 from rfl] at hW0
 have hWs := Lib.hid hs0
 clear hs0 hs1 hb0 hb1 hx0 hx1 hx2 z0 z1 z2 z3 z4 z5 z6 z7 z8 z9 z10 hrep hrepV hhi hff he heb
 replace hW0 := Lib.hid hW0
 replace hW1 := Lib.hid hW1
 obtain ⟨al, hal⟩ : ∃ al, al = decide (m = 1) := ⟨_, rfl⟩
 have hm1 : ((m : Int) == 1) = al := by
  rw [hal]
  by_cases q : m = 1
  ·subst q; rfl
  ·rw [decide_eq_false q, beq_eq_false_iff_ne]; omega
 rw [← hal]
 have HAL := Lib.hid hal
 clear hal
 go_enter Tryz.func32, Tryz.ntmps32
 go_upto_region 1 with fail
 rw [← hW0.out]
 go_upto_region 2 with fail
 rw [← hW1.out]
 rw [show W0.heap.size = w.heap.size + 3 from hWs.out]
 clear y0 y1 y2 e0 e1 e2 e3 e4 e5 e6 e7 e8 e9 e10
 obtain ⟨-, y, -, ez⟩ := HX.out W1 (Below.refl _ _)
 obtain ⟨e0, e1, e2, e3, e4, e5, e6, e7, e8, e9, e10⟩ := EBox.cells ez
 dsimp only at e0 e1 e2 e3 e4 e5
 clear ez y
 go_upto_region 35 with (go_at_call 54; refine HTK.out.mono ?_; rintro x w1 ⟨⟨ti, rfl, hti⟩, hq1⟩; have HTI := Lib.hid (idx_get HFI.out.tasks hti); have HQ1 := Lib.hid hq1; clear hti hq1 x0 x1 x2 x3 x4 x5 x6 e0 e1 e2 e3 e4 e5 e6 e7 e8 e9 e10; obtain ⟨x0, x1, x2, x3, x4, x5, x6, -⟩ := (HX.out w1 HQ1.out).1.cells; obtain ⟨y0, y1, y2, -⟩ := (HX.out w1 HQ1.out).2.1.cells; obtain ⟨e0, e1, e2, e3, e4, e5, e6, e7, e8, e9, e10⟩ := EBox.cells (HX.out w1 HQ1.out).2.2.2; dsimp only at e0 e1 e2 e3 e4 e5)
 obtain ⟨q0, q1, q2, q3, q4, q5, q6, qf⟩ := (HX.out w1 HQ1.out).2.2.1.cells
 rw [show ((0 : Nat) : Int) = 0 from rfl] at q3
 have qf0 := qf 0; have qf1 := qf 1; have qf2 := qf 2; have qf3 := qf 3; have qf4 := qf 4; have qf5 := qf 5; have qf6 := qf 6
 clear qf
 go_wp2_with fail
 refine bodyPost_ret (v := .tuple #[.agg #[.string f, .slice Bu nu cu, .int .i64 s.closed, .int .u64 (s.next : Nat), .slice Ak nk ck, .slice Aq nt ct, .slice Am nm cm], .bool true]) (by simp [results, Tryz.results32, go_sem, q0, q1, q2, q3, q4, q5, q6]) rfl ?_
 have HN : Hid (applyM at' al ⟨1, id, en, ea, name, text, ev⟩ s = some s) := Lib.hid (by simp [applyM])
 obtain ⟨W7, hW7⟩ : ∃ W7, W7 = ((((((w1.setCell ⟨w.heap.size + 1 + 1, 0, none⟩ (.string f)).setCell ⟨w.heap.size + 1 + 1, 1, none⟩ (.slice Bu nu cu)).setCell ⟨w.heap.size + 1 + 1, 2, none⟩ (.int .i64 s.closed)).setCell ⟨w.heap.size + 1 + 1, 3, none⟩ (.int .u64 (s.next : Nat))).setCell ⟨w.heap.size + 1 + 1, 4, none⟩ (.slice Ak nk ck)).setCell ⟨w.heap.size + 1 + 1, 5, none⟩ (.slice Aq nt ct)).setCell ⟨w.heap.size + 1 + 1, 6, none⟩ (.slice Am nm cm) := ⟨_, rfl⟩
 rw [← hW7]
 have hb7 : Below w.heap.size w W7 := by rw [hW7]; exact below7 (g := w.heap.size + 1 + 1) (HBW.out w1 HQ1.out) (Nat.le_succ_of_le (Nat.le_succ _)) _ _ _ _ _ _ _
 refine ⟨hb7, s.closed, s.next, .slice Ak nk ck, .slice Aq nt ct, .slice Am nm cm, ⟨_, _, _, rfl⟩, ⟨_, _, _, rfl⟩, ⟨_, _, _, rfl⟩, by rw [HN.out]; rfl, fun s' hs => ?_⟩
 rw [HN.out] at hs
 cases hs
 exact ⟨rfl, rfl, HRV.out.leads (veil_below X hb7)⟩
end Hi
end Go.Proofs.YtkajcldmolcllaaGreat
