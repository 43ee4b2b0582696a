/- value.form and value.Bytes of a value of kind 0. -/
/- bin.Int of any number; the forms of a number with a sign, of a text, of a float. -/
/- value.form of a value whose kind's bytes are known; a list's bytes; value.Bytes of any valid value that is small. -/
import Derived.Test.YtcbddebmmaflgaaGreatDoorMial
import Derived.Test.YtcbddebmmaflgaaGreatDoorMiae
import Derived.Test.YtcbddebmmaflgaaGreatDoorMiah
import Derived.Deep.RegionWith
import Derived.Deep.CutRange
import Derived.Laws.EntriesVeiled
import Derived.StillTailTactics
import Derived.Laws.Bits64
namespace Go.Proofs.YtcbddebmmaflgaaGreatDoor
open Go.RowKit
set_option linter.unusedVariables false
namespace Bt
open _root_.Go.Proofs.YtcbddebmmaflgaaGreatDoor.Nm (ret_int ret_bool)
open Vt (VT Rep BoxAt below_drew)
open Ev (take_drop tk cons_drop)

theorem none_bytes (x v : Value) (vn : Int) (vf : Nat) (vs : ByteArray) (A : Option Addr) (m c : Nat) (vk : Int) (w : World) :
    Calls Tryz.prog 186 #[.agg #[], .agg #[.int .i64 vk, .int .i64 vn, .float .f64 vf, .string vs, .slice A m c]] w fun e w' => e = .returned (.slice none 0 0) ∧ Below w.heap.size w w' := by
  go_enter Tryz.func186, Tryz.ntmps186
  go_wp2_with fail
  go_ret
  exact ⟨rfl, ((Below.refl _ _).alloc (Nat.le_refl _) _).alloc (by simp) _⟩

theorem step_append_bytes {ops : Array Oper} {o : Oper} {a : Act} {K : Act → World → Prop} {Q : Exit → Act → World → Prop} {E : Prop} (W : World) (hgd : o.guard = none) (s x : Operand)
    (ho : o.op = .call { callee := .builtin .append, args := #[s, x], argTypes := #[22, 22] }) (base : Nat) (v src : Value) (l m : List Nat) (hv : a.eval s = v) (hx : a.eval x = src) (hown : BOwn W base v l) (hs : BIn W src m) (hlen : l.length + m.length ≤ 35184372088832) (hbase : base ≤ W.heap.size)
    (h : ∀ v' W', BOwn W' base v' (l ++ m) → W.grownBy W' v.ownBlock → Below base W W' → K (a.put o.dst v') W') : if Region.wanted o (yielded ops a.tmps) = true then Oper.wp Tryz.prog o a W K Q else E := by
  have hw : Region.wanted o (yielded ops a.tmps) = true := by simp [Region.wanted, hgd]
  rw [if_pos hw]
  obtain ⟨v', W', hr, h1, h2⟩ := run_append_bytes o.type hown hs hlen hbase
  exact Lib.wp_append_run W s x _ _ ho v src hv hx v' W' hr (h v' W' h1 h2 ((Below.refl base W).grown h2 hbase hown.row_ge))

theorem m_none_bytes (n : Nat) (w : World) : (method (n + 1) 148 (.agg #[]) "clockwork/value.bytes").run Tryz.prog w = .ok (186, .agg #[]) w := by kernel_rfl

set_option maxRecDepth 100000 in
set_option maxHeartbeats 400000 in
theorem form0 (vn : Int) (vf : Nat) (vs : ByteArray) (A : Option Addr) (m c : Nat) (w : World) :
    Calls Tryz.prog 94 #[.agg #[.int .i64 0, .int .i64 vn, .float .f64 vf, .string vs, .slice A m c]] w fun e w' => ∃ v, e = .returned v ∧ BOwn w' w.heap.size v [0] ∧ Below w.heap.size w w' := by
  obtain ⟨W0, hW0⟩ : ∃ W0, W0 = w.alloc (.cells #[.int .i64 0, .int .i64 vn, .float .f64 vf, .string vs, .slice A m c] 30) := ⟨_, rfl⟩
  have hB0 : Below w.heap.size w W0 := by rw [hW0]; exact (Below.refl _ _).alloc (Nat.le_refl _) _
  have hbx : BoxAt W0 w.heap.size 0 vn vf vs A m c := by rw [hW0]; exact BoxAt.new ..
  have hz : w.heap.size < W0.heap.size := by rw [hW0]; simp
  have HBX : Hid (∀ W, Below W0.heap.size W0 W → BoxAt W w.heap.size 0 vn vf vs A m c) := Lib.hid fun W hW => hbx.later hW hz
  have HU : Hid (∀ W, Calls Tryz.prog 53 #[.int .u64 0] W fun e w' => ∃ v, e = .returned v ∧ BOwn w' W.heap.size v [0] ∧ Below W.heap.size W w') := Lib.hid fun W => uint_any 0 (by omega) W
  have HO : Hid (∀ W, Calls Tryz.prog 90 #[.int .i64 0] W fun e w' => e = .returned (.iface 148 (.agg #[])) ∧ W = w') := Lib.hid fun W => Vt.of_any 0 W
  have HNB := Lib.hid fun W => none_bytes undef undef vn vf vs A m c 0 W
  have HB0 := Lib.hid hB0
  have hM := m_none_bytes
  obtain ⟨c0, c1, c2, c3, c4⟩ := hbx.cells
  clear hB0 hbx
  replace hW0 := Lib.hid hW0
  go_enter Tryz.func94, Tryz.ntmps94
  go_upto_region 1 with fail
  rw [← hW0.out]
  have HS : Hid (∀ W, Below W0.heap.size W0 W → (W.cell? ⟨w.heap.size, 0, none⟩ = some (.int .i64 0) ∧ W.cell? ⟨w.heap.size, 1, none⟩ = some (.int .i64 vn) ∧ W.cell? ⟨w.heap.size, 2, none⟩ = some (.float .f64 vf) ∧ W.cell? ⟨w.heap.size, 3, none⟩ = some (.string vs) ∧ W.cell? ⟨w.heap.size, 4, none⟩ = some (.slice A m c))) := Lib.hid fun W hW => (HBX.out W hW).cells
  refine wp_region_noPanic ?_
  refine wp_region_held_drew (S := (fun w' : World => w'.cell? ⟨w.heap.size, 0, none⟩ = some (.int .i64 0) ∧ w'.cell? ⟨w.heap.size, 1, none⟩ = some (.int .i64 vn) ∧ w'.cell? ⟨w.heap.size, 2, none⟩ = some (.float .f64 vf) ∧ w'.cell? ⟨w.heap.size, 3, none⟩ = some (.string vs) ∧ w'.cell? ⟨w.heap.size, 4, none⟩ = some (.slice A m c))) (by kernel_rfl) ?_ (fun hHeld => ?_)
  · exact HS.out _ (below_drew (Below.refl _ _))
  refine tk (i := 0) rfl ?_
  try simp only [Act.put, List.setIfInBounds_toArray, List.set_cons_zero, List.set_cons_succ]
  refine tk (i := 1) rfl ?_
  try simp only [Act.put, List.setIfInBounds_toArray, List.set_cons_zero, List.set_cons_succ]
  refine tk (i := 2) rfl ?_
  try simp only [Act.put, List.setIfInBounds_toArray, List.set_cons_zero, List.set_cons_succ]
  refine tk (i := 4) rfl ?_
  try simp only [Act.put, List.setIfInBounds_toArray, List.set_cons_zero, List.set_cons_succ]
  refine tk (i := 5) rfl ?_
  try simp only [Act.put, List.setIfInBounds_toArray, List.set_cons_zero, List.set_cons_succ]
  refine tk (i := 7) rfl ?_
  try simp only [Act.put, List.setIfInBounds_toArray, List.set_cons_zero, List.set_cons_succ]
  refine wpAnyH_ready (rs := [3]) (by kernel_rfl) (by simp) ?_
  refine cons_drop rfl (fun K hK => ?_) AllReadyH.nil
  go_simp
  refine (HU.out _).mono ?_
  rintro e w1 ⟨v1, rfl, ho1, hb1⟩
  have h1B : Hid (Below W0.heap.size W0 w1) := Lib.hid ((below_drew (Below.refl _ _)).trans hb1)
  have HO1 := Lib.hid ho1
  clear ho1 hb1
  go_wp2_with fail
  refine hK.out _ _ (HS.out _ h1B.out) (fun h1 => ?_)
  clear hK K hHeld
  try simp only [Act.put, List.setIfInBounds_toArray, List.set_cons_zero, List.set_cons_succ]
  refine wpAnyH_ready (rs := [6]) (by kernel_rfl) (by simp) ?_
  refine cons_drop rfl (fun K hK => ?_) AllReadyH.nil
  go_simp
  refine (HO.out _).mono ?_
  rintro e w2 ⟨rfl, rfl⟩
  have h2B := h1B
  go_wp2_with fail
  refine hK.out _ _ (HS.out _ h2B.out) (fun h2 => ?_)
  clear hK K h1
  try simp only [Act.put, List.setIfInBounds_toArray, List.set_cons_zero, List.set_cons_succ]
  refine wpAnyH_ready (rs := [8]) (by kernel_rfl) (by simp) ?_
  refine cons_drop rfl (fun K hK => ?_) AllReadyH.nil
  go_simp
  refine (HNB.out _).mono ?_
  rintro e w3 ⟨rfl, hb3⟩
  have h3B : Hid (Below W0.heap.size W0 w3) := Lib.hid (h1B.out.trans (hb3.mono h1B.out.size))
  have HO3 := Lib.hid (HO1.out.later hb3)
  clear hb3
  go_wp2_with fail
  refine hK.out _ _ (HS.out _ h3B.out) (fun h3 => ?_)
  clear hK K h2
  try simp only [Act.put, List.setIfInBounds_toArray, List.set_cons_zero, List.set_cons_succ]
  refine wpAnyH_ready (rs := [9]) (by kernel_rfl) (by simp) ?_
  refine cons_drop rfl (fun K hK => ?_) AllReadyH.nil
  refine step_append_bytes _ rfl (.tmp 6) (.tmp 11) rfl W0.heap.size v1 (.slice none 0 0) [0] [] (by simp [Act.eval]) (by simp [Act.eval]) HO3.out (.inl ⟨rfl, rfl⟩) (by simp) h3B.out.size ?_
  intro v4 w4 hown4 hg4 hb4
  have h4B := Lib.hid (h3B.out.trans hb4)
  refine hK.out _ _ (HS.out _ h4B.out) (fun h4 => ?_)
  clear hK K h3
  try simp only [Act.put, List.setIfInBounds_toArray, List.set_cons_zero, List.set_cons_succ]
  refine tk (i := 10) rfl ?_
  try simp only [Act.put, List.setIfInBounds_toArray, List.set_cons_zero, List.set_cons_succ]
  refine wpAnyH_done (by kernel_rfl) ?_ _
  refine NoPanic.normal ?_
  go_wp2_with fail
  go_ret
  exact ⟨v4, rfl, hown4.base HB0.out.size, HB0.out.trans (h4B.out.mono HB0.out.size)⟩

set_option maxRecDepth 100000 in
set_option maxHeartbeats 400000 in
theorem vbytes0 (t : VT) (lo hi : Nat) (vn : Int) (vf : Nat) (vs : ByteArray) (A : Option Addr) (m c : Nat) (w : World) (hv : Rep w lo hi t (.agg #[.int .i64 0, .int .i64 vn, .float .f64 vf, .string vs, .slice A m c])) (hz : hi ≤ w.heap.size) (hval : t.valid 8 = true) :
    Calls Tryz.prog 52 #[.agg #[.int .i64 0, .int .i64 vn, .float .f64 vf, .string vs, .slice A m c]] w fun e w' => ∃ v, e = .returned (.tuple #[v, .bool true]) ∧ BOwn w' w.heap.size v [0] ∧ Below w.heap.size w w' := by
  obtain ⟨W0, hW0⟩ : ∃ W0, W0 = w.alloc (.cells #[.int .i64 0, .int .i64 vn, .float .f64 vf, .string vs, .slice A m c] 30) := ⟨_, rfl⟩
  have hB0 : Below w.heap.size w W0 := by rw [hW0]; exact (Below.refl _ _).alloc (Nat.le_refl _) _
  have hbx : BoxAt W0 w.heap.size 0 vn vf vs A m c := by rw [hW0]; exact BoxAt.new ..
  have hz0 : w.heap.size < W0.heap.size := by rw [hW0]; simp
  have HBX : Hid (∀ W, Below W0.heap.size W0 W → BoxAt W w.heap.size 0 vn vf vs A m c) := Lib.hid fun W hW => hbx.later hW hz0
  have HV := Lib.hid (Vt.valid_any t W0 lo hi _ (hv.later (hB0.mono hz)) (Nat.le_trans hz hB0.size))
  rw [hval] at HV
  have HF := Lib.hid fun W => form0 vn vf vs A m c W
  have HB0 := Lib.hid hB0
  obtain ⟨c0, c1, c2, c3, c4⟩ := hbx.cells
  clear hB0 hbx hv
  replace hW0 := Lib.hid hW0
  go_enter Tryz.func52, Tryz.ntmps52
  go_upto_region 1 with fail
  rw [← hW0.out]
  go_wp2_with fail
  refine HV.out.mono ?_
  rintro e w1 ⟨rfl, hb1⟩
  obtain ⟨d0, d1, d2, d3, d4⟩ := (HBX.out w1 hb1).cells
  have HB1 := Lib.hid hb1
  clear hb1 c0 c1 c2 c3 c4
  go_wp2_with fail
  refine (HF.out _).mono ?_
  rintro e w2 ⟨v, rfl, hown, hb2⟩
  have HO2 := Lib.hid hown
  have HB2 := Lib.hid hb2
  clear hown hb2
  go_wp2_with fail
  have hz1 := Nat.le_trans HB0.out.size HB1.out.size
  exact bodyPost_ret (v := .tuple #[v, .bool true]) (by simp [results, Tryz.results52, go_sem]) rfl ⟨v, rfl, HO2.out.base hz1, HB0.out.trans ((HB1.out.trans (HB2.out.mono HB1.out.size)).mono HB0.out.size)⟩
end Bt
end Go.Proofs.YtcbddebmmaflgaaGreatDoor
namespace Go.Proofs.YtcbddebmmaflgaaGreatDoor
open Go.RowKit
set_option linter.unusedVariables false
set_option linter.unusedSimpArgs false
namespace Vf
open _root_.Go.Proofs.YtcbddebmmaflgaaGreatDoor.Nm (bitsW bits_any ret_int ret_bool)
open Bt (BOwn BIn ubytes sb uint_any btext_any bown_nil wpList_append_bytes bv)
open Pf (zz zz_lt be8 sform)
open Vt (VT Rep BoxAt below_drew KidsAt HeadOk)

theorem xor_ones (b : Nat) (hb : b < 18446744073709551616) : 18446744073709551615 ^^^ b = 18446744073709551615 - b := by
  have h1 : (BitVec.allOnes 64 ^^^ BitVec.ofNat 64 b).toNat = 18446744073709551615 ^^^ b := by
    rw [BitVec.toNat_xor, BitVec.toNat_ofNat, Nat.mod_eq_of_lt (by omega)]; rfl
  have h2 : BitVec.allOnes 64 ^^^ BitVec.ofNat 64 b = ~~~(BitVec.ofNat 64 b) := BitVec.allOnes_xor
  rw [h2, BitVec.toNat_not, BitVec.toNat_ofNat, Nat.mod_eq_of_lt (by omega)] at h1
  omega
theorem zz_eq (n : Int) (h0 : -9223372036854775808 ≤ n) (h1 : n ≤ 9223372036854775807) : bits BinOp.xor IntKind.u64 (IntKind.u64.wrap (wrap64 (n * 2))) (IntKind.u64.wrap (n / 9223372036854775808)) = ((zz n : Nat) : Int) := by
  rw [IntKind.wrap_u64, IntKind.wrap_u64]
  by_cases hn : 0 ≤ n
  · have e1 : wrap64 (n * 2) % 18446744073709551616 = ((2 * n).toNat : Int) := by unfold wrap64; omega
    have e2 : n / 9223372036854775808 % 18446744073709551616 = ((0 : Nat) : Int) := by omega
    rw [e1, e2, bits_xor_u64_nat _ _ (by omega) (by omega), Nat.xor_zero, zz, if_pos hn]
  · have e1 : wrap64 (n * 2) % 18446744073709551616 = ((2 * n + 18446744073709551616).toNat : Int) := by unfold wrap64; omega
    have e2 : n / 9223372036854775808 % 18446744073709551616 = ((18446744073709551615 : Nat) : Int) := by omega
    rw [e1, e2, bits_xor_u64_nat _ _ (by omega) (by omega), Nat.xor_comm, xor_ones _ (by omega), zz, if_neg hn]
    omega

set_option maxRecDepth 100000 in
theorem bint_any (n : Int) (h0 : -9223372036854775808 ≤ n) (h1 : n ≤ 9223372036854775807) (w : World) :
    Calls Tryz.prog 165 #[.int .i64 n] w fun e w' => ∃ v, e = .returned v ∧ BOwn w' w.heap.size v (ubytes 10 (zz n)) ∧ Below w.heap.size w w' := by
  have HU := Lib.hid (uint_any (zz n) (zz_lt h0 h1) w)
  have HZ := Lib.hid (zz_eq n h0 h1)
  go_enter Tryz.func165, Tryz.ntmps165
  go_wp2_with fail
  rw [HZ.out]
  refine HU.out.mono ?_
  rintro x w1 ⟨v, rfl, ho, hb⟩
  have HO := Lib.hid ho; have HB := Lib.hid hb
  clear ho hb
  go_wp2_with fail
  go_ret
  exact ⟨v, rfl, HO.out, HB.out⟩

/-- What a kind's method leaves. -/
def KB (w : World) (l : List Nat) (r : Ending) (w' : World) : Prop := ∃ v, r = .returned v ∧ BOwn w' w.heap.size v l ∧ Below w.heap.size w w'

set_option maxRecDepth 100000 in
theorem int_bytes (x : Value) (hx : x = .agg #[]) (k n : Int) (h0 : -9223372036854775808 ≤ n) (h1 : n ≤ 9223372036854775807) (f : Nat) (s : ByteArray) (A : Option Addr) (m c : Nat) (w : World) :
    Calls Tryz.prog 162 #[x, .agg #[.int .i64 k, .int .i64 n, .float .f64 f, .string s, .slice A m c]] w (KB w (ubytes 10 (zz n))) := by
  subst hx
  obtain ⟨W0, hW0⟩ : ∃ W0, W0 = (w.alloc (.cells #[] 136)).alloc (.cells #[.int .i64 k, .int .i64 n, .float .f64 f, .string s, .slice A m c] 30) := ⟨_, rfl⟩
  have HB0 : Hid (Below w.heap.size w W0) := Lib.hid (by rw [hW0]; exact ((Below.refl _ _).alloc (Nat.le_refl _) _).alloc (by simp) _)
  have hx0 : BoxAt W0 (w.heap.size + 1) k n f s A m c := by
    rw [hW0]
    have e := heap_alloc_new (w.alloc (.cells #[] 136)) (.cells #[.int .i64 k, .int .i64 n, .float .f64 f, .string s, .slice A m c] 30)
    rw [World.size_alloc] at e
    exact e
  obtain ⟨c0, c1, c2, c3, c4⟩ := hx0.cells
  have HI := Lib.hid (bint_any n h0 h1 W0)
  replace hW0 := Lib.hid hW0
  go_enter Tryz.func162, Tryz.ntmps162
  go_upto_region 1 with fail
  rw [← hW0.out]
  go_wp2_with fail
  refine HI.out.mono ?_
  rintro x w1 ⟨v, rfl, ho, hb⟩
  have HO := Lib.hid (ho.base HB0.out.size); have HB := Lib.hid (HB0.out.trans (hb.mono HB0.out.size))
  clear ho hb
  go_wp2_with fail
  go_ret
  exact ⟨v, rfl, HO.out, HB.out⟩

set_option maxRecDepth 100000 in
theorem text_bytes (x : Value) (hx : x = .agg #[]) (k n : Int) (f : Nat) (s : ByteArray) (hs : s.size ≤ 100000) (A : Option Addr) (m c : Nat) (w : World) :
    Calls Tryz.prog 180 #[x, .agg #[.int .i64 k, .int .i64 n, .float .f64 f, .string s, .slice A m c]] w (KB w (sform s)) := by
  subst hx
  obtain ⟨W0, hW0⟩ : ∃ W0, W0 = (w.alloc (.cells #[] 142)).alloc (.cells #[.int .i64 k, .int .i64 n, .float .f64 f, .string s, .slice A m c] 30) := ⟨_, rfl⟩
  have HB0 : Hid (Below w.heap.size w W0) := Lib.hid (by rw [hW0]; exact ((Below.refl _ _).alloc (Nat.le_refl _) _).alloc (by simp) _)
  have hx0 : BoxAt W0 (w.heap.size + 1) k n f s A m c := by
    rw [hW0]
    have e := heap_alloc_new (w.alloc (.cells #[] 142)) (.cells #[.int .i64 k, .int .i64 n, .float .f64 f, .string s, .slice A m c] 30)
    rw [World.size_alloc] at e
    exact e
  obtain ⟨c0, c1, c2, c3, c4⟩ := hx0.cells
  have HI := Lib.hid (btext_any s hs W0)
  replace hW0 := Lib.hid hW0
  go_enter Tryz.func180, Tryz.ntmps180
  go_upto_region 1 with fail
  rw [← hW0.out]
  go_wp2_with fail
  refine HI.out.mono ?_
  rintro x w1 ⟨v, rfl, ho, hb⟩
  have HO := Lib.hid (ho.base HB0.out.size); have HB := Lib.hid (HB0.out.trans (hb.mono HB0.out.size))
  clear ho hb
  go_wp2_with fail
  go_ret
  exact ⟨v, rfl, HO.out, HB.out⟩

theorem be8_take (v j : Nat) : ((be8 v).take j).length ≤ 8 := by
  rw [List.length_take]; exact Nat.min_le_right j 8
/-- One byte in a block of its own. -/
theorem one_byte (w : World) (x : Int) (b : Nat) (hx : x = (b : Int)) : BIn (w.alloc (.cells #[.int .u8 x] 5)) (.slice (some ⟨w.heap.size, 0, none⟩) 1 1) [b] := by
  subst hx
  refine .inr ⟨⟨w.heap.size, 0, none⟩, 1, rfl, by simp, by simp only [maxLen]; omega, by simp, fun j u hu => ?_⟩
  have hj : j = 0 := by have := (List.getElem?_eq_some_iff.1 hu).1; simp at this; omega
  subst hj
  simp [bv] at hu
  subst hu
  have e := heap_alloc_new w (.cells #[.int .u8 (b : Int)] 5)
  rw [Go.WideShapes.add_plain]
  simp only [World.cell?, e]
  rfl

set_option maxRecDepth 100000 in
set_option maxHeartbeats 2000000 in
theorem float_bytes (x : Value) (hx : x = .agg #[]) (k n : Int) (f : Nat) (hf : f < 18446744073709551616) (s : ByteArray) (A : Option Addr) (m c : Nat) (w : World) :
    Calls Tryz.prog 167 #[x, .agg #[.int .i64 k, .int .i64 n, .float .f64 f, .string s, .slice A m c]] w (KB w (be8 (bitsW f))) := by
  subst hx
  obtain ⟨W0, hW0⟩ : ∃ W0, W0 = (w.alloc (.cells #[] 138)).alloc (.cells #[.int .i64 k, .int .i64 n, .float .f64 f, .string s, .slice A m c] 30) := ⟨_, rfl⟩
  have HB0 : Hid (Below w.heap.size w W0) := Lib.hid (by rw [hW0]; exact ((Below.refl _ _).alloc (Nat.le_refl _) _).alloc (by simp) _)
  have hz0 : w.heap.size + 1 < W0.heap.size := by rw [hW0]; simp
  have hx0 : BoxAt W0 (w.heap.size + 1) k n f s A m c := by
    rw [hW0]
    have e := heap_alloc_new (w.alloc (.cells #[] 138)) (.cells #[.int .i64 k, .int .i64 n, .float .f64 f, .string s, .slice A m c] 30)
    rw [World.size_alloc] at e
    exact e
  have HX0 := Lib.hid hx0
  obtain ⟨v, hv⟩ : ∃ v, v = bitsW f := ⟨_, rfl⟩
  have hvl : v < 18446744073709551616 := by rw [hv]; exact Pf.bits_lt hf
  have HBI : Hid (∀ W, Calls Tryz.prog 91 #[.float .f64 f] W fun e w' => e = .returned (.int .u64 v) ∧ W = w') := Lib.hid fun W => by rw [hv]; exact bits_any f W
  rw [← hv]
  clear hv hx0
  replace hW0 := Lib.hid hW0
  have HVL := Lib.hid hvl; clear hvl
  go_enter Tryz.func167, Tryz.ntmps167
  go_upto_region 1 with fail
  rw [← hW0.out]
  go_wp2_with fail
  go_loopw [5, 6] (fun out i wr => ∃ (j : Nat) (sh : Int), j ≤ 8 ∧ sh = 56 - 8 * (j : Int) ∧ i = .int .i64 sh ∧ BOwn wr W0.heap.size out ((be8 v).take j) ∧ Below W0.heap.size W0 wr) (fun _ i _ => (intOf i + 8).toNat)
  case atStart => exact ⟨0, 56, by omega, by omega, rfl, bown_nil _ _, Below.refl _ _⟩
  case round =>
    obtain ⟨j, sh, hj, hsh, rfl, hown, hb⟩ := hrel
    obtain ⟨-, -, c2, -, -⟩ := (HX0.out.later hb hz0).cells
    have HO := Lib.hid hown; have HB := Lib.hid hb
    clear hown hb
    rcases (by omega : j = 0 ∨ j = 1 ∨ j = 2 ∨ j = 3 ∨ j = 4 ∨ j = 5 ∨ j = 6 ∨ j = 7 ∨ j = 8) with rfl | rfl | rfl | rfl | rfl | rfl | rfl | rfl | rfl
    · obtain rfl : sh = 56 := by omega
      clear hsh
      go_wp2_with fail
      refine (HBI.out _).mono ?_
      rintro x w1 ⟨rfl, rfl⟩
      have HN := Lib.hid (one_byte wr (IntKind.u8.wrap (v / 72057594037927936 : Int)) (v / 72057594037927936 % 256) (by rw [IntKind.wrap_u8]; omega))
      go_wp2_with (at_builtin; refine wpList_append_bytes _ rfl _ _ rfl W0.heap.size _ _ ((be8 v).take 0) [v / 72057594037927936 % 256] rfl rfl (HO.out.later ((Below.refl _ _).alloc (Nat.le_refl _) _)) HN.out (Nat.le_trans (Nat.add_le_add (be8_take v _) (Nat.le_refl 1)) (by decide)) (by simp; exact Nat.le_succ_of_le HB.out.size) ?_; intro v2 w2 hown2 hg2 hb2; have HO2 := Lib.hid hown2; have HB2 := Lib.hid ((HB.out.alloc HB.out.size _).trans hb2); clear hown2 hb2)
      exact ⟨⟨1, 48, by omega, by omega, by go_num, HO2.out, HB2.out⟩, by simp [intOf]⟩
    · obtain rfl : sh = 48 := by omega
      clear hsh
      go_wp2_with fail
      refine (HBI.out _).mono ?_
      rintro x w1 ⟨rfl, rfl⟩
      have HN := Lib.hid (one_byte wr (IntKind.u8.wrap (v / 281474976710656 : Int)) (v / 281474976710656 % 256) (by rw [IntKind.wrap_u8]; omega))
      go_wp2_with (at_builtin; refine wpList_append_bytes _ rfl _ _ rfl W0.heap.size _ _ ((be8 v).take 1) [v / 281474976710656 % 256] rfl rfl (HO.out.later ((Below.refl _ _).alloc (Nat.le_refl _) _)) HN.out (Nat.le_trans (Nat.add_le_add (be8_take v _) (Nat.le_refl 1)) (by decide)) (by simp; exact Nat.le_succ_of_le HB.out.size) ?_; intro v2 w2 hown2 hg2 hb2; have HO2 := Lib.hid hown2; have HB2 := Lib.hid ((HB.out.alloc HB.out.size _).trans hb2); clear hown2 hb2)
      exact ⟨⟨2, 40, by omega, by omega, by go_num, HO2.out, HB2.out⟩, by simp [intOf]⟩
    · obtain rfl : sh = 40 := by omega
      clear hsh
      go_wp2_with fail
      refine (HBI.out _).mono ?_
      rintro x w1 ⟨rfl, rfl⟩
      have HN := Lib.hid (one_byte wr (IntKind.u8.wrap (v / 1099511627776 : Int)) (v / 1099511627776 % 256) (by rw [IntKind.wrap_u8]; omega))
      go_wp2_with (at_builtin; refine wpList_append_bytes _ rfl _ _ rfl W0.heap.size _ _ ((be8 v).take 2) [v / 1099511627776 % 256] rfl rfl (HO.out.later ((Below.refl _ _).alloc (Nat.le_refl _) _)) HN.out (Nat.le_trans (Nat.add_le_add (be8_take v _) (Nat.le_refl 1)) (by decide)) (by simp; exact Nat.le_succ_of_le HB.out.size) ?_; intro v2 w2 hown2 hg2 hb2; have HO2 := Lib.hid hown2; have HB2 := Lib.hid ((HB.out.alloc HB.out.size _).trans hb2); clear hown2 hb2)
      exact ⟨⟨3, 32, by omega, by omega, by go_num, HO2.out, HB2.out⟩, by simp [intOf]⟩
    · obtain rfl : sh = 32 := by omega
      clear hsh
      go_wp2_with fail
      refine (HBI.out _).mono ?_
      rintro x w1 ⟨rfl, rfl⟩
      have HN := Lib.hid (one_byte wr (IntKind.u8.wrap (v / 4294967296 : Int)) (v / 4294967296 % 256) (by rw [IntKind.wrap_u8]; omega))
      go_wp2_with (at_builtin; refine wpList_append_bytes _ rfl _ _ rfl W0.heap.size _ _ ((be8 v).take 3) [v / 4294967296 % 256] rfl rfl (HO.out.later ((Below.refl _ _).alloc (Nat.le_refl _) _)) HN.out (Nat.le_trans (Nat.add_le_add (be8_take v _) (Nat.le_refl 1)) (by decide)) (by simp; exact Nat.le_succ_of_le HB.out.size) ?_; intro v2 w2 hown2 hg2 hb2; have HO2 := Lib.hid hown2; have HB2 := Lib.hid ((HB.out.alloc HB.out.size _).trans hb2); clear hown2 hb2)
      exact ⟨⟨4, 24, by omega, by omega, by go_num, HO2.out, HB2.out⟩, by simp [intOf]⟩
    · obtain rfl : sh = 24 := by omega
      clear hsh
      go_wp2_with fail
      refine (HBI.out _).mono ?_
      rintro x w1 ⟨rfl, rfl⟩
      have HN := Lib.hid (one_byte wr (IntKind.u8.wrap (v / 16777216 : Int)) (v / 16777216 % 256) (by rw [IntKind.wrap_u8]; omega))
      go_wp2_with (at_builtin; refine wpList_append_bytes _ rfl _ _ rfl W0.heap.size _ _ ((be8 v).take 4) [v / 16777216 % 256] rfl rfl (HO.out.later ((Below.refl _ _).alloc (Nat.le_refl _) _)) HN.out (Nat.le_trans (Nat.add_le_add (be8_take v _) (Nat.le_refl 1)) (by decide)) (by simp; exact Nat.le_succ_of_le HB.out.size) ?_; intro v2 w2 hown2 hg2 hb2; have HO2 := Lib.hid hown2; have HB2 := Lib.hid ((HB.out.alloc HB.out.size _).trans hb2); clear hown2 hb2)
      exact ⟨⟨5, 16, by omega, by omega, by go_num, HO2.out, HB2.out⟩, by simp [intOf]⟩
    · obtain rfl : sh = 16 := by omega
      clear hsh
      go_wp2_with fail
      refine (HBI.out _).mono ?_
      rintro x w1 ⟨rfl, rfl⟩
      have HN := Lib.hid (one_byte wr (IntKind.u8.wrap (v / 65536 : Int)) (v / 65536 % 256) (by rw [IntKind.wrap_u8]; omega))
      go_wp2_with (at_builtin; refine wpList_append_bytes _ rfl _ _ rfl W0.heap.size _ _ ((be8 v).take 5) [v / 65536 % 256] rfl rfl (HO.out.later ((Below.refl _ _).alloc (Nat.le_refl _) _)) HN.out (Nat.le_trans (Nat.add_le_add (be8_take v _) (Nat.le_refl 1)) (by decide)) (by simp; exact Nat.le_succ_of_le HB.out.size) ?_; intro v2 w2 hown2 hg2 hb2; have HO2 := Lib.hid hown2; have HB2 := Lib.hid ((HB.out.alloc HB.out.size _).trans hb2); clear hown2 hb2)
      exact ⟨⟨6, 8, by omega, by omega, by go_num, HO2.out, HB2.out⟩, by simp [intOf]⟩
    · obtain rfl : sh = 8 := by omega
      clear hsh
      go_wp2_with fail
      refine (HBI.out _).mono ?_
      rintro x w1 ⟨rfl, rfl⟩
      have HN := Lib.hid (one_byte wr (IntKind.u8.wrap (v / 256 : Int)) (v / 256 % 256) (by rw [IntKind.wrap_u8]; omega))
      go_wp2_with (at_builtin; refine wpList_append_bytes _ rfl _ _ rfl W0.heap.size _ _ ((be8 v).take 6) [v / 256 % 256] rfl rfl (HO.out.later ((Below.refl _ _).alloc (Nat.le_refl _) _)) HN.out (Nat.le_trans (Nat.add_le_add (be8_take v _) (Nat.le_refl 1)) (by decide)) (by simp; exact Nat.le_succ_of_le HB.out.size) ?_; intro v2 w2 hown2 hg2 hb2; have HO2 := Lib.hid hown2; have HB2 := Lib.hid ((HB.out.alloc HB.out.size _).trans hb2); clear hown2 hb2)
      exact ⟨⟨7, 0, by omega, by omega, by go_num, HO2.out, HB2.out⟩, by simp [intOf]⟩
    · obtain rfl : sh = 0 := by omega
      clear hsh
      go_wp2_with fail
      refine (HBI.out _).mono ?_
      rintro x w1 ⟨rfl, rfl⟩
      have HN := Lib.hid (one_byte wr (IntKind.u8.wrap (v : Int)) (v % 256) (by rw [IntKind.wrap_u8]; omega))
      go_wp2_with (at_builtin; refine wpList_append_bytes _ rfl _ _ rfl W0.heap.size _ _ ((be8 v).take 7) [v % 256] rfl rfl (HO.out.later ((Below.refl _ _).alloc (Nat.le_refl _) _)) HN.out (Nat.le_trans (Nat.add_le_add (be8_take v _) (Nat.le_refl 1)) (by decide)) (by simp; exact Nat.le_succ_of_le HB.out.size) ?_; intro v2 w2 hown2 hg2 hb2; have HO2 := Lib.hid hown2; have HB2 := Lib.hid ((HB.out.alloc HB.out.size _).trans hb2); clear hown2 hb2)
      exact ⟨⟨8, -8, by omega, by omega, by go_num, HO2.out, HB2.out⟩, by simp [intOf]⟩
    · obtain rfl : sh = -8 := by omega
      clear hsh
      go_wp2_with fail
      go_ret
      exact ⟨_, rfl, HO.out.base HB0.out.size, HB0.out.trans (HB.out.mono HB0.out.size)⟩
end Vf
end Go.Proofs.YtcbddebmmaflgaaGreatDoor
namespace Go.Proofs.YtcbddebmmaflgaaGreatDoor
open Go.RowKit
set_option linter.unusedVariables false
set_option linter.unusedSimpArgs false
namespace Vf
open _root_.Go.Proofs.YtcbddebmmaflgaaGreatDoor.Nm (bitsW bits_any ret_int ret_bool)
open Bt (BOwn BIn ubytes sb uint_any btext_any bown_nil wpList_append_bytes step_append_bytes bv)
open Pf (zz zz_lt be8 sform)
open Vt (VT Rep BoxAt below_drew KidsAt HeadOk kindV of_any)
open Ev (take_drop tk cons_drop)

/-- What a kind's method leaves, as bytes that can be read. -/
def KI (w : World) (l : List Nat) (r : Ending) (w' : World) : Prop := ∃ v, r = .returned v ∧ BIn w' v l ∧ Below w.heap.size w w'
theorem KB.ki {w : World} {l : List Nat} {r : Ending} {w' : World} (h : KB w l r w') : KI w l r w' := by
  obtain ⟨v, h1, h2, h3⟩ := h
  exact ⟨v, h1, h2.read, h3⟩

set_option maxRecDepth 100000 in
set_option maxHeartbeats 1000000 in
theorem form_walk (k : Nat) (hk : k ≤ 4) (T M : Nat) (lk : List Nat) (hlk : lk.length ≤ 1000000) (vn : Int) (vf : Nat) (vs : ByteArray) (A : Option Addr) (m c : Nat) (w : World)
    (hO : ∀ W, Calls Tryz.prog 90 #[.int .i64 (k : Nat)] W fun e w' => e = .returned (.iface T (.agg #[])) ∧ W = w')
    (hM : ∀ n w, (method (n + 1) T (.agg #[]) "clockwork/value.bytes").run Tryz.prog w = .ok (M, .agg #[]) w)
    (hcall : ∀ args w, (callFunc M args).run Tryz.prog w = .ok (.enter M args) w)
    (hB : ∀ W, Below w.heap.size w W → Calls Tryz.prog M #[.agg #[], .agg #[.int .i64 (k : Nat), .int .i64 vn, .float .f64 vf, .string vs, .slice A m c]] W (KI W lk)) :
    Calls Tryz.prog 94 #[.agg #[.int .i64 (k : Nat), .int .i64 vn, .float .f64 vf, .string vs, .slice A m c]] w (KB w (ubytes 10 k ++ lk)) := by
  obtain ⟨W0, hW0⟩ : ∃ W0, W0 = w.alloc (.cells #[.int .i64 (k : Nat), .int .i64 vn, .float .f64 vf, .string vs, .slice A m c] 30) := ⟨_, rfl⟩
  have hB0 : Below w.heap.size w W0 := by rw [hW0]; exact (Below.refl _ _).alloc (Nat.le_refl _) _
  have hbx : BoxAt W0 w.heap.size k vn vf vs A m c := by rw [hW0]; exact BoxAt.new ..
  have hz : w.heap.size < W0.heap.size := by rw [hW0]; simp
  have HBX : Hid (∀ W, Below W0.heap.size W0 W → BoxAt W w.heap.size k vn vf vs A m c) := Lib.hid fun W hW => hbx.later hW hz
  have HU : Hid (∀ W, Calls Tryz.prog 53 #[.int .u64 (k : Nat)] W fun e w' => ∃ v, e = .returned v ∧ BOwn w' W.heap.size v (ubytes 10 k) ∧ Below W.heap.size W w') := Lib.hid fun W => uint_any k (by omega) W
  have HWR : Hid (IntKind.u64.wrap (k : Int) = (k : Int)) := Lib.hid (IntWalk.u64_in _ (by omega))
  have HO := Lib.hid hO
  have HNB : Hid (∀ W, Below W0.heap.size W0 W → Calls Tryz.prog M #[.agg #[], .agg #[.int .i64 (k : Nat), .int .i64 vn, .float .f64 vf, .string vs, .slice A m c]] W (KI W lk)) := Lib.hid fun W hW => hB W (hB0.trans (hW.mono hB0.size))
  have HB0 := Lib.hid hB0
  have HLK := Lib.hid hlk
  obtain ⟨c0, c1, c2, c3, c4⟩ := hbx.cells
  clear hB0 hbx hO hB hlk
  replace hW0 := Lib.hid hW0
  go_enter Tryz.func94, Tryz.ntmps94
  go_upto_region 1 with fail
  rw [← hW0.out]
  have HS : Hid (∀ W', Below W0.heap.size W0 W' → (W'.cell? ⟨w.heap.size, 0, none⟩ = some (.int .i64 (k : Nat)) ∧ W'.cell? ⟨w.heap.size, 1, none⟩ = some (.int .i64 vn) ∧ W'.cell? ⟨w.heap.size, 2, none⟩ = some (.float .f64 vf) ∧ W'.cell? ⟨w.heap.size, 3, none⟩ = some (.string vs) ∧ W'.cell? ⟨w.heap.size, 4, none⟩ = some (.slice A m c))) := Lib.hid fun W hW => (HBX.out W hW).cells
  clear c0 c1 c2 c3 c4
  refine wp_region_noPanic ?_
  refine wp_region_held_drew (S := (fun W' : World => W'.cell? ⟨w.heap.size, 0, none⟩ = some (.int .i64 (k : Nat)) ∧ W'.cell? ⟨w.heap.size, 1, none⟩ = some (.int .i64 vn) ∧ W'.cell? ⟨w.heap.size, 2, none⟩ = some (.float .f64 vf) ∧ W'.cell? ⟨w.heap.size, 3, none⟩ = some (.string vs) ∧ W'.cell? ⟨w.heap.size, 4, none⟩ = some (.slice A m c))) (by kernel_rfl) ?_ (fun hHeld => ?_)
  · exact HS.out _ (below_drew (Below.refl _ _))
  refine tk (i := 0) rfl ?_
  try simp only [Act.put, List.setIfInBounds_toArray, List.set_cons_zero, List.set_cons_succ]
  refine tk (i := 1) rfl ?_
  try simp only [Act.put, List.setIfInBounds_toArray, List.set_cons_zero, List.set_cons_succ]
  refine tk (i := 2) rfl ?_
  try simp only [Act.put, List.setIfInBounds_toArray, List.set_cons_zero, List.set_cons_succ]
  refine tk (i := 4) rfl ?_
  try simp only [Act.put, List.setIfInBounds_toArray, List.set_cons_zero, List.set_cons_succ]
  refine tk (i := 5) rfl ?_
  try simp only [Act.put, List.setIfInBounds_toArray, List.set_cons_zero, List.set_cons_succ]
  refine tk (i := 7) rfl ?_
  try simp only [Act.put, List.setIfInBounds_toArray, List.set_cons_zero, List.set_cons_succ]
  refine wpAnyH_ready (rs := [3]) (by kernel_rfl) (by simp) ?_
  refine cons_drop rfl (fun K hK => ?_) AllReadyH.nil
  go_simp
  rw [HWR.out]
  refine (HU.out _).mono ?_
  rintro e w1 ⟨v1, rfl, ho1, hb1⟩
  have h1B : Hid (Below W0.heap.size W0 w1) := Lib.hid ((below_drew (Below.refl _ _)).trans hb1)
  have HO1 := Lib.hid (ho1.base (Nat.le_refl _ : W0.heap.size ≤ W0.drew.heap.size))
  clear ho1 hb1
  go_wp2_with fail
  refine hK.out _ _ (HS.out _ h1B.out) (fun hHeld2 => ?_)
  clear hK K
  try simp only [Act.put, List.setIfInBounds_toArray, List.set_cons_zero, List.set_cons_succ]
  refine wpAnyH_ready (rs := [6]) (by kernel_rfl) (by simp) ?_
  refine cons_drop rfl (fun K hK => ?_) AllReadyH.nil
  go_simp
  refine (HO.out _).mono ?_
  rintro e w2 ⟨rfl, rfl⟩
  go_wp2_with fail
  refine hK.out _ _ (HS.out _ h1B.out) (fun hHeld2 => ?_)
  clear hK K
  try simp only [Act.put, List.setIfInBounds_toArray, List.set_cons_zero, List.set_cons_succ]
  refine wpAnyH_ready (rs := [8]) (by kernel_rfl) (by simp) ?_
  refine cons_drop rfl (fun K hK => ?_) AllReadyH.nil
  go_simp
  refine (HNB.out _ h1B.out).mono ?_
  rintro e w3 ⟨v3, rfl, hin3, hb3⟩
  have h3B : Hid (Below W0.heap.size W0 w3) := Lib.hid (h1B.out.trans (hb3.mono h1B.out.size))
  have HO3 := Lib.hid (HO1.out.later hb3)
  have HI3 := Lib.hid hin3
  clear hb3 hin3
  go_wp2_with fail
  refine hK.out _ _ (HS.out _ h3B.out) (fun hHeld2 => ?_)
  clear hK K
  try simp only [Act.put, List.setIfInBounds_toArray, List.set_cons_zero, List.set_cons_succ]
  refine wpAnyH_ready (rs := [9]) (by kernel_rfl) (by simp) ?_
  refine cons_drop rfl (fun K hK => ?_) AllReadyH.nil
  refine step_append_bytes _ rfl (.tmp 6) (.tmp 11) rfl W0.heap.size v1 v3 (ubytes 10 k) lk (by simp [Act.eval]) (by simp [Act.eval]) HO3.out HI3.out (by have := HLK.out; have := Bt.ubytes_len 10 k; omega) h3B.out.size ?_
  intro v4 w4 hown4 hg4 hb4
  have h4B := Lib.hid (h3B.out.trans hb4)
  refine hK.out _ _ (HS.out _ h4B.out) (fun hHeld2 => ?_)
  clear hK K
  try simp only [Act.put, List.setIfInBounds_toArray, List.set_cons_zero, List.set_cons_succ]
  refine tk (i := 10) rfl ?_
  try simp only [Act.put, List.setIfInBounds_toArray, List.set_cons_zero, List.set_cons_succ]
  refine wpAnyH_done (by kernel_rfl) ?_ _
  refine NoPanic.normal ?_
  go_wp2_with fail
  go_ret
  exact ⟨v4, rfl, hown4.base HB0.out.size, HB0.out.trans (h4B.out.mono HB0.out.size)⟩

theorem m_none (n : Nat) (w : World) : (method (n + 1) 148 (.agg #[]) "clockwork/value.bytes").run Tryz.prog w = .ok (186, .agg #[]) w := by kernel_rfl
theorem m_int (n : Nat) (w : World) : (method (n + 1) 136 (.agg #[]) "clockwork/value.bytes").run Tryz.prog w = .ok (162, .agg #[]) w := by kernel_rfl
theorem m_float (n : Nat) (w : World) : (method (n + 1) 138 (.agg #[]) "clockwork/value.bytes").run Tryz.prog w = .ok (167, .agg #[]) w := by kernel_rfl
theorem m_text (n : Nat) (w : World) : (method (n + 1) 142 (.agg #[]) "clockwork/value.bytes").run Tryz.prog w = .ok (180, .agg #[]) w := by kernel_rfl
theorem m_list (n : Nat) (w : World) : (method (n + 1) 143 (.agg #[]) "clockwork/value.bytes").run Tryz.prog w = .ok (183, .agg #[]) w := by kernel_rfl
theorem e_none (args : Array Value) (w : World) : (callFunc 186 args).run Tryz.prog w = .ok (.enter 186 args) w := by kernel_rfl
theorem e_int (args : Array Value) (w : World) : (callFunc 162 args).run Tryz.prog w = .ok (.enter 162 args) w := by kernel_rfl
theorem e_float (args : Array Value) (w : World) : (callFunc 167 args).run Tryz.prog w = .ok (.enter 167 args) w := by kernel_rfl
theorem e_text (args : Array Value) (w : World) : (callFunc 180 args).run Tryz.prog w = .ok (.enter 180 args) w := by kernel_rfl
theorem e_list (args : Array Value) (w : World) : (callFunc 183 args).run Tryz.prog w = .ok (.enter 183 args) w := by kernel_rfl

theorem none_bytes (k n : Int) (f : Nat) (s : ByteArray) (A : Option Addr) (m c : Nat) (w : World) :
    Calls Tryz.prog 186 #[.agg #[], .agg #[.int .i64 k, .int .i64 n, .float .f64 f, .string s, .slice A m c]] w (KI w []) := by
  go_enter Tryz.func186, Tryz.ntmps186
  go_wp2_with fail
  go_ret
  exact ⟨_, rfl, .inl ⟨rfl, rfl⟩, ((Below.refl _ _).alloc (Nat.le_refl _) _).alloc (by simp) _⟩

theorem forms_take (l : List VT) (j : Nat) (h : j < l.length) : ((l.take (j + 1)).map Pf.VT.form).flatten = ((l.take j).map Pf.VT.form).flatten ++ Pf.VT.form l[j] := by
  rw [List.take_succ_eq_append_getElem h, List.map_append, List.flatten_append]; simp
theorem forms_le (l : List VT) (j : Nat) : ((l.take j).map Pf.VT.form).flatten.length ≤ (l.map Pf.VT.form).flatten.length := by
  have : ((l.take j ++ l.drop j).map Pf.VT.form).flatten.length = (l.map Pf.VT.form).flatten.length := by rw [List.take_append_drop]
  rw [List.map_append, List.flatten_append, List.length_append] at this
  omega

set_option maxRecDepth 100000 in
set_option maxHeartbeats 1000000 in
theorem list_bytes (k n : Int) (f : Nat) (s : ByteArray) (l : List VT) (A : Option Addr) (cap : Nat) (hl : l.length ≤ cap) (hcap : cap ≤ maxLen) (w : World) (lo hi : Nat) (hk : KidsAt w lo hi l A) (hz : hi ≤ w.heap.size) (hlen : (l.map Pf.VT.form).flatten.length ≤ 500000)
    (ih : ∀ i (h : i < l.length) (W : World) (lo hi : Nat) (v : Value), Rep W lo hi l[i] v → hi ≤ W.heap.size → Calls Tryz.prog 94 #[v] W (KB W (Pf.VT.form l[i]))) :
    Calls Tryz.prog 183 #[.agg #[], .agg #[.int .i64 k, .int .i64 n, .float .f64 f, .string s, .slice A l.length cap]] w (KB w (ubytes 10 l.length ++ (l.map Pf.VT.form).flatten)) := by
  simp only [maxLen] at hcap
  obtain ⟨W0, hW0⟩ : ∃ W0, W0 = (w.alloc (.cells #[] 143)).alloc (.cells #[.int .i64 k, .int .i64 n, .float .f64 f, .string s, .slice A l.length cap] 30) := ⟨_, rfl⟩
  have HB0 : Hid (Below w.heap.size w W0) := Lib.hid (by rw [hW0]; exact ((Below.refl _ _).alloc (Nat.le_refl _) _).alloc (by simp) _)
  have hz0 : w.heap.size + 1 < W0.heap.size := by rw [hW0]; simp
  have hx0 : BoxAt W0 (w.heap.size + 1) k n f s A l.length cap := by
    rw [hW0]
    have e := heap_alloc_new (w.alloc (.cells #[] 143)) (.cells #[.int .i64 k, .int .i64 n, .float .f64 f, .string s, .slice A l.length cap] 30)
    rw [World.size_alloc] at e
    exact e
  have HX0 := Lib.hid hx0
  obtain ⟨c0, c1, c2, c3, c4⟩ := hx0.cells
  have HK := Lib.hid (hk.later (HB0.out.mono hz))
  have IH := Lib.hid ih
  have HU := Lib.hid (uint_any l.length (by omega) W0)
  have HWR : Hid (IntKind.u64.wrap (l.length : Int) = (l.length : Int)) := Lib.hid (IntWalk.u64_in _ (by omega))
  have HLEN := Lib.hid hlen
  have hhi : hi ≤ W0.heap.size := Nat.le_trans hz HB0.out.size
  replace hW0 := Lib.hid hW0
  clear hx0 hk ih hlen
  go_enter Tryz.func183, Tryz.ntmps183
  go_upto_region 1 with fail
  rw [← hW0.out]
  go_wp2_with fail
  refine HU.out.mono ?_
  rintro x w1 ⟨v1, rfl, ho1, hb1⟩
  have HO1 := Lib.hid ho1; have HB1 := Lib.hid hb1
  obtain ⟨d0, d1, d2, d3, d4⟩ := (HX0.out.later hb1 hz0).cells
  clear ho1 hb1 c0 c1 c2 c3 c4
  go_wp2_with fail
  clear d0 d1 d2 d3 d4
  go_loopw [5, 16] (fun out i wr => ∃ (j : Nat), j ≤ l.length ∧ i = .int .i64 j ∧ BOwn wr W0.heap.size out (ubytes 10 l.length ++ ((l.take j).map Pf.VT.form).flatten) ∧ Below W0.heap.size W0 wr) (fun _ i _ => l.length - (intOf i).toNat)
  case atStart => exact ⟨0, by omega, rfl, by simpa using HO1.out, HB1.out⟩
  case round =>
    obtain ⟨j, hj, rfl, hown, hb⟩ := hrel
    have HO := Lib.hid hown; have HB := Lib.hid hb
    clear hown hb
    by_cases hlt : j < l.length
    · obtain ⟨b, off, rfl, hb1, hb2, h3⟩ := (HK.out.later (HB.out.mono hhi)).at_ (by omega)
      obtain ⟨k', n', f', s', L', A', cap', e, g0, g1, g2, g3, g4, hrj⟩ := h3 j hlt
      obtain ⟨W1, hW1⟩ : ∃ W1, W1 = wr.alloc (.cells #[.int .i64 k', .int .i64 n', .float .f64 f', .string s', .slice A' L'.length cap'] 30) := ⟨_, rfl⟩
      have hba : Below wr.heap.size wr W1 := by rw [hW1]; exact (Below.refl _ _).alloc (Nat.le_refl _) _
      have hx1 : BoxAt W1 wr.heap.size k' n' f' s' A' L'.length cap' := by rw [hW1]; exact BoxAt.new ..
      have hhr : hi ≤ wr.heap.size := Nat.le_trans hhi HB.out.size
      have HF := Lib.hid (IH.out j hlt W1 lo hi _ (hrj.later (hba.mono hhr)) (Nat.le_trans hhr hba.size))
      have HOA := Lib.hid (HO.out.later hba)
      have HBA := Lib.hid (HB.out.trans (hba.mono HB.out.size))
      obtain ⟨c0, c1, c2, c3, c4⟩ := hx1.cells
      have HFT := Lib.hid (forms_take l j hlt)
      have HLE : Hid ((ubytes 10 l.length ++ ((l.take j).map Pf.VT.form).flatten).length + (Pf.VT.form l[j]).length ≤ 35184372088832) := Lib.hid (by
        have h1 := forms_le l (j + 1)
        rw [forms_take l j hlt, List.length_append] at h1
        have h2 := HLEN.out
        have h4 := Bt.ubytes_len 10 l.length
        rw [List.length_append]
        omega)
      replace hW1 := Lib.hid hW1
      clear h3 hrj e hba hx1
      obtain ⟨acc, hacc⟩ : ∃ a, a = ubytes 10 l.length ++ ((l.take j).map Pf.VT.form).flatten := ⟨_, rfl⟩
      rw [← hacc] at HOA HLE
      have HACC := Lib.hid hacc
      obtain ⟨fj, hfj⟩ : ∃ a, a = Pf.VT.form l[j] := ⟨_, rfl⟩
      rw [← hfj] at HF HLE
      have HFJ := Lib.hid hfj
      clear hacc hfj HO
      go_upto_region 5 with fail
      rw [← hW1.out]
      clear g0 g1 g2 g3 g4
      go_wp2_with fail
      refine HF.out.mono ?_
      rintro x w2 ⟨v2, rfl, ho2, hb2⟩
      have HOB := Lib.hid (HOA.out.later hb2)
      have HI2 := Lib.hid ho2.read
      have HBB := Lib.hid (HBA.out.trans (hb2.mono HBA.out.size))
      clear ho2 hb2 c0 c1 c2 c3 c4
      go_wp2_with (at_builtin; refine wpList_append_bytes _ rfl _ _ rfl W0.heap.size _ _ acc fj rfl rfl HOB.out HI2.out HLE.out HBB.out.size ?_; intro v3 w3 hown3 hg3 hb3; have HO3 := Lib.hid hown3; have HB3 := Lib.hid (HBB.out.trans hb3); clear hown3 hb3)
      exact ⟨⟨j + 1, by omega, by go_num, by rw [HFT.out, ← List.append_assoc, ← HACC.out, ← HFJ.out]; exact HO3.out, HB3.out⟩, by simp [intOf]; omega⟩
    · have hj' : j = l.length := by omega
      subst hj'
      go_wp2_with fail
      go_ret
      have h := HO.out
      rw [List.take_length] at h
      exact ⟨_, rfl, h.base HB0.out.size, HB0.out.trans (HB.out.mono HB0.out.size)⟩

/-- How long a form gets. -/
theorem flat_sum (l : List VT) : (l.map Pf.VT.form).flatten.length = (l.map (fun t => (Pf.VT.form t).length)).sum := by
  rw [List.length_flatten, List.map_map]; rfl
theorem weightL_sum (l : List VT) : ∀ (n m : Int) (C : Int), 0 ≤ C → Vt.weightL l n m ≤ m → (∀ (i : Nat) (hi : i < l.length) (m' : Int), m' ≤ m → l[i].weight m' ≤ m' → ((Pf.VT.form l[i]).length : Int) ≤ C * l[i].weight m') → 0 ≤ n → C * n + ((l.map (fun t => (Pf.VT.form t).length)).sum : Int) ≤ C * Vt.weightL l n m := by
  induction l with
  | nil => intro n m C hC h hk hn; rw [Vt.weightL_nil]; simp
  | cons t l ih =>
    intro n m C hC h hk hn
    rw [Vt.weightL_cons] at h ⊢
    by_cases hnm : n ≤ m
    · rw [if_pos hnm] at h ⊢
      have hw := Vt.weight_ge t (m - n)
      have hge := Vt.weightL_ge' l (n + t.weight (m - n)) m
      have h1 := hk 0 (by simp) (m - n) (by omega) (by simp only [List.getElem_cons_zero]; omega)
      simp only [List.getElem_cons_zero] at h1
      have h2 := ih (n + t.weight (m - n)) m C hC h (fun i hi m' hm' hw' => hk (i + 1) (by simpa using hi) m' hm' hw') (by omega)
      simp only [List.map_cons, List.sum_cons]
      rw [Int.mul_add] at h2
      push_cast
      omega
    · rw [if_neg hnm] at h
      omega
theorem form_len_of_weight (t : VT) : ∀ m : Int, m ≤ 900 → t.weight m ≤ m → ((Pf.VT.form t).length : Int) ≤ 24 * t.weight m := by
  induction t using VT.ind with
  | _ k n f s l ih =>
    intro m hm h
    rw [Vt.weight_mk] at h ⊢
    have hge := Vt.weightL_ge' l (1 + min (s.size : Int) 1000) m
    have hs := weightL_sum l (1 + min (s.size : Int) 1000) m 24 (by omega) h (fun i hi m' hm' hw' => ih i hi m' (by omega) hw') (by omega)
    rw [Pf.form_mk, List.length_append]
    have h1 := Bt.ubytes_len 10 k.toNat
    have h2 := Bt.ubytes_len 10 (zz n)
    have h3 := Bt.ubytes_len 10 s.size
    have h4 := Bt.ubytes_len 10 l.length
    have h5 := Bt.sb_len s
    have h6 := flat_sum l
    have hss : (s.size : Int) ≤ 900 := by omega
    have e : ((if k = 1 then ubytes 10 (zz n) else if k = 2 then be8 (bitsW f) else if k = 3 then sform s else if k = 4 then ubytes 10 l.length ++ (l.map Pf.VT.form).flatten else []).length : Int) ≤ 11 + s.size + (l.map (fun t => (Pf.VT.form t).length)).sum := by
      have hnn : (0 : Int) ≤ ((l.map (fun t => (Pf.VT.form t).length)).sum : Int) := Int.natCast_nonneg _
      split
      · omega
      · split
        · simp [be8]; omega
        · split
          · unfold sform; rw [List.length_append]; omega
          · split
            · rw [List.length_append, h6]; push_cast; omega
            · simp; omega
    push_cast
    omega
theorem form_len_few {t : VT} (h : t.few = true) : (Pf.VT.form t).length ≤ 21600 := by
  unfold VT.few at h
  rw [Bool.and_eq_true, decide_eq_true_iff] at h
  have := form_len_of_weight t 900 (by omega) h.1
  omega

/-- A part of a small value is small enough. -/
theorem form_any (t : VT) : ∀ (d : Nat) (w : World) (lo hi : Nat) (v : Value), t.valid d = true → (Pf.VT.form t).length ≤ 100000 → t.Slim 900 → Rep w lo hi t v → hi ≤ w.heap.size → Calls Tryz.prog 94 #[v] w (KB w (Pf.VT.form t)) := by
  induction t using VT.ind with
  | _ k n f s l ih =>
    intro d w lo hi v hv hlen hS hR hz
    obtain ⟨A, cap, rfl, ho, hl, hk⟩ := hR.head
    obtain ⟨hs9, hl9, hkS⟩ := Vt.slim_mk.1 hS
    rw [Pf.form_mk] at hlen ⊢
    have hu := Bt.ubytes_len 10 k.toNat
    rw [List.length_append] at hlen
    rcases Pf.valid_cases hv with ⟨rfl, -⟩ | ⟨rfl, -⟩ | ⟨rfl, -⟩ | ⟨rfl, -⟩ | ⟨rfl, -, -, -, hkv⟩
    · exact form_walk 0 (by omega) 148 186 [] (by simp) n f s A l.length cap w (fun W => of_any 0 W) m_none e_none (fun W hW => none_bytes _ _ _ _ _ _ _ W)
    · exact form_walk 1 (by omega) 136 162 (ubytes 10 (zz n)) (by have := Bt.ubytes_len 10 (zz n); omega) n f s A l.length cap w (fun W => of_any 1 W) m_int e_int (fun W hW => (int_bytes _ rfl _ n ho.n0 ho.n1 f s A _ _ W).mono fun _ _ h => h.ki)
    · exact form_walk 2 (by omega) 138 167 (be8 (bitsW f)) (by simp [be8]) n f s A l.length cap w (fun W => of_any 2 W) m_float e_float (fun W hW => (float_bytes _ rfl _ n f ho.f1 s A _ _ W).mono fun _ _ h => h.ki)
    · exact form_walk 3 (by omega) 142 180 (sform s) (by have := Bt.ubytes_len 10 s.size; have := Bt.sb_len s; unfold sform; rw [List.length_append]; omega) n f s A l.length cap w (fun W => of_any 3 W) m_text e_text (fun W hW => (text_bytes _ rfl _ n f s (by omega) A _ _ W).mono fun _ _ h => h.ki)
    · rw [if_neg (by omega), if_neg (by omega), if_neg (by omega), if_pos rfl] at hlen ⊢
      rw [List.length_append] at hlen
      have hfl : ∀ i (h : i < l.length), (Pf.VT.form l[i]).length ≤ 100000 := fun i hi => by
        have h1 := forms_le l (i + 1)
        rw [forms_take l i hi, List.length_append] at h1
        omega
      refine form_walk 4 (by omega) 143 183 _ (by rw [List.length_append]; omega) n f s A l.length cap w (fun W => of_any 4 W) m_list e_list (fun W hW => ?_)
      exact (list_bytes _ n f s l A cap hl ho.m1 W lo hi (hk.later (hW.mono hz)) (Nat.le_trans hz hW.size) (by omega) (fun i hi W lo hi' v h1 h2 => ih i hi (d - 1) W lo hi' v (hkv _ (List.getElem_mem hi)) (hfl i hi) (hkS i hi) h1 h2)).mono fun _ _ h => h.ki

set_option maxRecDepth 100000 in
set_option maxHeartbeats 400000 in
theorem vbytes_any (t : VT) (hfew : t.few = true) (lo hi : Nat) (vk vn : Int) (vf : Nat) (vs : ByteArray) (A : Option Addr) (m c : Nat) (w : World) (hv : Rep w lo hi t (.agg #[.int .i64 vk, .int .i64 vn, .float .f64 vf, .string vs, .slice A m c])) (hz : hi ≤ w.heap.size) (hval : t.valid 8 = true) :
    Calls Tryz.prog 52 #[.agg #[.int .i64 vk, .int .i64 vn, .float .f64 vf, .string vs, .slice A m c]] w fun e w' => ∃ v, e = .returned (.tuple #[v, .bool true]) ∧ BOwn w' w.heap.size v (Pf.VT.form t) ∧ Below w.heap.size w w' := by
  obtain ⟨W0, hW0⟩ : ∃ W0, W0 = w.alloc (.cells #[.int .i64 vk, .int .i64 vn, .float .f64 vf, .string vs, .slice A m c] 30) := ⟨_, rfl⟩
  have hB0 : Below w.heap.size w W0 := by rw [hW0]; exact (Below.refl _ _).alloc (Nat.le_refl _) _
  have hbx : BoxAt W0 w.heap.size vk vn vf vs A m c := by rw [hW0]; exact BoxAt.new ..
  have hz0 : w.heap.size < W0.heap.size := by rw [hW0]; simp
  have HBX : Hid (∀ W, Below W0.heap.size W0 W → BoxAt W w.heap.size vk vn vf vs A m c) := Lib.hid fun W hW => hbx.later hW hz0
  have HV := Lib.hid (Vt.valid_any t W0 lo hi _ (hv.later (hB0.mono hz)) (Nat.le_trans hz hB0.size))
  rw [hval] at HV
  have HF := Lib.hid fun W (hW : Below W0.heap.size W0 W) => form_any t 8 W lo hi _ hval (by have := form_len_few hfew; omega) (Vt.slim_of_few t hfew) ((hv.later (hB0.mono hz)).later (hW.mono (Nat.le_trans hz hB0.size))) (Nat.le_trans hz (Nat.le_trans hB0.size hW.size))
  have HB0 := Lib.hid hB0
  obtain ⟨c0, c1, c2, c3, c4⟩ := hbx.cells
  clear hB0 hbx hv
  replace hW0 := Lib.hid hW0
  go_enter Tryz.func52, Tryz.ntmps52
  go_upto_region 1 with fail
  rw [← hW0.out]
  go_wp2_with fail
  refine HV.out.mono ?_
  rintro e w1 ⟨rfl, hb1⟩
  obtain ⟨d0, d1, d2, d3, d4⟩ := (HBX.out w1 hb1).cells
  have HB1 := Lib.hid hb1
  clear hb1 c0 c1 c2 c3 c4
  go_wp2_with fail
  refine (HF.out _ HB1.out).mono ?_
  rintro e w2 ⟨v, rfl, hown, hb2⟩
  have HO2 := Lib.hid hown
  have HB2 := Lib.hid hb2
  clear hown hb2
  go_wp2_with fail
  have hz1 := Nat.le_trans HB0.out.size HB1.out.size
  exact bodyPost_ret (v := .tuple #[v, .bool true]) (by simp [results, Tryz.results52, go_sem]) rfl ⟨v, rfl, HO2.out.base hz1, HB0.out.trans ((HB1.out.trans (HB2.out.mono HB1.out.size)).mono HB0.out.size)⟩
end Vf
end Go.Proofs.YtcbddebmmaflgaaGreatDoor
