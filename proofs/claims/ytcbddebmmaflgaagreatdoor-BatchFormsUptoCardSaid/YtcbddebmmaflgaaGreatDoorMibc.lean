/- Plain: the bytes of a form, and how many there are. -/
/- value.read: nothing there, and all kinds but lists. -/
import Derived.Test.YtcbddebmmaflgaaGreatDoorMibb
import Derived.Test.YtcbddebmmaflgaaGreatDoorMiaz
import Derived.Test.YtcbddebmmaflgaaGreatDoorMiak
import Derived.Test.YtcbddebmmaflgaaGreatDoorMiay
namespace Go.Proofs.YtcbddebmmaflgaaGreatDoor
open Go.RowKit
set_option linter.unusedVariables false
set_option linter.unusedSimpArgs false
namespace Rd
open Vt (VT Rep)
open Bt (ubytes sb)
open Ev (EV ERep FieldsOk evCells vCells)
open Cm (EvsIn)
open Cn (bvalid bform efew)
open Vf (eform)
open Rf (valid_size all_valid)

theorem fields_of {w : World} {A : Option Addr} {cap : Nat} {es : List EV} (h : EvsIn w A cap es) : ∀ e ∈ es, FieldsOk e ∧ Pf.VT.fine e.v := by
  intro e he
  obtain ⟨i, hi, rfl⟩ := List.getElem_of_mem he
  obtain ⟨b, off, lo, hi', vk, vn, vf, vs, A', m, c, -, -, h1, h2, -⟩ := h.get i hi
  exact ⟨h1, Pf.Rep.fine h2⟩
theorem good_of {w : World} {A : Option Addr} {cap : Nat} {es : List EV} (h : EvsIn w A cap es) {f : ByteArray} {a : Nat} (hv : bvalid f a es = true) : ∀ e ∈ es, GoodE e := fun e he => ⟨all_valid hv e he, (fields_of h e he).1, (fields_of h e he).2⟩
theorem few_all {es : List EV} (h : ∀ k (hk : k < es.length), efew es[k] = true) : ∀ e ∈ es, e.v.few = true := by
  intro e he
  obtain ⟨i, hi, rfl⟩ := List.getElem_of_mem he
  have := h i hi
  unfold efew at this
  simp only [Bool.and_eq_true] at this
  exact this.1.1
theorem ub_bytG (f : Nat) : ∀ y, y < 128 ^ (f + 1) → Byt (ubytes f y) := by
  induction f with
  | zero => intro y h b hb; simp [ubytes] at hb h; omega
  | succ f ih =>
    intro y h b hb
    by_cases hy : y < 128
    · rw [Rf.ub_last hy] at hb; simp at hb; omega
    · obtain ⟨g, hg, h1, h2⟩ := Rf.ub_next h (by omega)
      obtain rfl : g = f := by omega
      rw [h2] at hb
      rcases List.mem_cons.1 hb with rfl | hb
      · omega
      · exact ih _ h1 b hb
theorem ub_byt {x : Nat} (h : x < 18446744073709551616) : Byt (ubytes 10 x) := ub_bytG 10 x (Rf.ub_big h)
theorem sform_byt {s : ByteArray} (h : s.size < 18446744073709551616) : Byt (Pf.sform s) := fun b hb => by
  unfold Pf.sform at hb
  rcases List.mem_append.1 hb with h' | h'
  · exact ub_byt h b h'
  · exact sb_byt s b h'
theorem vform_byt (t : VT) : ∀ d, t.valid d = true → Pf.VT.fine t → Byt (Pf.VT.form t) := by
  induction t using VT.ind with
  | _ k n f s l ih =>
    intro d hv hfine
    obtain ⟨⟨n0, n1, f1, s1, m1⟩, hkf⟩ := Pf.fine_mk.1 hfine
    rw [Pf.form_mk]
    intro b hb
    rcases List.mem_append.1 hb with hb | hb
    · rcases Pf.valid_cases hv with ⟨rfl, -⟩ | ⟨rfl, -⟩ | ⟨rfl, -⟩ | ⟨rfl, -⟩ | ⟨rfl, -⟩ <;> exact ub_byt (by decide) b hb
    · rcases Pf.valid_cases hv with ⟨rfl, -⟩ | ⟨rfl, -⟩ | ⟨rfl, -⟩ | ⟨rfl, -⟩ | ⟨rfl, -, -, -, hkv⟩
      · simp at hb
      · rw [if_pos rfl] at hb; exact ub_byt (Pf.zz_lt n0 n1) b hb
      · rw [if_neg (by omega), if_pos rfl] at hb
        simp only [Pf.be8, List.mem_cons, List.not_mem_nil, or_false] at hb
        omega
      · rw [if_neg (by omega), if_neg (by omega), if_pos rfl] at hb; exact sform_byt s1 b hb
      · rw [if_neg (by omega), if_neg (by omega), if_neg (by omega), if_pos rfl] at hb
        rcases List.mem_append.1 hb with hb | hb
        · exact ub_byt m1 b hb
        · obtain ⟨fl, hfl, hb⟩ := List.mem_flatten.1 hb
          obtain ⟨t, ht, rfl⟩ := List.mem_map.1 hfl
          obtain ⟨i, hi, rfl⟩ := List.getElem_of_mem ht
          exact ih i hi (d - 1) (hkv _ ht) (hkf _ ht) b hb
theorem eform_byt {e : EV} (g : GoodE e) : Byt (eform e) := by
  have V := Vf.ve_of g.1
  have hf := g.2.1
  have h1 := V.k1; have h2 := V.k2; have h3 := V.n1; have h4 := V.n2; have h5 := V.s1; have h6 := V.t1
  unfold eform
  rw [Vf.sel6]
  have hi : ∀ (b : Bool) (l : List Nat), Byt l → Byt (if b = true then l else []) := fun b l h => by
    split
    · exact h
    · exact fun _ h => by simp at h
  intro b hb
  simp only [List.mem_append, List.mem_singleton] at hb
  rcases hb with (rfl | h) | h | h | h | h | h | h
  · omega
  · exact ub_byt (by omega) b h
  · exact hi _ _ (ub_byt hf.i1) b h
  · exact hi _ _ (ub_byt (by omega)) b h
  · exact hi _ _ (ub_byt hf.a1) b h
  · exact hi _ _ (sform_byt (by omega)) b h
  · exact hi _ _ (sform_byt (by omega)) b h
  · exact hi _ _ (vform_byt _ 8 V.v1 g.2.2) b h
theorem eform_len {e : EV} (hv : e.valid = true) (hf : FieldsOk e) (hfew : e.v.few = true) : (eform e).length ≤ 30000 := by
  have V := Vf.ve_of hv
  have h1 := V.s1; have h2 := V.t1
  have h3 := Vf.form_len_few hfew
  unfold eform
  rw [Vf.sel6]
  have hs : ∀ s : ByteArray, s.size ≤ 1000 → (Pf.sform s).length ≤ 1011 := fun s h => by unfold Pf.sform; rw [List.length_append, Bt.sb_len]; have := Bt.ubytes_len 10 s.size; omega
  have hi : ∀ (b : Bool) (l : List Nat) (n : Nat), l.length ≤ n → (if b = true then l else []).length ≤ n := fun b l n h => by split <;> simp [h]
  have a0 := hi (Vf.hasF e 0) _ _ (Bt.ubytes_len 10 e.id); have a1 := hi (Vf.hasF e 1) _ _ (Bt.ubytes_len 10 e.n.toNat); have a2 := hi (Vf.hasF e 2) _ _ (Bt.ubytes_len 10 e.at')
  have a3 := hi (Vf.hasF e 3) _ _ (hs _ h1); have a4 := hi (Vf.hasF e 4) _ _ (hs _ h2); have a5 := hi (Vf.hasF e 5) _ _ h3
  have a6 := Bt.ubytes_len 10 e.k.toNat
  simp only [List.length_append, List.length_singleton]
  omega
theorem flat_le {es : List EV} {M : Nat} (h : ∀ e ∈ es, (eform e).length ≤ M) : ((es.map eform).flatten).length ≤ es.length * M := by
  induction es with
  | nil => simp
  | cons x l ih =>
    have h1 := h x (List.mem_cons_self ..)
    have h2 := ih fun e he => h e (List.mem_cons_of_mem _ he)
    simp only [List.map_cons, List.flatten_cons, List.length_append, List.length_cons, Nat.succ_mul]
    omega
theorem bform_byt {f : ByteArray} {a n : Nat} {es : List EV} (hf : f.size ≤ 1000) (ha : a < 18446744073709551616) (hn : n < 18446744073709551616) (g : ∀ e ∈ es, GoodE e) : Byt (bform f a n (es.map eform)) := by
  unfold bform
  intro b hb
  simp only [List.mem_append] at hb
  rcases hb with (h | h) | h | h | h
  · exact ub_byt (by omega) b h
  · exact sb_byt f b h
  · exact ub_byt ha b h
  · exact ub_byt hn b h
  · obtain ⟨l, hl, h⟩ := List.mem_flatten.1 h
    obtain ⟨e, he, rfl⟩ := List.mem_map.1 hl
    exact eform_byt (g e he) b h
theorem bform_len {f : ByteArray} {a : Nat} {es : List EV} (hf : f.size ≤ 1000) (hl : es.length ≤ 2097152) (h : ∀ e ∈ es, (eform e).length ≤ 30000) : (bform f a es.length (es.map eform)).length ≤ 100000000000 ∧ 0 < (bform f a es.length (es.map eform)).length := by
  have h1 := flat_le h
  unfold bform
  have h2 := Bt.ubytes_len 10 f.size; have h3 := Bt.ubytes_len 10 a; have h4 := Bt.ubytes_len 10 es.length
  have h5 := ub_pos 10 a
  have h6 := Bt.sb_len f
  simp only [List.length_append]
  omega

end Rd
end Go.Proofs.YtcbddebmmaflgaaGreatDoor
namespace Go.Proofs.YtcbddebmmaflgaaGreatDoor
open Go.RowKit
set_option linter.unusedVariables false
set_option linter.unusedSimpArgs false
namespace Rd
open _root_.Go.Proofs.YtcbddebmmaflgaaGreatDoor.Nm (ret_int ret_bool bitsW ofW okW)
open Vt (VT Rep BoxAt below_drew put5 KidsAt HeadOk kindV of_any kv0 kv1 kv2 kv3 kv4)
open Cm (OnlyAt)
open Cn (BRd brd_own)
attribute [local go_sem] Vt.run_store_float

theorem rs_ok {w : World} {g : Nat} {s : St} (h : RS w g s) : Calls Tryz.prog 32 #[.pointer (some ⟨g, 0, none⟩)] w fun r w' => r = .returned (.bool (!s.2)) ∧ w = w' := by
  obtain ⟨⟨v, hr⟩, -⟩ := h
  exact ok_any g v s.1 s.2 w hr
theorem or_byte (B c : Nat) (hB : B < 72057594037927936) (hc : c < 256) : bits BinOp.or IntKind.u64 (IntKind.u64.wrap ((B : Int) * 256)) (c : Int) = ((B * 256 + c : Nat) : Int) := by
  rw [IntKind.wrap_u64, show ((B : Int) * 256) % 18446744073709551616 = ((B * 256 : Nat) : Int) from by omega, bits_or_u64_nat (B * 256) c (by omega) (by omega)]
  have := Nat.two_pow_add_eq_or_of_lt (i := 8) (show c < 2 ^ 8 by omega) B
  rw [Nat.mul_comm] at this
  rw [show (2 : Nat) ^ 8 = 256 from rfl] at this
  rw [this]
theorem or_byte2 (B c : Nat) (hB : B < 72057594037927936) (hc : c < 256) : bits BinOp.or IntKind.u64 ((B : Int) * 256) (c : Int) = ((B * 256 + c : Nat) : Int) := by
  have := or_byte B c hB hc
  rw [IntKind.wrap_u64, show ((B : Int) * 256) % 18446744073709551616 = (B : Int) * 256 from by omega] at this
  exact this
theorem beN_snoc (l : List Nat) (c : Nat) : beN (l ++ [c]) = beN l * 256 + c := by simp [beN]
theorem beN_take (l : List Nat) (j : Nat) (h : j < l.length) : beN (l.take (j + 1)) = beN (l.take j) * 256 + l[j] := by rw [List.take_succ_eq_append_getElem h, beN_snoc]
theorem beN_lt (l : List Nat) (hb : Byt l) : ∀ j, j ≤ l.length → beN (l.take j) < 256 ^ j := by
  intro j
  induction j with
  | zero => intro _; simp [beN]
  | succ j ih =>
    intro h
    rw [beN_take l j (by omega)]
    have h1 := ih (by omega)
    have h2 := hb l[j] (List.getElem_mem _)
    have : (256 : Nat) ^ (j + 1) = 256 ^ j * 256 := Nat.pow_succ ..
    omega
theorem pow256 : ∀ j, j < 8 → (256 : Nat) ^ j ≤ 72057594037927936 := by decide
theorem pow2568 : ∀ j, j ≤ 8 → (256 : Nat) ^ j ≤ 18446744073709551616 := by decide
theorem rTake_len (s : St) (n : Nat) : (rTake s n).2.length ≤ n := by
  unfold rTake; split
  · rw [List.length_take]; omega
  · simp
theorem rTake_byt2 {s : St} (hb : Byt s.1) (n : Nat) : Byt (rTake s n).2 := by
  unfold rTake; split
  · exact byt_take hb n
  · exact fun b h => by simp at h

set_option maxRecDepth 100000 in
set_option maxHeartbeats 2000000 in
theorem rw_bad (left : Nat) (g : Nat) (s : St) (w : World) (h : RS w g s) (hq : (rUint s).1.2 = true ∨ 4 < (rUint s).2) :
    Calls Tryz.prog 79 #[.pointer (some ⟨g, 0, none⟩), .int .i64 (left : Nat)] w (VRead left s w g) := by
  have HP : Hid (pv left s = none) := Lib.hid (by rw [pv_eq, if_pos hq])
  have hg := h.lt
  obtain ⟨W0, hW0⟩ : ∃ W0, W0 = w.alloc (.cells #[.int .i64 0, .int .i64 0, .float .f64 0, .string ⟨#[]⟩, .slice none 0 0] 30) := ⟨_, rfl⟩
  have hx0 : BoxAt W0 w.heap.size 0 0 0 ⟨#[]⟩ none 0 0 := by rw [hW0]; exact BoxAt.new ..
  have hr0 : RS W0 g s := by rw [hW0]; exact rs_alloc h _
  have ho0 : OnlyAt w W0 g none := by rw [hW0]; exact only_alloc (OnlyAt.of_below (Below.refl _ _)) _
  have HU := Lib.hid (uint_any g s W0 hr0)
  have HX0 := Lib.hid hx0
  have HO0 := Lib.hid ho0
  have HBY := Lib.hid (rUint_byt h.2.1 h.2.2)
  clear h hr0 hx0 ho0
  have HQ := Lib.hid hq
  clear hq
  generalize rUint s = q at *
  obtain ⟨s1, k⟩ := q
  simp only at *
  replace hW0 := Lib.hid hW0
  go_enter Tryz.func79, Tryz.ntmps79
  go_upto_region 1 with fail
  rw [← hW0.out]
  go_wp2_with fail
  refine HU.out.mono ?_
  rintro e w1 ⟨rfl, hr1, ho1⟩
  have hx1 := box_only HX0.out ho1 (by omega)
  have hlt1 := hx1.lt
  have HX1 := Lib.hid hx1
  have HR1 := Lib.hid hr1
  have HO1 := Lib.hid (HO0.out.trans ho1)
  clear hx1 hr1 ho1
  obtain ⟨r0, r1, r2, r3, r4⟩ := HX1.out.cells
  have f0 := Vt.box_free HX1.out 0
  have f1 := Vt.box_free HX1.out 1
  have f2 := Vt.box_free HX1.out 2
  have f3 := Vt.box_free HX1.out 3
  have f4 := Vt.box_free HX1.out 4
  go_wp2_with fail
  refine (rs_ok HR1.out).mono ?_
  rintro e w2 ⟨rfl, rfl⟩
  cases hb : s1.2 with
  | true =>
    go_wp2_with fail
    refine bodyPost_ret (v := .tuple #[.agg #[.int .i64 0, .int .i64 0, .float .f64 0, .string ⟨#[]⟩, .slice none 0 0], .bool false]) (by simp [results, Tryz.results79, go_sem, r0, r1, r2, r3, r4]) rfl ?_
    exact vread_no HP.out (rs_put5 HR1.out (by omega) _ _ _ _ _) (only_put5 HO1.out (Nat.le_refl _) _ _ _ _ _)
  | false =>
    have hk4 : 4 < k := HQ.out.resolve_left (by rw [hb]; simp)
    have k1 : decide ((k : Int) > 4) = true := decide_eq_true (by omega)
    have k2 : decide ((4 : Int) < (k : Int)) = true := decide_eq_true (by omega)
    have k3 : decide (4 < k) = true := decide_eq_true hk4
    go_wp2_with fail
    refine bodyPost_ret (v := .tuple #[.agg #[.int .i64 0, .int .i64 0, .float .f64 0, .string ⟨#[]⟩, .slice none 0 0], .bool false]) (by simp [results, Tryz.results79, go_sem, r0, r1, r2, r3, r4]) rfl ?_
    exact vread_no HP.out (rs_put5 HR1.out (by omega) _ _ _ _ _) (only_put5 HO1.out (Nat.le_refl _) _ _ _ _ _)

set_option maxRecDepth 100000 in
set_option maxHeartbeats 2000000 in
theorem rw_none (left : Nat) (g : Nat) (s : St) (w : World) (h : RS w g s) (hq : (rUint s).1.2 = false ∧ (rUint s).2 = 0) :
    Calls Tryz.prog 79 #[.pointer (some ⟨g, 0, none⟩), .int .i64 (left : Nat)] w (VRead left s w g) := by
  have HP : Hid (pv left s = some ((rUint s).1, .mk 0 0 0 ⟨#[]⟩ [])) := Lib.hid (by rw [pv_eq, if_neg (by rw [hq.1, hq.2]; simp), if_pos hq.2] <;> rfl)
  have hg := h.lt
  obtain ⟨W0, hW0⟩ : ∃ W0, W0 = w.alloc (.cells #[.int .i64 0, .int .i64 0, .float .f64 0, .string ⟨#[]⟩, .slice none 0 0] 30) := ⟨_, rfl⟩
  have hx0 : BoxAt W0 w.heap.size 0 0 0 ⟨#[]⟩ none 0 0 := by rw [hW0]; exact BoxAt.new ..
  have hr0 : RS W0 g s := by rw [hW0]; exact rs_alloc h _
  have ho0 : OnlyAt w W0 g none := by rw [hW0]; exact only_alloc (OnlyAt.of_below (Below.refl _ _)) _
  have HU := Lib.hid (uint_any g s W0 hr0)
  have HX0 := Lib.hid hx0
  have HO0 := Lib.hid ho0
  have HBY := Lib.hid (rUint_byt h.2.1 h.2.2)
  clear h hr0 hx0 ho0
  have HQ := Lib.hid hq
  clear hq
  generalize rUint s = q at *
  obtain ⟨s1, k⟩ := q
  simp only at *
  have k1 : decide ((k : Int) > 4) = false := decide_eq_false (by have := HQ.out.2; omega)
  have k2 : decide ((4 : Int) < (k : Int)) = false := decide_eq_false (by have := HQ.out.2; omega)
  have k3 : decide (4 < k) = false := decide_eq_false (by have := HQ.out.2; omega)
  have hwk : IntKind.i64.wrap (k : Int) = (k : Int) := by have := HQ.out.2; rw [IntKind.wrap_i64]; omega
  have HKV : Hid (kindV (k : Int) = .iface 148 (.agg #[])) := Lib.hid (by rw [HQ.out.2]; exact kv0)
  have hk0 : (k : Int) = 0 := by have := HQ.out.2; omega
  have HK0 := Lib.hid hk0
  clear hk0
  have ta0 := Vt.ta_none_integer
  have ta1 := Vt.ta_none_float
  have ta2 := Vt.ta_none_text
  have ta3 := Vt.ta_none_list
  replace hW0 := Lib.hid hW0
  go_enter Tryz.func79, Tryz.ntmps79
  go_upto_region 1 with fail
  rw [← hW0.out]
  go_wp2_with fail
  refine HU.out.mono ?_
  rintro e w1 ⟨rfl, hr1, ho1⟩
  have hx1 := box_only HX0.out ho1 (by omega)
  have hlt1 := hx1.lt
  have HX1 := Lib.hid hx1
  have HR1 := Lib.hid hr1
  have HO1 := Lib.hid (HO0.out.trans ho1)
  clear hx1 hr1 ho1
  go_wp2_with fail
  refine (rs_ok HR1.out).mono ?_
  rintro e w2 ⟨rfl, rfl⟩
  rw [HQ.out.1]
  obtain ⟨W2, hW2⟩ : ∃ W2, W2 = w1.alloc (.cells #[.int .i64 (k : Int), .int .i64 0, .float .f64 0, .string ⟨#[]⟩, .slice none 0 0] 30) := ⟨_, rfl⟩
  have hv2 : BoxAt W2 w1.heap.size k 0 0 ⟨#[]⟩ none 0 0 := by rw [hW2]; exact BoxAt.new ..
  have ho2 : OnlyAt w1 W2 g none := by rw [hW2]; exact only_alloc (OnlyAt.of_below (Below.refl _ _)) _
  have hr2 : RS W2 g s1 := by rw [hW2]; exact rs_alloc HR1.out _
  have hx2 := box_only HX1.out ho2 (by omega)
  have hlt2 := hv2.lt
  obtain ⟨b1, hb1⟩ : ∃ b1, b1 = w1.heap.size := ⟨_, rfl⟩
  rw [← hb1] at hv2 hlt1 hlt2
  have HV2 := Lib.hid hv2
  have HX2 := Lib.hid hx2
  have HR2 := Lib.hid hr2
  have HO2 := Lib.hid (HO1.out.trans ho2)
  clear ho2 hr2 hx2 hv2
  replace hW2 := Lib.hid hW2
  have HB1 := Lib.hid hb1
  clear hb1
  go_upto_region 5 with fail
  rw [← hW2.out, ← HB1.out]
  obtain ⟨d0, d1, d2, d3, d4⟩ := HV2.out.cells
  go_wp2_with fail
  refine (of_any (k : Int) W2).mono ?_
  rintro e w3 ⟨rfl, rfl⟩
  rw [HKV.out]
  clear d0 d1 d2 d3 d4
  have HX4 := HX2
  have HV4 := HV2
  have HR4 := HR2
  have HO4 := HO2
  replace HP : Hid (pv left s = if s1.2 = true then none else some (s1, .mk 0 0 0 ⟨#[]⟩ [])) := Lib.hid (by rw [HP.out, HQ.out.1]; rfl)
  obtain ⟨s4, hs4⟩ : ∃ s4, s4 = s1 := ⟨_, rfl⟩
  rw [← hs4] at HP HR4
  obtain ⟨d0, d1, d2, d3, d4⟩ := HV4.out.cells
  obtain ⟨r0, r1, r2, r3, r4⟩ := HX4.out.cells
  have f0 := Vt.box_free HX4.out 0
  have f1 := Vt.box_free HX4.out 1
  have f2 := Vt.box_free HX4.out 2
  have f3 := Vt.box_free HX4.out 3
  have f4 := Vt.box_free HX4.out 4
  have hne1 : ¬ (w.heap.size = b1) := by omega
  have hne2 : ¬ (b1 = w.heap.size) := by omega
  go_wp2_with fail
  refine (rs_ok HR4.out).mono ?_
  rintro e w5 ⟨rfl, rfl⟩
  cases hb4 : s4.2 with
  | true =>
    have HN : pv left s = none := by rw [HP.out, hb4]; rfl
    go_wp2_with fail
    refine bodyPost_ret (v := .tuple #[.agg #[.int .i64 0, .int .i64 0, .float .f64 0, .string ⟨#[]⟩, .slice none 0 0], .bool false]) (by simp [results, Tryz.results79, go_sem, r0, r1, r2, r3, r4]) rfl ?_
    exact vread_no HN (rs_put5 HR4.out (by omega) _ _ _ _ _) (only_put5 HO4.out (Nat.le_refl _) _ _ _ _ _)
  | false =>
    have HY : pv left s = some (s4, .mk 0 0 0 ⟨#[]⟩ []) := by rw [HP.out, hb4]; rfl
    go_wp2_with fail
    refine bodyPost_ret (v := .tuple #[.agg #[.int .i64 (k : Int), .int .i64 0, .float .f64 0, .string ⟨#[]⟩, .slice none 0 0], .bool true]) (by simp [results, Tryz.results79, go_sem, r0, r1, r2, r3, r4]) rfl ?_
    exact vread_yes HY (by rw [HK0.out]; exact rep_leaf ⟨by decide, by decide, by decide, by decide, by decide, by decide, by decide⟩) (rs_put5 HR4.out (by omega) _ _ _ _ _) (only_put5 HO4.out (Nat.le_refl _) _ _ _ _ _)

set_option maxRecDepth 100000 in
set_option maxHeartbeats 2000000 in
theorem rw_int (left : Nat) (g : Nat) (s : St) (w : World) (h : RS w g s) (hq : (rUint s).1.2 = false ∧ (rUint s).2 = 1) :
    Calls Tryz.prog 79 #[.pointer (some ⟨g, 0, none⟩), .int .i64 (left : Nat)] w (VRead left s w g) := by
  have HP : Hid (pv left s = if (rUint (rUint s).1).1.2 = true then none else some ((rUint (rUint s).1).1, .mk 1 (unzz (rUint (rUint s).1).2) 0 ⟨#[]⟩ [])) := Lib.hid (by rw [pv_eq, if_neg (by rw [hq.1, hq.2]; simp), if_neg (by rw [hq.2]; decide), if_pos hq.2] <;> rfl)
  have hg := h.lt
  obtain ⟨W0, hW0⟩ : ∃ W0, W0 = w.alloc (.cells #[.int .i64 0, .int .i64 0, .float .f64 0, .string ⟨#[]⟩, .slice none 0 0] 30) := ⟨_, rfl⟩
  have hx0 : BoxAt W0 w.heap.size 0 0 0 ⟨#[]⟩ none 0 0 := by rw [hW0]; exact BoxAt.new ..
  have hr0 : RS W0 g s := by rw [hW0]; exact rs_alloc h _
  have ho0 : OnlyAt w W0 g none := by rw [hW0]; exact only_alloc (OnlyAt.of_below (Below.refl _ _)) _
  have HU := Lib.hid (uint_any g s W0 hr0)
  have HX0 := Lib.hid hx0
  have HO0 := Lib.hid ho0
  have HBY := Lib.hid (rUint_byt h.2.1 h.2.2)
  clear h hr0 hx0 ho0
  have HQ := Lib.hid hq
  clear hq
  generalize rUint s = q at *
  obtain ⟨s1, k⟩ := q
  simp only at *
  have k1 : decide ((k : Int) > 4) = false := decide_eq_false (by have := HQ.out.2; omega)
  have k2 : decide ((4 : Int) < (k : Int)) = false := decide_eq_false (by have := HQ.out.2; omega)
  have k3 : decide (4 < k) = false := decide_eq_false (by have := HQ.out.2; omega)
  have hwk : IntKind.i64.wrap (k : Int) = (k : Int) := by have := HQ.out.2; rw [IntKind.wrap_i64]; omega
  have HKV : Hid (kindV (k : Int) = .iface 136 (.agg #[])) := Lib.hid (by rw [HQ.out.2]; exact kv1)
  have hk0 : (k : Int) = 1 := by have := HQ.out.2; omega
  have HK0 := Lib.hid hk0
  clear hk0
  have ta0 := Vt.ta_integer_integer
  have ta1 := Vt.ta_integer_float
  have ta2 := Vt.ta_integer_text
  have ta3 := Vt.ta_integer_list
  have HI := Lib.hid fun W (hW : RS W g s1) => int_any g s1 W hW
  have HZ := Lib.hid (zz_unzz (rUint s1).2 (rUint_val HBY.out.1))
  generalize rUint s1 = z at *
  obtain ⟨s4, x⟩ := z
  simp only at *
  generalize unzz x = vn at *
  replace hW0 := Lib.hid hW0
  go_enter Tryz.func79, Tryz.ntmps79
  go_upto_region 1 with fail
  rw [← hW0.out]
  go_wp2_with fail
  refine HU.out.mono ?_
  rintro e w1 ⟨rfl, hr1, ho1⟩
  have hx1 := box_only HX0.out ho1 (by omega)
  have hlt1 := hx1.lt
  have HX1 := Lib.hid hx1
  have HR1 := Lib.hid hr1
  have HO1 := Lib.hid (HO0.out.trans ho1)
  clear hx1 hr1 ho1
  go_wp2_with fail
  refine (rs_ok HR1.out).mono ?_
  rintro e w2 ⟨rfl, rfl⟩
  rw [HQ.out.1]
  obtain ⟨W2, hW2⟩ : ∃ W2, W2 = w1.alloc (.cells #[.int .i64 (k : Int), .int .i64 0, .float .f64 0, .string ⟨#[]⟩, .slice none 0 0] 30) := ⟨_, rfl⟩
  have hv2 : BoxAt W2 w1.heap.size k 0 0 ⟨#[]⟩ none 0 0 := by rw [hW2]; exact BoxAt.new ..
  have ho2 : OnlyAt w1 W2 g none := by rw [hW2]; exact only_alloc (OnlyAt.of_below (Below.refl _ _)) _
  have hr2 : RS W2 g s1 := by rw [hW2]; exact rs_alloc HR1.out _
  have hx2 := box_only HX1.out ho2 (by omega)
  have hlt2 := hv2.lt
  obtain ⟨b1, hb1⟩ : ∃ b1, b1 = w1.heap.size := ⟨_, rfl⟩
  rw [← hb1] at hv2 hlt1 hlt2
  have HV2 := Lib.hid hv2
  have HX2 := Lib.hid hx2
  have HR2 := Lib.hid hr2
  have HO2 := Lib.hid (HO1.out.trans ho2)
  clear ho2 hr2 hx2 hv2
  replace hW2 := Lib.hid hW2
  have HB1 := Lib.hid hb1
  clear hb1
  go_upto_region 5 with fail
  rw [← hW2.out, ← HB1.out]
  obtain ⟨d0, d1, d2, d3, d4⟩ := HV2.out.cells
  go_wp2_with fail
  refine (of_any (k : Int) W2).mono ?_
  rintro e w3 ⟨rfl, rfl⟩
  rw [HKV.out]
  clear d0 d1 d2 d3 d4
  go_wp2_with fail
  refine (HI.out _ HR2.out).mono ?_
  rintro e w3 ⟨rfl, hr3, ho3⟩
  have hv3 := box_only HV2.out ho3 (by omega)
  obtain ⟨W4, hW4⟩ : ∃ W4, W4 = w3.setCell ⟨b1, 1, none⟩ (.int .i64 vn) := ⟨_, rfl⟩
  have HV4 : Hid (BoxAt W4 b1 k vn 0 ⟨#[]⟩ none 0 0) := Lib.hid (by rw [hW4]; unfold BoxAt at hv3 ⊢; simp [World.setCell, Array.getElem?_modify, hv3])
  have HX4 : Hid (BoxAt W4 w.heap.size 0 0 0 ⟨#[]⟩ none 0 0) := Lib.hid (by rw [hW4]; exact Vt.box_far (box_only HX2.out ho3 (by omega)) (by omega) _)
  have HR4 : Hid (RS W4 g s4) := Lib.hid (by rw [hW4]; exact rs_set hr3 (by omega) _)
  have HO4 : Hid (OnlyAt w W4 g none) := Lib.hid (by rw [hW4]; exact only_set (HO2.out.trans ho3) (by omega) _)
  have hlt3 := hv3.lt
  obtain ⟨d0, d1, d2, d3, d4⟩ := hv3.cells
  have m0 := Vt.box_free hv3 0
  have m1 := Vt.box_free hv3 1
  have m2 := Vt.box_free hv3 2
  have m3 := Vt.box_free hv3 3
  have m4 := Vt.box_free hv3 4
  clear hv3 hr3 ho3
  replace hW4 := Lib.hid hW4
  go_upto_region 27 with fail
  rw [← hW4.out]
  clear d0 d1 d2 d3 d4 m0 m1 m2 m3 m4
  obtain ⟨d0, d1, d2, d3, d4⟩ := HV4.out.cells
  obtain ⟨r0, r1, r2, r3, r4⟩ := HX4.out.cells
  have f0 := Vt.box_free HX4.out 0
  have f1 := Vt.box_free HX4.out 1
  have f2 := Vt.box_free HX4.out 2
  have f3 := Vt.box_free HX4.out 3
  have f4 := Vt.box_free HX4.out 4
  have hne1 : ¬ (w.heap.size = b1) := by omega
  have hne2 : ¬ (b1 = w.heap.size) := by omega
  go_wp2_with fail
  refine (rs_ok HR4.out).mono ?_
  rintro e w5 ⟨rfl, rfl⟩
  cases hb4 : s4.2 with
  | true =>
    have HN : pv left s = none := by rw [HP.out, hb4]; rfl
    go_wp2_with fail
    refine bodyPost_ret (v := .tuple #[.agg #[.int .i64 0, .int .i64 0, .float .f64 0, .string ⟨#[]⟩, .slice none 0 0], .bool false]) (by simp [results, Tryz.results79, go_sem, r0, r1, r2, r3, r4]) rfl ?_
    exact vread_no HN (rs_put5 HR4.out (by omega) _ _ _ _ _) (only_put5 HO4.out (Nat.le_refl _) _ _ _ _ _)
  | false =>
    have HY : pv left s = some (s4, .mk 1 vn 0 ⟨#[]⟩ []) := by rw [HP.out, hb4]; rfl
    go_wp2_with fail
    refine bodyPost_ret (v := .tuple #[.agg #[.int .i64 (k : Int), .int .i64 vn, .float .f64 0, .string ⟨#[]⟩, .slice none 0 0], .bool true]) (by simp [results, Tryz.results79, go_sem, r0, r1, r2, r3, r4]) rfl ?_
    exact vread_yes HY (by rw [HK0.out]; exact rep_leaf ⟨by decide, by decide, HZ.out.2.1, HZ.out.2.2, by decide, by decide, by decide⟩) (rs_put5 HR4.out (by omega) _ _ _ _ _) (only_put5 HO4.out (Nat.le_refl _) _ _ _ _ _)

set_option maxRecDepth 100000 in
set_option maxHeartbeats 2000000 in
theorem rw_text (left : Nat) (g : Nat) (s : St) (w : World) (h : RS w g s) (hq : (rUint s).1.2 = false ∧ (rUint s).2 = 3) :
    Calls Tryz.prog 79 #[.pointer (some ⟨g, 0, none⟩), .int .i64 (left : Nat)] w (VRead left s w g) := by
  have HP : Hid (pv left s = if (rBytes (rUint s).1).1.2 = true then none else some ((rBytes (rUint s).1).1, .mk 3 0 0 (strOf (rBytes (rUint s).1).2) [])) := Lib.hid (by rw [pv_eq, if_neg (by rw [hq.1, hq.2]; simp), if_neg (by rw [hq.2]; decide), if_neg (by rw [hq.2]; decide), if_neg (by rw [hq.2]; decide), if_pos hq.2] <;> rfl)
  have hg := h.lt
  obtain ⟨W0, hW0⟩ : ∃ W0, W0 = w.alloc (.cells #[.int .i64 0, .int .i64 0, .float .f64 0, .string ⟨#[]⟩, .slice none 0 0] 30) := ⟨_, rfl⟩
  have hx0 : BoxAt W0 w.heap.size 0 0 0 ⟨#[]⟩ none 0 0 := by rw [hW0]; exact BoxAt.new ..
  have hr0 : RS W0 g s := by rw [hW0]; exact rs_alloc h _
  have ho0 : OnlyAt w W0 g none := by rw [hW0]; exact only_alloc (OnlyAt.of_below (Below.refl _ _)) _
  have HU := Lib.hid (uint_any g s W0 hr0)
  have HX0 := Lib.hid hx0
  have HO0 := Lib.hid ho0
  have HBY := Lib.hid (rUint_byt h.2.1 h.2.2)
  clear h hr0 hx0 ho0
  have HQ := Lib.hid hq
  clear hq
  generalize rUint s = q at *
  obtain ⟨s1, k⟩ := q
  simp only at *
  have k1 : decide ((k : Int) > 4) = false := decide_eq_false (by have := HQ.out.2; omega)
  have k2 : decide ((4 : Int) < (k : Int)) = false := decide_eq_false (by have := HQ.out.2; omega)
  have k3 : decide (4 < k) = false := decide_eq_false (by have := HQ.out.2; omega)
  have hwk : IntKind.i64.wrap (k : Int) = (k : Int) := by have := HQ.out.2; rw [IntKind.wrap_i64]; omega
  have HKV : Hid (kindV (k : Int) = .iface 142 (.agg #[])) := Lib.hid (by rw [HQ.out.2]; exact kv3)
  have hk0 : (k : Int) = 3 := by have := HQ.out.2; omega
  have HK0 := Lib.hid hk0
  clear hk0
  have ta0 := Vt.ta_text_integer
  have ta1 := Vt.ta_text_float
  have ta2 := Vt.ta_text_text
  have ta3 := Vt.ta_text_list
  have HI := Lib.hid fun W (hW : RS W g s1) => text_any g s1 W hW
  have HZ : Hid ((strOf (rBytes s1).2).size ≤ maxLen) := Lib.hid (Nat.le_trans (rText_size HBY.out.1 HBY.out.2) (by decide))
  generalize rBytes s1 = z at *
  obtain ⟨s4, x⟩ := z
  simp only at *
  generalize strOf x = vs at *
  replace hW0 := Lib.hid hW0
  go_enter Tryz.func79, Tryz.ntmps79
  go_upto_region 1 with fail
  rw [← hW0.out]
  go_wp2_with fail
  refine HU.out.mono ?_
  rintro e w1 ⟨rfl, hr1, ho1⟩
  have hx1 := box_only HX0.out ho1 (by omega)
  have hlt1 := hx1.lt
  have HX1 := Lib.hid hx1
  have HR1 := Lib.hid hr1
  have HO1 := Lib.hid (HO0.out.trans ho1)
  clear hx1 hr1 ho1
  go_wp2_with fail
  refine (rs_ok HR1.out).mono ?_
  rintro e w2 ⟨rfl, rfl⟩
  rw [HQ.out.1]
  obtain ⟨W2, hW2⟩ : ∃ W2, W2 = w1.alloc (.cells #[.int .i64 (k : Int), .int .i64 0, .float .f64 0, .string ⟨#[]⟩, .slice none 0 0] 30) := ⟨_, rfl⟩
  have hv2 : BoxAt W2 w1.heap.size k 0 0 ⟨#[]⟩ none 0 0 := by rw [hW2]; exact BoxAt.new ..
  have ho2 : OnlyAt w1 W2 g none := by rw [hW2]; exact only_alloc (OnlyAt.of_below (Below.refl _ _)) _
  have hr2 : RS W2 g s1 := by rw [hW2]; exact rs_alloc HR1.out _
  have hx2 := box_only HX1.out ho2 (by omega)
  have hlt2 := hv2.lt
  obtain ⟨b1, hb1⟩ : ∃ b1, b1 = w1.heap.size := ⟨_, rfl⟩
  rw [← hb1] at hv2 hlt1 hlt2
  have HV2 := Lib.hid hv2
  have HX2 := Lib.hid hx2
  have HR2 := Lib.hid hr2
  have HO2 := Lib.hid (HO1.out.trans ho2)
  clear ho2 hr2 hx2 hv2
  replace hW2 := Lib.hid hW2
  have HB1 := Lib.hid hb1
  clear hb1
  go_upto_region 5 with fail
  rw [← hW2.out, ← HB1.out]
  obtain ⟨d0, d1, d2, d3, d4⟩ := HV2.out.cells
  go_wp2_with fail
  refine (of_any (k : Int) W2).mono ?_
  rintro e w3 ⟨rfl, rfl⟩
  rw [HKV.out]
  clear d0 d1 d2 d3 d4
  go_wp2_with fail
  refine (HI.out _ HR2.out).mono ?_
  rintro e w3 ⟨rfl, hr3, ho3⟩
  have hv3 := box_only HV2.out ho3 (by omega)
  obtain ⟨W4, hW4⟩ : ∃ W4, W4 = w3.setCell ⟨b1, 3, none⟩ (.string vs) := ⟨_, rfl⟩
  have HV4 : Hid (BoxAt W4 b1 k 0 0 vs none 0 0) := Lib.hid (by rw [hW4]; unfold BoxAt at hv3 ⊢; simp [World.setCell, Array.getElem?_modify, hv3])
  have HX4 : Hid (BoxAt W4 w.heap.size 0 0 0 ⟨#[]⟩ none 0 0) := Lib.hid (by rw [hW4]; exact Vt.box_far (box_only HX2.out ho3 (by omega)) (by omega) _)
  have HR4 : Hid (RS W4 g s4) := Lib.hid (by rw [hW4]; exact rs_set hr3 (by omega) _)
  have HO4 : Hid (OnlyAt w W4 g none) := Lib.hid (by rw [hW4]; exact only_set (HO2.out.trans ho3) (by omega) _)
  have hlt3 := hv3.lt
  obtain ⟨d0, d1, d2, d3, d4⟩ := hv3.cells
  have m0 := Vt.box_free hv3 0
  have m1 := Vt.box_free hv3 1
  have m2 := Vt.box_free hv3 2
  have m3 := Vt.box_free hv3 3
  have m4 := Vt.box_free hv3 4
  clear hv3 hr3 ho3
  replace hW4 := Lib.hid hW4
  go_upto_region 27 with fail
  rw [← hW4.out]
  clear d0 d1 d2 d3 d4 m0 m1 m2 m3 m4
  obtain ⟨d0, d1, d2, d3, d4⟩ := HV4.out.cells
  obtain ⟨r0, r1, r2, r3, r4⟩ := HX4.out.cells
  have f0 := Vt.box_free HX4.out 0
  have f1 := Vt.box_free HX4.out 1
  have f2 := Vt.box_free HX4.out 2
  have f3 := Vt.box_free HX4.out 3
  have f4 := Vt.box_free HX4.out 4
  have hne1 : ¬ (w.heap.size = b1) := by omega
  have hne2 : ¬ (b1 = w.heap.size) := by omega
  go_wp2_with fail
  refine (rs_ok HR4.out).mono ?_
  rintro e w5 ⟨rfl, rfl⟩
  cases hb4 : s4.2 with
  | true =>
    have HN : pv left s = none := by rw [HP.out, hb4]; rfl
    go_wp2_with fail
    refine bodyPost_ret (v := .tuple #[.agg #[.int .i64 0, .int .i64 0, .float .f64 0, .string ⟨#[]⟩, .slice none 0 0], .bool false]) (by simp [results, Tryz.results79, go_sem, r0, r1, r2, r3, r4]) rfl ?_
    exact vread_no HN (rs_put5 HR4.out (by omega) _ _ _ _ _) (only_put5 HO4.out (Nat.le_refl _) _ _ _ _ _)
  | false =>
    have HY : pv left s = some (s4, .mk 3 0 0 vs []) := by rw [HP.out, hb4]; rfl
    go_wp2_with fail
    refine bodyPost_ret (v := .tuple #[.agg #[.int .i64 (k : Int), .int .i64 0, .float .f64 0, .string vs, .slice none 0 0], .bool true]) (by simp [results, Tryz.results79, go_sem, r0, r1, r2, r3, r4]) rfl ?_
    exact vread_yes HY (by rw [HK0.out]; exact rep_leaf ⟨by decide, by decide, by decide, by decide, by decide, HZ.out, by decide⟩) (rs_put5 HR4.out (by omega) _ _ _ _ _) (only_put5 HO4.out (Nat.le_refl _) _ _ _ _ _)

set_option maxRecDepth 100000 in
set_option maxHeartbeats 2000000 in
theorem rw_float (left : Nat) (g : Nat) (s : St) (w : World) (h : RS w g s) (hq : (rUint s).1.2 = false ∧ (rUint s).2 = 2) :
    Calls Tryz.prog 79 #[.pointer (some ⟨g, 0, none⟩), .int .i64 (left : Nat)] w (VRead left s w g) := by
  have HP : Hid (pv left s = if (rTake (rUint s).1 8).1.2 = true ∨ okW (beN (rTake (rUint s).1 8).2) = false then none else some ((rTake (rUint s).1 8).1, .mk 2 0 (ofW (beN (rTake (rUint s).1 8).2)) ⟨#[]⟩ [])) := Lib.hid (by rw [pv_eq, if_neg (by rw [hq.1, hq.2]; simp), if_neg (by rw [hq.2]; decide), if_neg (by rw [hq.2]; decide), if_pos hq.2] <;> rfl)
  have hg := h.lt
  obtain ⟨W0, hW0⟩ : ∃ W0, W0 = w.alloc (.cells #[.int .i64 0, .int .i64 0, .float .f64 0, .string ⟨#[]⟩, .slice none 0 0] 30) := ⟨_, rfl⟩
  have hx0 : BoxAt W0 w.heap.size 0 0 0 ⟨#[]⟩ none 0 0 := by rw [hW0]; exact BoxAt.new ..
  have hr0 : RS W0 g s := by rw [hW0]; exact rs_alloc h _
  have ho0 : OnlyAt w W0 g none := by rw [hW0]; exact only_alloc (OnlyAt.of_below (Below.refl _ _)) _
  have HU := Lib.hid (uint_any g s W0 hr0)
  have HX0 := Lib.hid hx0
  have HO0 := Lib.hid ho0
  have HBY := Lib.hid (rUint_byt h.2.1 h.2.2)
  clear h hr0 hx0 ho0
  have HQ := Lib.hid hq
  clear hq
  generalize rUint s = q at *
  obtain ⟨s1, k⟩ := q
  simp only at *
  have k1 : decide ((k : Int) > 4) = false := decide_eq_false (by have := HQ.out.2; omega)
  have k2 : decide ((4 : Int) < (k : Int)) = false := decide_eq_false (by have := HQ.out.2; omega)
  have k3 : decide (4 < k) = false := decide_eq_false (by have := HQ.out.2; omega)
  have hwk : IntKind.i64.wrap (k : Int) = (k : Int) := by have := HQ.out.2; rw [IntKind.wrap_i64]; omega
  have HKV : Hid (kindV (k : Int) = .iface 138 (.agg #[])) := Lib.hid (by rw [HQ.out.2]; exact kv2)
  have hk0 : (k : Int) = 2 := by have := HQ.out.2; omega
  have HK0 := Lib.hid hk0
  clear hk0
  have ta0 := Vt.ta_float_integer
  have ta1 := Vt.ta_float_float
  have ta2 := Vt.ta_float_text
  have ta3 := Vt.ta_float_list
  have HI : Hid (∀ W, RS W g s1 → Calls Tryz.prog 30 #[.pointer (some ⟨g, 0, none⟩), .int .i64 8] W fun r w' => ∃ x, r = .returned x ∧ BRd w' x (rTake s1 8).2 ∧ RS w' g (rTake s1 8).1 ∧ OnlyAt W w' g none) := Lib.hid fun W hW => take_any g s1 8 W hW
  have hl8 := rTake_len s1 8
  have HBL := Lib.hid (rTake_byt2 HBY.out.1 8)
  generalize rTake s1 8 = z at *
  obtain ⟨s4, l⟩ := z
  simp only at *
  replace hW0 := Lib.hid hW0
  go_enter Tryz.func79, Tryz.ntmps79
  go_upto_region 1 with fail
  rw [← hW0.out]
  go_wp2_with fail
  refine HU.out.mono ?_
  rintro e w1 ⟨rfl, hr1, ho1⟩
  have hx1 := box_only HX0.out ho1 (by omega)
  have hlt1 := hx1.lt
  have HX1 := Lib.hid hx1
  have HR1 := Lib.hid hr1
  have HO1 := Lib.hid (HO0.out.trans ho1)
  clear hx1 hr1 ho1
  go_wp2_with fail
  refine (rs_ok HR1.out).mono ?_
  rintro e w2 ⟨rfl, rfl⟩
  rw [HQ.out.1]
  obtain ⟨W2, hW2⟩ : ∃ W2, W2 = w1.alloc (.cells #[.int .i64 (k : Int), .int .i64 0, .float .f64 0, .string ⟨#[]⟩, .slice none 0 0] 30) := ⟨_, rfl⟩
  have hv2 : BoxAt W2 w1.heap.size k 0 0 ⟨#[]⟩ none 0 0 := by rw [hW2]; exact BoxAt.new ..
  have ho2 : OnlyAt w1 W2 g none := by rw [hW2]; exact only_alloc (OnlyAt.of_below (Below.refl _ _)) _
  have hr2 : RS W2 g s1 := by rw [hW2]; exact rs_alloc HR1.out _
  have hx2 := box_only HX1.out ho2 (by omega)
  have hlt2 := hv2.lt
  obtain ⟨b1, hb1⟩ : ∃ b1, b1 = w1.heap.size := ⟨_, rfl⟩
  rw [← hb1] at hv2 hlt1 hlt2
  have HV2 := Lib.hid hv2
  have HX2 := Lib.hid hx2
  have HR2 := Lib.hid hr2
  have HO2 := Lib.hid (HO1.out.trans ho2)
  clear ho2 hr2 hx2 hv2
  replace hW2 := Lib.hid hW2
  have HB1 := Lib.hid hb1
  clear hb1
  go_upto_region 5 with fail
  rw [← hW2.out, ← HB1.out]
  obtain ⟨d0, d1, d2, d3, d4⟩ := HV2.out.cells
  go_wp2_with fail
  refine (of_any (k : Int) W2).mono ?_
  rintro e w3 ⟨rfl, rfl⟩
  rw [HKV.out]
  clear d0 d1 d2 d3 d4
  go_wp2_with fail
  refine (HI.out _ HR2.out).mono ?_
  rintro e w3 ⟨x, rfl, hx, hr3, ho3⟩
  obtain ⟨A, cap, rfl⟩ := hx.form
  have hv3 := box_only HV2.out ho3 (by omega)
  have hx3 := box_only HX2.out ho3 (by omega)
  have hlt3 := hv3.lt
  have HV3 := Lib.hid hv3
  have HX3 := Lib.hid hx3
  have HR3 := Lib.hid hr3
  have HO3 := Lib.hid (HO2.out.trans ho3)
  have HBR := Lib.hid hx
  clear hv3 hx3 hr3 ho3 hx
  go_wp2_with fail
  go_loopw [9, 43] (fun bv iv wr => ∃ (j : Nat), j ≤ l.length ∧ bv = .int .u64 (beN (l.take j) : Nat) ∧ iv = .int .i64 j ∧ wr = w3) (fun _ i _ => l.length - (intOf i).toNat)
  case atStart => exact ⟨0, by omega, by simp [beN], rfl, rfl⟩
  case round =>
    obtain ⟨j, hj, rfl, rfl, rfl⟩ := hrel
    by_cases hlt : j < l.length
    · rcases HBR.out with ⟨h1, h2⟩ | ⟨b, off, cap2, h1, h2, h3, h4, h5⟩
      · rw [h2] at hlt; exact absurd hlt (by simp)
      · injection h1 with h1 _ h1c
        subst h1 h1c
        have c1 := h5 j hlt
        have hB : beN (l.take j) < 72057594037927936 := Nat.lt_of_lt_of_le (beN_lt l HBL.out j hj) (pow256 j (by omega))
        obtain ⟨c, hc⟩ : ∃ c, c = l[j] := ⟨_, rfl⟩
        have hcb : c < 256 := by rw [hc]; exact HBL.out _ (List.getElem_mem _)
        rw [← hc] at c1
        have HST : Hid (beN (l.take (j + 1)) = beN (l.take j) * 256 + c) := Lib.hid (by rw [hc]; exact beN_take l j hlt)
        clear h5 hc
        generalize beN (l.take j) = B at *
        have hor := or_byte B c hB hcb
        go_wp2_with fail
        go_roundw
        case rel => exact ⟨j + 1, by omega, by rw [HST.out, or_byte2 B c hB hcb], by go_num, by simp⟩
        case measure => simp [intOf]; omega
    · have hj2 : j = l.length := by omega
      subst hj2
      rw [List.take_length]
      have hBl : beN l < 18446744073709551616 := by have := beN_lt l HBL.out l.length (Nat.le_refl _); rw [List.take_length] at this; exact Nat.lt_of_lt_of_le this (pow2568 _ hl8)
      have HOFL : Hid (ofW (beN l) < 18446744073709551616) := Lib.hid (by unfold ofW; split <;> omega)
      generalize beN l = B at *
      go_wp2_with fail
      refine (_root_.Go.Proofs.YtcbddebmmaflgaaGreatDoor.Nm.of_any B wr).mono ?_
      rintro e w4 ⟨rfl, rfl⟩
      generalize ofW B = vf at *
      obtain ⟨W4, hW4⟩ : ∃ W4, W4 = wr.setCell ⟨b1, 2, none⟩ (.float .f64 vf) := ⟨_, rfl⟩
      have HV4 : Hid (BoxAt W4 b1 k 0 vf ⟨#[]⟩ none 0 0) := Lib.hid (by rw [hW4]; have hv3 := HV3.out; unfold BoxAt at hv3 ⊢; simp [World.setCell, Array.getElem?_modify, hv3])
      have HX4 : Hid (BoxAt W4 w.heap.size 0 0 0 ⟨#[]⟩ none 0 0) := Lib.hid (by rw [hW4]; exact Vt.box_far HX3.out (by omega) _)
      have HR4 : Hid (RS W4 g s4) := Lib.hid (by rw [hW4]; exact rs_set HR3.out (by omega) _)
      have HO4 : Hid (OnlyAt w W4 g none) := Lib.hid (by rw [hW4]; exact only_set HO3.out (by omega) _)
      obtain ⟨d0, d1, d2, d3, d4⟩ := HV3.out.cells
      have m0 := Vt.box_free HV3.out 0
      have m1 := Vt.box_free HV3.out 1
      have m2 := Vt.box_free HV3.out 2
      have m3 := Vt.box_free HV3.out 3
      have m4 := Vt.box_free HV3.out 4
      replace hW4 := Lib.hid hW4
      go_upto_region 27 with fail
      rw [← hW4.out]
      clear d0 d1 d2 d3 d4 m0 m1 m2 m3 m4
      cases hok : okW B with
      | false =>
        have HN : pv left s = none := by rw [HP.out, if_pos (.inr hok)]
        obtain ⟨r0, r1, r2, r3, r4⟩ := HX4.out.cells
        have f0 := Vt.box_free HX4.out 0
        have f1 := Vt.box_free HX4.out 1
        have f2 := Vt.box_free HX4.out 2
        have f3 := Vt.box_free HX4.out 3
        have f4 := Vt.box_free HX4.out 4
        go_wp2_with fail
        refine bodyPost_ret (v := .tuple #[.agg #[.int .i64 0, .int .i64 0, .float .f64 0, .string ⟨#[]⟩, .slice none 0 0], .bool false]) (by simp [results, Tryz.results79, go_sem, r0, r1, r2, r3, r4]) rfl ?_
        exact vread_no HN (rs_put5 HR4.out (by omega) _ _ _ _ _) (only_put5 HO4.out (Nat.le_refl _) _ _ _ _ _)
      | true =>
        replace HP : Hid (pv left s = if s4.2 = true then none else some (s4, .mk 2 0 vf ⟨#[]⟩ [])) := Lib.hid (by
          rw [HP.out]; cases s4.2 <;> simp [hok])
        obtain ⟨d0, d1, d2, d3, d4⟩ := HV4.out.cells
        obtain ⟨r0, r1, r2, r3, r4⟩ := HX4.out.cells
        have f0 := Vt.box_free HX4.out 0
        have f1 := Vt.box_free HX4.out 1
        have f2 := Vt.box_free HX4.out 2
        have f3 := Vt.box_free HX4.out 3
        have f4 := Vt.box_free HX4.out 4
        have hne1 : ¬ (w.heap.size = b1) := by omega
        have hne2 : ¬ (b1 = w.heap.size) := by omega
        go_wp2_with fail
        refine (rs_ok HR4.out).mono ?_
        rintro e w5 ⟨rfl, rfl⟩
        cases hb4 : s4.2 with
        | true =>
          have HN : pv left s = none := by rw [HP.out, hb4]; rfl
          go_wp2_with fail
          refine bodyPost_ret (v := .tuple #[.agg #[.int .i64 0, .int .i64 0, .float .f64 0, .string ⟨#[]⟩, .slice none 0 0], .bool false]) (by simp [results, Tryz.results79, go_sem, r0, r1, r2, r3, r4]) rfl ?_
          exact vread_no HN (rs_put5 HR4.out (by omega) _ _ _ _ _) (only_put5 HO4.out (Nat.le_refl _) _ _ _ _ _)
        | false =>
          have HY : pv left s = some (s4, .mk 2 0 vf ⟨#[]⟩ []) := by rw [HP.out, hb4]; rfl
          go_wp2_with fail
          refine bodyPost_ret (v := .tuple #[.agg #[.int .i64 (k : Int), .int .i64 0, .float .f64 vf, .string ⟨#[]⟩, .slice none 0 0], .bool true]) (by simp [results, Tryz.results79, go_sem, r0, r1, r2, r3, r4]) rfl ?_
          exact vread_yes HY (by rw [HK0.out]; exact rep_leaf ⟨by decide, by decide, by decide, by decide, HOFL.out, by decide, by decide⟩) (rs_put5 HR4.out (by omega) _ _ _ _ _) (only_put5 HO4.out (Nat.le_refl _) _ _ _ _ _)

end Rd
end Go.Proofs.YtcbddebmmaflgaaGreatDoor
