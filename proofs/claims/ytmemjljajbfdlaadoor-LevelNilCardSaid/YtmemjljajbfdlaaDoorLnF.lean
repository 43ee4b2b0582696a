/- The law LevelNil. -/
import Derived.Test.YtmemjljajbfdlaaDoorLnE
import Derived.Deep.RegionHeld3
import Derived.Deep.RegionWith
import Derived.ChangeMaps5
namespace Go.Proofs.YtmemjljajbfdlaaDoor
open Go.RowKit
set_option linter.unusedVariables false
namespace Ln
open Lv (W64 slotOf slotOf_lt fresh ret_int ret_bool slot_any rslot_any new_any alive_any)
section
variable {P : Program} {ops : Array Oper} {Q : Exit → Act → World → Prop} {md : Region.Mode} {S : World → Prop}
theorem drop_get {i : Nat} {oi : Oper} {rest : List Oper} (hi : ops.toList.drop i = oi :: rest) : ops[i]? = some oi := by
  have h : (ops.toList.drop i)[0]? = some oi := by rw [hi]; rfl
  rw [List.getElem?_drop] at h
  simpa using h
theorem take_drop {i : Nat} {oi : Oper} {rest : List Oper} {v : Value} {fuel : Nat} {listed : Array Bool} {a : Act} {w : World} (hi : ops.toList.drop i = oi :: rest)
    (hs : Region.noSelect ops = true) (hf : Region.free md ops listed i = true) (hr : (Region.ready md ops listed).contains i = true)
    (hQ : ∀ c a w, Q (.panic c) (a.put oi.dst v) w → Q (.panic c) a w) (hy : YieldsIf P ops S oi v a) (hS : S w)
    (h : wpAnyH P md ops Q S fuel (listed.setIfInBounds i true) (a.put oi.dst v) w) : wpAnyH P md ops Q S (fuel + 1) listed a w :=
  wpAnyH_take (drop_get hi) hs hf hr hQ hy hS h
theorem cons_drop {fuel : Nat} {listed : Array Bool} {a : Act} {w : World} {i : Nat} {o : Oper} {rest : List Oper} {rs : List Nat} (ho : ops.toList.drop i = o :: rest)
    (h : ∀ K' : Act → World → Prop, Shut (∀ a w, S w → (S w → wpAnyH P md ops Q S fuel (listed.setIfInBounds i true) a w) → K' a w) → if Region.wanted o (yielded ops a.tmps) = true then Oper.wp P o a w K' Q else K' (a.put o.dst undef) w)
    (hs : AllReadyH P md ops Q S fuel listed a w rs) : AllReadyH P md ops Q S fuel listed a w (i :: rs) := AllReadyH.cons (drop_get ho) h hs
end


theorem take_none {w : World} {b k : Nat} {full : Int} {f : Nat → Value} (s : Int) (h0 : -9223372036854775808 ≤ s) (h1 : s ≤ 9223372036854775807) (hf : ∀ x : Nat, (x : Int) = s → f x = .slice none 0 0) (r : LV w b k f full) :
    Calls Tryd.prog 12 #[.pointer (some ⟨b, 0, none⟩), .int .i64 s] w fun e w' => e = .returned (.slice none 0 0) ∧ w.grownBy w' (some b) := by
  by_cases h : 0 ≤ s ∧ s < 64
  · obtain ⟨x, rfl⟩ : ∃ x : Nat, s = x := ⟨s.toNat, by omega⟩
    exact take_small x (by omega) none 0 0 (by omega) (hf x rfl) r
  · exact (take_out s h0 h1 (by omega) b w).mono fun e w' h => ⟨h.1, by rw [← h.2]; exact only_refl _ _⟩
theorem below_only {w W w' : World} {b : Nat} (h : Below w.heap.size w W) (hg : W.grownBy w' (some b)) (hb : w.heap.size ≤ b) : Below w.heap.size w w' := h.grown hg h.size (fun k hk => by cases hk; exact hb)
theorem only_blk {W w' : World} {b j : Nat} (hg : W.grownBy w' (some b)) (hj : j < W.heap.size) (hne : j ≠ b) : w'.heap[j]? = W.heap[j]? := hg.block j hj (by simpa using hne)
set_option maxRecDepth 100000 in
theorem out_any (n : Int) (h0 : -9223372036854775808 ≤ n) (h1 : n ≤ 9223372036854775807) (hn : n < 0 ∨ 3 < n) (i a : Nat) (slot : Int) (w : World) :
    Calls Tryd.prog 5 #[.int .i64 n, .agg #[.int .u64 i, .int .u64 a], .int .i64 slot] w fun e w' => e = .returned (.bool true) ∧ Below w.heap.size w w' := by
  obtain ⟨V, hV⟩ : ∃ W0, W0 = w.alloc (.cells #[.int .u64 i, .int .u64 a] 28) := ⟨_, rfl⟩
  have HVB : Hid (Below w.heap.size w V) := Lib.hid (by rw [hV]; exact (Below.refl _ _).alloc (Nat.le_refl _) _)
  have hxV : V.heap[w.heap.size]? = some (.cells #[.int .u64 i, .int .u64 a] 28 (0, 0)) := by rw [hV]; exact heap_alloc_new w _
  have hzV : w.heap.size < V.heap.size := by rw [hV]; simp
  have HXV : Hid (∀ W, Below V.heap.size V W → W.cell? ⟨w.heap.size, 0, none⟩ = some (.int .u64 i) ∧ W.cell? ⟨w.heap.size, 1, none⟩ = some (.int .u64 a)) := Lib.hid fun W hW => by
    have h := (hW.block _ hzV).trans hxV
    exact ⟨by simp [World.cell?, h], by simp [World.cell?, h]⟩
  have HV0 : Hid (Below V.heap.size V V) := Lib.hid (Below.refl _ _)
  have HN := Lib.hid (new_out n h0 h1 hn V)
  have HA := Lib.hid alive_any
  replace hV := Lib.hid hV
  clear hxV
  rcases hn with hn | hn
  all_goals
    go_enter Tryd.func5, Tryd.ntmps5
    go_upto_region 1 with fail
    rw [← hV.out]
    go_wp2_with fail
    refine HN.out.mono ?_
    rintro e v ⟨rfl, rfl⟩
    obtain ⟨x0, x1⟩ := HXV.out _ HV0.out
    go_wp2_with fail
    refine (put_nil i a _).mono ?_
    rintro e v1 ⟨rfl, hb⟩
    have HV1 : Hid (Below V.heap.size V v1) := Lib.hid (HV0.out.trans (hb.mono HV0.out.size))
    clear hb x0 x1
    obtain ⟨x0, x1⟩ := HXV.out _ HV1.out
    go_wp2_with fail
    refine (remove_nil i a _).mono ?_
    rintro e v2 ⟨rfl, hb⟩
    have HV2 : Hid (Below V.heap.size V v2) := Lib.hid (HV1.out.trans (hb.mono HV1.out.size))
    clear hb x0 x1
    obtain ⟨x0, x1⟩ := HXV.out _ HV2.out
    go_wp2_with fail
    refine (take_nil slot _).mono ?_
    rintro e v ⟨rfl, rfl⟩
    go_wp2_with fail
    refine (first_nil slot _).mono ?_
    rintro e v ⟨rfl, rfl⟩
    go_wp2_with fail
    refine (count_nil _).mono ?_
    rintro e v ⟨rfl, rfl⟩
    go_wp2_with fail
    refine (slot_nil a _).mono ?_
    rintro e v ⟨rfl, rfl⟩
    go_wp2_with fail
    refine (fits_nil a a _).mono ?_
    rintro e v ⟨rfl, rfl⟩
    go_wp2_with fail
    refine (start_nil a slot _).mono ?_
    rintro e v ⟨rfl, rfl⟩
    go_wp2_with fail
    refine (HA.out _).mono ?_
    rintro e v9 ⟨rfl, hb⟩
    go_wp2_with fail
    go_ret
    exact ⟨rfl, (HVB.out.trans (HV2.out.mono HVB.out.size)).trans (hb.mono (HVB.out.trans (HV2.out.mono HVB.out.size)).size)⟩
set_option maxRecDepth 100000 in
set_option maxHeartbeats 1000000 in
theorem in_none (k : Nat) (hk : k ≤ 3) (i a : Nat) (ha : a < 18446744073709551616) (slot : Int) (hs0 : -9223372036854775808 ≤ slot) (hs1 : slot ≤ 9223372036854775807) (hne : (slotOf k a : Int) ≠ slot) (w : World) :
    Calls Tryd.prog 5 #[.int .i64 k, .agg #[.int .u64 i, .int .u64 a], .int .i64 slot] w fun e w' => e = .returned (.bool true) ∧ Below w.heap.size w w' := by
  have hk0 : (0 : Int) ≤ k := by omega
  have hk1 : (k : Int) ≤ 3 := by omega
  have hsl := slotOf_lt k a
  obtain ⟨W0, hW0⟩ : ∃ W0, W0 = w.alloc (.cells #[.int .u64 i, .int .u64 a] 28) := ⟨_, rfl⟩
  have hb0 : Below w.heap.size w W0 := by rw [hW0]; exact (Below.refl _ _).alloc (Nat.le_refl _) _
  have hx0 : W0.heap[w.heap.size]? = some (.cells #[.int .u64 i, .int .u64 a] 28 (0, 0)) := by rw [hW0]; exact heap_alloc_new w _
  have hzw : w.heap.size < W0.heap.size := by rw [hW0]; simp
  have hcell : Hid (∀ W : World, W.heap[w.heap.size]? = some (.cells #[.int .u64 i, .int .u64 a] 28 (0, 0)) → W.cell? ⟨w.heap.size, 0, none⟩ = some (.int .u64 i) ∧ W.cell? ⟨w.heap.size, 1, none⟩ = some (.int .u64 a)) := Lib.hid fun W h => ⟨by simp [World.cell?, h], by simp [World.cell?, h]⟩
  have HN := Lib.hid (new_any k hk W0)
  have HA := Lib.hid alive_any
  obtain ⟨V, hV⟩ : ∃ V, V = W0.alloc (.cells (fresh k) 52) := ⟨_, rfl⟩
  have hvb : Below W0.heap.size W0 V := by rw [hV]; exact (Below.refl _ _).alloc (Nat.le_refl _) _
  have hLV : LV V W0.heap.size k (fun _ => .slice none 0 0) 0 := by rw [hV]; unfold LV; rw [← fresh_eq]; exact heap_alloc_new W0 _
  have hxV : V.heap[w.heap.size]? = _ := (hvb.block _ hzw).trans hx0
  have hzV : w.heap.size < V.heap.size := Nat.lt_of_lt_of_le hzw hvb.size
  have HXV : Hid (∀ W, Below V.heap.size V W → W.cell? ⟨w.heap.size, 0, none⟩ = some (.int .u64 i) ∧ W.cell? ⟨w.heap.size, 1, none⟩ = some (.int .u64 a)) := Lib.hid fun W hW => hcell.out W ((hW.block _ hzV).trans hxV)
  have HVB : Hid (Below w.heap.size w V) := Lib.hid (hb0.trans (hvb.mono hb0.size))
  have HLV := Lib.hid hLV
  have HxV := Lib.hid hxV
  have HV0 : Hid (Below V.heap.size V V) := Lib.hid (Below.refl _ _)
  rw [← hV] at HN
  replace hW0 := Lib.hid hW0
  replace hV := Lib.hid hV
  clear hb0 hx0 hvb hLV hxV
  go_enter Tryd.func5, Tryd.ntmps5
  go_upto_region 1 with fail
  rw [← hW0.out]
  go_wp2_with fail
  refine HN.out.mono ?_
  rintro e v ⟨rfl, rfl⟩
  obtain ⟨x0, x1⟩ := HXV.out _ HV0.out
  go_wp2_with fail
  refine (put_nil i a _).mono ?_
  rintro e v1 ⟨rfl, hb⟩
  have HV1 : Hid (Below V.heap.size V v1) := Lib.hid (HV0.out.trans (hb.mono HV0.out.size))
  clear hb x0 x1
  obtain ⟨x0, x1⟩ := HXV.out _ HV1.out
  go_wp2_with fail
  refine (remove_nil i a _).mono ?_
  rintro e v2 ⟨rfl, hb⟩
  have HV2 : Hid (Below V.heap.size V v2) := Lib.hid (HV1.out.trans (hb.mono HV1.out.size))
  clear hb x0 x1
  obtain ⟨x0, x1⟩ := HXV.out _ HV2.out
  go_wp2_with fail
  refine (take_nil slot _).mono ?_
  rintro e v ⟨rfl, rfl⟩
  go_wp2_with fail
  refine (first_nil slot _).mono ?_
  rintro e v ⟨rfl, rfl⟩
  go_wp2_with fail
  refine (count_nil _).mono ?_
  rintro e v ⟨rfl, rfl⟩
  go_wp2_with fail
  refine (slot_nil a _).mono ?_
  rintro e v ⟨rfl, rfl⟩
  go_wp2_with fail
  refine (fits_nil a a _).mono ?_
  rintro e v ⟨rfl, rfl⟩
  go_wp2_with fail
  refine (start_nil a slot _).mono ?_
  rintro e v ⟨rfl, rfl⟩
  go_wp2_with fail
  have hL2 : LV v2 W0.heap.size k (fun _ => .slice none 0 0) 0 := HLV.out.later HV2.out HLV.out.lt
  have hx2 := (HV2.out.block _ hzV).trans HxV.out
  have hz2 : w.heap.size < v2.heap.size := Nat.lt_of_lt_of_le hzV HV2.out.size
  have HW2 : Hid (Below w.heap.size w v2) := Lib.hid (HVB.out.trans (HV2.out.mono HVB.out.size))
  refine (put_new i a hk ha rfl hL2).mono ?_
  rintro e v3 ⟨rfl, g, cap, hg0, hcap, hcap2, hg1, hi3, ha3, ⟨x3, hL3⟩, hgr3⟩
  have hbz : W0.heap.size < v2.heap.size := hL2.lt
  have hx3 := (only_blk hgr3 hz2 (Nat.ne_of_lt hzw)).trans hx2
  have hz3 : w.heap.size < v3.heap.size := Nat.lt_of_lt_of_le hz2 hgr3.size
  have HW3 : Hid (Below w.heap.size w v3) := Lib.hid (below_only HW2.out hgr3 (Nat.le_of_lt hzw))
  have hgb : g ≠ W0.heap.size := by omega
  clear x0 x1
  obtain ⟨x0, x1⟩ := hcell.out _ hx3
  go_wp2_with fail
  have hupd : ∀ x : Nat, (x : Int) = slot → upd (fun _ => Value.slice none 0 0) (slotOf k a) (.slice (some ⟨g, 0, none⟩) 1 cap) x = .slice none 0 0 := by
    intro x hx
    have hxne : x ≠ slotOf k a := by intro e; rw [e] at hx; exact hne hx
    unfold upd
    rw [if_neg hxne]
  refine (take_none slot hs0 hs1 hupd hL3).mono ?_
  rintro e w9 ⟨rfl, hgr9⟩
  have hx9 := (only_blk hgr9 hz3 (Nat.ne_of_lt hzw)).trans hx3
  have hz9 : w.heap.size < w9.heap.size := Nat.lt_of_lt_of_le hz3 hgr9.size
  have HB9 : Hid (Below w.heap.size w w9) := Lib.hid (below_only HW3.out hgr9 (Nat.le_of_lt hzw))
  have HX : Hid (∀ W, Below w9.heap.size w9 W → W.cell? ⟨w.heap.size, 0, none⟩ = some (.int .u64 i) ∧ W.cell? ⟨w.heap.size, 1, none⟩ = some (.int .u64 a)) := Lib.hid fun W hW => hcell.out W ((hW.block _ hz9).trans hx9)
  clear x0 x1 hi3 ha3 hx3 hx2 hx9 hL3 hL2 hgr3 hgr9 HXV HxV HLV HV0 HV1 HV2 HVB HN hcell HW2 HW3
  go_upto_region 9 with fail
  have HB0 : Hid (Below w9.heap.size w9 w9.drew) := Lib.hid (Below.refl _ _).drew
  refine wp_region_noPanic ?_
  refine wp_region_held_drew (S := (fun w' : World => w'.cell? ⟨w.heap.size, 0, none⟩ = some (.int .u64 i) ∧ w'.cell? ⟨w.heap.size, 1, none⟩ = some (.int .u64 a))) (by kernel_rfl) ?_ (fun hH0 => ?_)
  · exact HX.out _ HB0.out
  refine wpAnyH_ready (rs := [0]) (by kernel_rfl) (by simp) ?_
  refine cons_drop rfl (fun K hK => ?_) AllReadyH.nil
  go_simp
  refine (HA.out _).mono ?_
  rintro e u1 ⟨rfl, hb⟩
  have HB1 : Hid (Below w9.heap.size w9 u1) := Lib.hid (HB0.out.trans hb)
  clear hb
  go_wp2_with fail
  refine hK.out _ _ (HX.out _ HB1.out) (fun hH1 => ?_)
  clear hK K hH0
  try simp only [Act.put, List.setIfInBounds_toArray, List.set_cons_zero, List.set_cons_succ]
  first
    | (refine take_drop (i := 1) (v := ?_) rfl (by kernel_rfl) (by kernel_rfl) (by kernel_rfl) (fun _ _ _ h => h) (Or.inl ⟨by rfl, ?_⟩) (by assumption) ?_; rotate_left 1; (focus (intro w hSw; (try dsimp only at hSw); go_simp; try with_reducible rfl)); try simp only [Act.put, List.setIfInBounds_toArray, List.set_cons_zero, List.set_cons_succ])
    | (refine take_drop (i := 1) (v := undef) rfl (by kernel_rfl) (by kernel_rfl) (by kernel_rfl) (fun _ _ _ h => h) (Or.inr ⟨by rfl, rfl⟩) (by assumption) ?_; try simp only [Act.put, List.setIfInBounds_toArray, List.set_cons_zero, List.set_cons_succ])
  first
    | (refine take_drop (i := 2) (v := ?_) rfl (by kernel_rfl) (by kernel_rfl) (by kernel_rfl) (fun _ _ _ h => h) (Or.inl ⟨by rfl, ?_⟩) (by assumption) ?_; rotate_left 1; (focus (intro w hSw; (try dsimp only at hSw); go_simp; try with_reducible rfl)); try simp only [Act.put, List.setIfInBounds_toArray, List.set_cons_zero, List.set_cons_succ])
    | (refine take_drop (i := 2) (v := undef) rfl (by kernel_rfl) (by kernel_rfl) (by kernel_rfl) (fun _ _ _ h => h) (Or.inr ⟨by rfl, rfl⟩) (by assumption) ?_; try simp only [Act.put, List.setIfInBounds_toArray, List.set_cons_zero, List.set_cons_succ])
  first
    | (refine take_drop (i := 4) (v := ?_) rfl (by kernel_rfl) (by kernel_rfl) (by kernel_rfl) (fun _ _ _ h => h) (Or.inl ⟨by rfl, ?_⟩) (by assumption) ?_; rotate_left 1; (focus (intro w hSw; (try dsimp only at hSw); go_simp; try with_reducible rfl)); try simp only [Act.put, List.setIfInBounds_toArray, List.set_cons_zero, List.set_cons_succ])
    | (refine take_drop (i := 4) (v := undef) rfl (by kernel_rfl) (by kernel_rfl) (by kernel_rfl) (fun _ _ _ h => h) (Or.inr ⟨by rfl, rfl⟩) (by assumption) ?_; try simp only [Act.put, List.setIfInBounds_toArray, List.set_cons_zero, List.set_cons_succ])
  first
    | (refine take_drop (i := 5) (v := ?_) rfl (by kernel_rfl) (by kernel_rfl) (by kernel_rfl) (fun _ _ _ h => h) (Or.inl ⟨by rfl, ?_⟩) (by assumption) ?_; rotate_left 1; (focus (intro w hSw; (try dsimp only at hSw); go_simp; try with_reducible rfl)); try simp only [Act.put, List.setIfInBounds_toArray, List.set_cons_zero, List.set_cons_succ])
    | (refine take_drop (i := 5) (v := undef) rfl (by kernel_rfl) (by kernel_rfl) (by kernel_rfl) (fun _ _ _ h => h) (Or.inr ⟨by rfl, rfl⟩) (by assumption) ?_; try simp only [Act.put, List.setIfInBounds_toArray, List.set_cons_zero, List.set_cons_succ])
  first
    | (refine take_drop (i := 7) (v := ?_) rfl (by kernel_rfl) (by kernel_rfl) (by kernel_rfl) (fun _ _ _ h => h) (Or.inl ⟨by rfl, ?_⟩) (by assumption) ?_; rotate_left 1; (focus (intro w hSw; (try dsimp only at hSw); go_simp; try with_reducible rfl)); try simp only [Act.put, List.setIfInBounds_toArray, List.set_cons_zero, List.set_cons_succ])
    | (refine take_drop (i := 7) (v := undef) rfl (by kernel_rfl) (by kernel_rfl) (by kernel_rfl) (fun _ _ _ h => h) (Or.inr ⟨by rfl, rfl⟩) (by assumption) ?_; try simp only [Act.put, List.setIfInBounds_toArray, List.set_cons_zero, List.set_cons_succ])
  refine wpAnyH_ready (rs := [3, 6]) (by kernel_rfl) (by simp) ?_
  refine cons_drop rfl (fun K hK => ?_) (cons_drop rfl (fun K hK => ?_) AllReadyH.nil)
  · go_simp
    refine (back_nil 0 _).mono ?_
    rintro e u2 ⟨rfl, rfl⟩
    have HB2 := HB1
    go_wp2_with fail
    refine hK.out _ _ (HX.out _ HB2.out) (fun hH2 => ?_)
    clear hK K hH1
    try simp only [Act.put, List.setIfInBounds_toArray, List.set_cons_zero, List.set_cons_succ]
    refine wpAnyH_ready (rs := [6]) (by kernel_rfl) (by simp) ?_
    refine cons_drop rfl (fun K hK => ?_) AllReadyH.nil
    go_simp
    obtain ⟨u3, hu⟩ : ∃ u, u = u2.alloc (.cells #[.int .u64 i, .int .u64 a] 28) := ⟨_, rfl⟩
    rw [← hu]
    have hb : Below u2.heap.size u2 u3 := by rw [hu]; exact (Below.refl _ _).alloc (Nat.le_refl _) _
    have HB3 : Hid (Below w9.heap.size w9 u3) := Lib.hid (HB2.out.trans (hb.mono HB2.out.size))
    have X3 : Hid (One u3 u2.heap.size i a) := Lib.hid (by rw [hu]; exact one_new _ _ _ _)
    clear hu hb
    refine hK.out _ _ (HX.out _ HB3.out) (fun hH3 => ?_)
    clear hK K hH2
    try simp only [Act.put, List.setIfInBounds_toArray, List.set_cons_zero, List.set_cons_succ]
    refine wpAnyH_ready (rs := [8]) (by kernel_rfl) (by simp) ?_
    refine cons_drop rfl (fun K hK => ?_) AllReadyH.nil
    go_simp
    refine (of_no k hk slot _ 1 i a ha (Nat.le_refl _) hne _ X3.out).mono ?_
    rintro e u4 ⟨rfl, rfl⟩
    have HB4 := HB3
    go_wp2_with fail
    refine hK.out _ _ (HX.out _ HB4.out) (fun hH4 => ?_)
    clear hK K hH3
    try simp only [Act.put, List.setIfInBounds_toArray, List.set_cons_zero, List.set_cons_succ]
    refine wpAnyH_ready (rs := [9]) (by kernel_rfl) (by simp) ?_
    refine cons_drop rfl (fun K hK => ?_) AllReadyH.nil
    go_simp
    refine (eq_nil _).mono ?_
    rintro e u5 ⟨rfl, rfl⟩
    have HB5 := HB4
    go_wp2_with fail
    refine hK.out _ _ (HX.out _ HB5.out) (fun hH5 => ?_)
    clear hK K hH4
    try simp only [Act.put, List.setIfInBounds_toArray, List.set_cons_zero, List.set_cons_succ]
    first
      | (refine take_drop (i := 10) (v := ?_) rfl (by kernel_rfl) (by kernel_rfl) (by kernel_rfl) (fun _ _ _ h => h) (Or.inl ⟨by rfl, ?_⟩) (by assumption) ?_; rotate_left 1; (focus (intro w hSw; (try dsimp only at hSw); go_simp; try with_reducible rfl)); try simp only [Act.put, List.setIfInBounds_toArray, List.set_cons_zero, List.set_cons_succ])
      | (refine take_drop (i := 10) (v := undef) rfl (by kernel_rfl) (by kernel_rfl) (by kernel_rfl) (fun _ _ _ h => h) (Or.inr ⟨by rfl, rfl⟩) (by assumption) ?_; try simp only [Act.put, List.setIfInBounds_toArray, List.set_cons_zero, List.set_cons_succ])
    first
      | (refine take_drop (i := 11) (v := ?_) rfl (by kernel_rfl) (by kernel_rfl) (by kernel_rfl) (fun _ _ _ h => h) (Or.inl ⟨by rfl, ?_⟩) (by assumption) ?_; rotate_left 1; (focus (intro w hSw; (try dsimp only at hSw); go_simp; try with_reducible rfl)); try simp only [Act.put, List.setIfInBounds_toArray, List.set_cons_zero, List.set_cons_succ])
      | (refine take_drop (i := 11) (v := undef) rfl (by kernel_rfl) (by kernel_rfl) (by kernel_rfl) (fun _ _ _ h => h) (Or.inr ⟨by rfl, rfl⟩) (by assumption) ?_; try simp only [Act.put, List.setIfInBounds_toArray, List.set_cons_zero, List.set_cons_succ])
    refine wpAnyH_done (by kernel_rfl) ?_ _
    refine NoPanic.normal ?_
    go_wp2_with fail
    go_ret
    exact ⟨rfl, HB9.out.trans (HB5.out.mono HB9.out.size)⟩
  · go_simp
    obtain ⟨u2, hu⟩ : ∃ u, u = u1.alloc (.cells #[.int .u64 i, .int .u64 a] 28) := ⟨_, rfl⟩
    rw [← hu]
    have hb : Below u1.heap.size u1 u2 := by rw [hu]; exact (Below.refl _ _).alloc (Nat.le_refl _) _
    have HB2 : Hid (Below w9.heap.size w9 u2) := Lib.hid (HB1.out.trans (hb.mono HB1.out.size))
    have X2 : Hid (One u2 u1.heap.size i a) := Lib.hid (by rw [hu]; exact one_new _ _ _ _)
    clear hu hb
    refine hK.out _ _ (HX.out _ HB2.out) (fun hH2 => ?_)
    clear hK K hH1
    try simp only [Act.put, List.setIfInBounds_toArray, List.set_cons_zero, List.set_cons_succ]
    refine wpAnyH_ready (rs := [3]) (by kernel_rfl) (by simp) ?_
    refine cons_drop rfl (fun K hK => ?_) AllReadyH.nil
    go_simp
    refine (back_nil 0 _).mono ?_
    rintro e u3 ⟨rfl, rfl⟩
    have HB3 := HB2
    have X3 := X2
    go_wp2_with fail
    refine hK.out _ _ (HX.out _ HB3.out) (fun hH3 => ?_)
    clear hK K hH2
    try simp only [Act.put, List.setIfInBounds_toArray, List.set_cons_zero, List.set_cons_succ]
    refine wpAnyH_ready (rs := [8]) (by kernel_rfl) (by simp) ?_
    refine cons_drop rfl (fun K hK => ?_) AllReadyH.nil
    go_simp
    refine (of_no k hk slot _ 1 i a ha (Nat.le_refl _) hne _ X3.out).mono ?_
    rintro e u4 ⟨rfl, rfl⟩
    have HB4 := HB3
    go_wp2_with fail
    refine hK.out _ _ (HX.out _ HB4.out) (fun hH4 => ?_)
    clear hK K hH3
    try simp only [Act.put, List.setIfInBounds_toArray, List.set_cons_zero, List.set_cons_succ]
    refine wpAnyH_ready (rs := [9]) (by kernel_rfl) (by simp) ?_
    refine cons_drop rfl (fun K hK => ?_) AllReadyH.nil
    go_simp
    refine (eq_nil _).mono ?_
    rintro e u5 ⟨rfl, rfl⟩
    have HB5 := HB4
    go_wp2_with fail
    refine hK.out _ _ (HX.out _ HB5.out) (fun hH5 => ?_)
    clear hK K hH4
    try simp only [Act.put, List.setIfInBounds_toArray, List.set_cons_zero, List.set_cons_succ]
    first
      | (refine take_drop (i := 10) (v := ?_) rfl (by kernel_rfl) (by kernel_rfl) (by kernel_rfl) (fun _ _ _ h => h) (Or.inl ⟨by rfl, ?_⟩) (by assumption) ?_; rotate_left 1; (focus (intro w hSw; (try dsimp only at hSw); go_simp; try with_reducible rfl)); try simp only [Act.put, List.setIfInBounds_toArray, List.set_cons_zero, List.set_cons_succ])
      | (refine take_drop (i := 10) (v := undef) rfl (by kernel_rfl) (by kernel_rfl) (by kernel_rfl) (fun _ _ _ h => h) (Or.inr ⟨by rfl, rfl⟩) (by assumption) ?_; try simp only [Act.put, List.setIfInBounds_toArray, List.set_cons_zero, List.set_cons_succ])
    first
      | (refine take_drop (i := 11) (v := ?_) rfl (by kernel_rfl) (by kernel_rfl) (by kernel_rfl) (fun _ _ _ h => h) (Or.inl ⟨by rfl, ?_⟩) (by assumption) ?_; rotate_left 1; (focus (intro w hSw; (try dsimp only at hSw); go_simp; try with_reducible rfl)); try simp only [Act.put, List.setIfInBounds_toArray, List.set_cons_zero, List.set_cons_succ])
      | (refine take_drop (i := 11) (v := undef) rfl (by kernel_rfl) (by kernel_rfl) (by kernel_rfl) (fun _ _ _ h => h) (Or.inr ⟨by rfl, rfl⟩) (by assumption) ?_; try simp only [Act.put, List.setIfInBounds_toArray, List.set_cons_zero, List.set_cons_succ])
    refine wpAnyH_done (by kernel_rfl) ?_ _
    refine NoPanic.normal ?_
    go_wp2_with fail
    go_ret
    exact ⟨rfl, HB9.out.trans (HB5.out.mono HB9.out.size)⟩
set_option maxRecDepth 100000 in
set_option maxHeartbeats 1000000 in
theorem in_one (k : Nat) (hk : k ≤ 3) (i a : Nat) (ha : a < 18446744073709551616) (w : World) :
    Calls Tryd.prog 5 #[.int .i64 k, .agg #[.int .u64 i, .int .u64 a], .int .i64 (slotOf k a : Nat)] w fun e w' => e = .returned (.bool true) ∧ Below w.heap.size w w' := by
  have hk0 : (0 : Int) ≤ k := by omega
  have hk1 : (k : Int) ≤ 3 := by omega
  have hsl := slotOf_lt k a
  obtain ⟨W0, hW0⟩ : ∃ W0, W0 = w.alloc (.cells #[.int .u64 i, .int .u64 a] 28) := ⟨_, rfl⟩
  have hb0 : Below w.heap.size w W0 := by rw [hW0]; exact (Below.refl _ _).alloc (Nat.le_refl _) _
  have hx0 : W0.heap[w.heap.size]? = some (.cells #[.int .u64 i, .int .u64 a] 28 (0, 0)) := by rw [hW0]; exact heap_alloc_new w _
  have hzw : w.heap.size < W0.heap.size := by rw [hW0]; simp
  have hcell : Hid (∀ W : World, W.heap[w.heap.size]? = some (.cells #[.int .u64 i, .int .u64 a] 28 (0, 0)) → W.cell? ⟨w.heap.size, 0, none⟩ = some (.int .u64 i) ∧ W.cell? ⟨w.heap.size, 1, none⟩ = some (.int .u64 a)) := Lib.hid fun W h => ⟨by simp [World.cell?, h], by simp [World.cell?, h]⟩
  have HN := Lib.hid (new_any k hk W0)
  have HA := Lib.hid alive_any
  obtain ⟨V, hV⟩ : ∃ V, V = W0.alloc (.cells (fresh k) 52) := ⟨_, rfl⟩
  have hvb : Below W0.heap.size W0 V := by rw [hV]; exact (Below.refl _ _).alloc (Nat.le_refl _) _
  have hLV : LV V W0.heap.size k (fun _ => .slice none 0 0) 0 := by rw [hV]; unfold LV; rw [← fresh_eq]; exact heap_alloc_new W0 _
  have hxV : V.heap[w.heap.size]? = _ := (hvb.block _ hzw).trans hx0
  have hzV : w.heap.size < V.heap.size := Nat.lt_of_lt_of_le hzw hvb.size
  have HXV : Hid (∀ W, Below V.heap.size V W → W.cell? ⟨w.heap.size, 0, none⟩ = some (.int .u64 i) ∧ W.cell? ⟨w.heap.size, 1, none⟩ = some (.int .u64 a)) := Lib.hid fun W hW => hcell.out W ((hW.block _ hzV).trans hxV)
  have HVB : Hid (Below w.heap.size w V) := Lib.hid (hb0.trans (hvb.mono hb0.size))
  have HLV := Lib.hid hLV
  have HxV := Lib.hid hxV
  have HV0 : Hid (Below V.heap.size V V) := Lib.hid (Below.refl _ _)
  rw [← hV] at HN
  replace hW0 := Lib.hid hW0
  replace hV := Lib.hid hV
  clear hb0 hx0 hvb hLV hxV
  go_enter Tryd.func5, Tryd.ntmps5
  go_upto_region 1 with fail
  rw [← hW0.out]
  go_wp2_with fail
  refine HN.out.mono ?_
  rintro e v ⟨rfl, rfl⟩
  obtain ⟨x0, x1⟩ := HXV.out _ HV0.out
  go_wp2_with fail
  refine (put_nil i a _).mono ?_
  rintro e v1 ⟨rfl, hb⟩
  have HV1 : Hid (Below V.heap.size V v1) := Lib.hid (HV0.out.trans (hb.mono HV0.out.size))
  clear hb x0 x1
  obtain ⟨x0, x1⟩ := HXV.out _ HV1.out
  go_wp2_with fail
  refine (remove_nil i a _).mono ?_
  rintro e v2 ⟨rfl, hb⟩
  have HV2 : Hid (Below V.heap.size V v2) := Lib.hid (HV1.out.trans (hb.mono HV1.out.size))
  clear hb x0 x1
  obtain ⟨x0, x1⟩ := HXV.out _ HV2.out
  go_wp2_with fail
  refine (take_nil (slotOf k a : Nat) _).mono ?_
  rintro e v ⟨rfl, rfl⟩
  go_wp2_with fail
  refine (first_nil (slotOf k a : Nat) _).mono ?_
  rintro e v ⟨rfl, rfl⟩
  go_wp2_with fail
  refine (count_nil _).mono ?_
  rintro e v ⟨rfl, rfl⟩
  go_wp2_with fail
  refine (slot_nil a _).mono ?_
  rintro e v ⟨rfl, rfl⟩
  go_wp2_with fail
  refine (fits_nil a a _).mono ?_
  rintro e v ⟨rfl, rfl⟩
  go_wp2_with fail
  refine (start_nil a (slotOf k a : Nat) _).mono ?_
  rintro e v ⟨rfl, rfl⟩
  go_wp2_with fail
  have hL2 : LV v2 W0.heap.size k (fun _ => .slice none 0 0) 0 := HLV.out.later HV2.out HLV.out.lt
  have hx2 := (HV2.out.block _ hzV).trans HxV.out
  have hz2 : w.heap.size < v2.heap.size := Nat.lt_of_lt_of_le hzV HV2.out.size
  have HW2 : Hid (Below w.heap.size w v2) := Lib.hid (HVB.out.trans (HV2.out.mono HVB.out.size))
  refine (put_new i a hk ha rfl hL2).mono ?_
  rintro e v3 ⟨rfl, g, cap, hg0, hcap, hcap2, hg1, hi3, ha3, ⟨x3, hL3⟩, hgr3⟩
  have hbz : W0.heap.size < v2.heap.size := hL2.lt
  have hx3 := (only_blk hgr3 hz2 (Nat.ne_of_lt hzw)).trans hx2
  have hz3 : w.heap.size < v3.heap.size := Nat.lt_of_lt_of_le hz2 hgr3.size
  have HW3 : Hid (Below w.heap.size w v3) := Lib.hid (below_only HW2.out hgr3 (Nat.le_of_lt hzw))
  have hgb : g ≠ W0.heap.size := by omega
  clear x0 x1
  obtain ⟨x0, x1⟩ := hcell.out _ hx3
  go_wp2_with fail
  refine (take_small (slotOf k a) hsl (some ⟨g, 0, none⟩) 1 cap (by omega) (by simp [upd]) hL3).mono ?_
  rintro e w9 ⟨rfl, hgr9⟩
  have hx9 := (only_blk hgr9 hz3 (Nat.ne_of_lt hzw)).trans hx3
  have hz9 : w.heap.size < w9.heap.size := Nat.lt_of_lt_of_le hz3 hgr9.size
  have HB9 : Hid (Below w.heap.size w w9) := Lib.hid (below_only HW3.out hgr9 (Nat.le_of_lt hzw))
  have HX : Hid (∀ W, Below w9.heap.size w9 W → W.cell? ⟨w.heap.size, 0, none⟩ = some (.int .u64 i) ∧ W.cell? ⟨w.heap.size, 1, none⟩ = some (.int .u64 a)) := Lib.hid fun W hW => hcell.out W ((hW.block _ hz9).trans hx9)
  have ONE : Hid (One w9 g i a) := Lib.hid ⟨Nat.lt_of_lt_of_le hg1 hgr9.size, (World.cell?_of_block (only_blk hgr9 hg1 hgb)).trans hi3, (World.cell?_of_block (only_blk hgr9 hg1 hgb)).trans ha3⟩
  clear x0 x1 hi3 ha3 hx3 hx2 hx9 hL3 hL2 hgr3 hgr9 HXV HxV HLV HV0 HV1 HV2 HVB HN hcell HW2 HW3
  go_upto_region 9 with fail
  have HB0 : Hid (Below w9.heap.size w9 w9.drew) := Lib.hid (Below.refl _ _).drew
  refine wp_region_noPanic ?_
  refine wp_region_held_drew (S := (fun w' : World => w'.cell? ⟨w.heap.size, 0, none⟩ = some (.int .u64 i) ∧ w'.cell? ⟨w.heap.size, 1, none⟩ = some (.int .u64 a))) (by kernel_rfl) ?_ (fun hH0 => ?_)
  · exact HX.out _ HB0.out
  refine wpAnyH_ready (rs := [0]) (by kernel_rfl) (by simp) ?_
  refine cons_drop rfl (fun K hK => ?_) AllReadyH.nil
  go_simp
  refine (HA.out _).mono ?_
  rintro e u1 ⟨rfl, hb⟩
  have HB1 : Hid (Below w9.heap.size w9 u1) := Lib.hid (HB0.out.trans hb)
  have O1 := Lib.hid (ONE.out.later HB1.out)
  clear hb
  go_wp2_with fail
  refine hK.out _ _ (HX.out _ HB1.out) (fun hH1 => ?_)
  clear hK K hH0
  try simp only [Act.put, List.setIfInBounds_toArray, List.set_cons_zero, List.set_cons_succ]
  first
    | (refine take_drop (i := 1) (v := ?_) rfl (by kernel_rfl) (by kernel_rfl) (by kernel_rfl) (fun _ _ _ h => h) (Or.inl ⟨by rfl, ?_⟩) (by assumption) ?_; rotate_left 1; (focus (intro w hSw; (try dsimp only at hSw); go_simp; try with_reducible rfl)); try simp only [Act.put, List.setIfInBounds_toArray, List.set_cons_zero, List.set_cons_succ])
    | (refine take_drop (i := 1) (v := undef) rfl (by kernel_rfl) (by kernel_rfl) (by kernel_rfl) (fun _ _ _ h => h) (Or.inr ⟨by rfl, rfl⟩) (by assumption) ?_; try simp only [Act.put, List.setIfInBounds_toArray, List.set_cons_zero, List.set_cons_succ])
  first
    | (refine take_drop (i := 2) (v := ?_) rfl (by kernel_rfl) (by kernel_rfl) (by kernel_rfl) (fun _ _ _ h => h) (Or.inl ⟨by rfl, ?_⟩) (by assumption) ?_; rotate_left 1; (focus (intro w hSw; (try dsimp only at hSw); go_simp; try with_reducible rfl)); try simp only [Act.put, List.setIfInBounds_toArray, List.set_cons_zero, List.set_cons_succ])
    | (refine take_drop (i := 2) (v := undef) rfl (by kernel_rfl) (by kernel_rfl) (by kernel_rfl) (fun _ _ _ h => h) (Or.inr ⟨by rfl, rfl⟩) (by assumption) ?_; try simp only [Act.put, List.setIfInBounds_toArray, List.set_cons_zero, List.set_cons_succ])
  first
    | (refine take_drop (i := 4) (v := ?_) rfl (by kernel_rfl) (by kernel_rfl) (by kernel_rfl) (fun _ _ _ h => h) (Or.inl ⟨by rfl, ?_⟩) (by assumption) ?_; rotate_left 1; (focus (intro w hSw; (try dsimp only at hSw); go_simp; try with_reducible rfl)); try simp only [Act.put, List.setIfInBounds_toArray, List.set_cons_zero, List.set_cons_succ])
    | (refine take_drop (i := 4) (v := undef) rfl (by kernel_rfl) (by kernel_rfl) (by kernel_rfl) (fun _ _ _ h => h) (Or.inr ⟨by rfl, rfl⟩) (by assumption) ?_; try simp only [Act.put, List.setIfInBounds_toArray, List.set_cons_zero, List.set_cons_succ])
  first
    | (refine take_drop (i := 5) (v := ?_) rfl (by kernel_rfl) (by kernel_rfl) (by kernel_rfl) (fun _ _ _ h => h) (Or.inl ⟨by rfl, ?_⟩) (by assumption) ?_; rotate_left 1; (focus (intro w hSw; (try dsimp only at hSw); go_simp; try with_reducible rfl)); try simp only [Act.put, List.setIfInBounds_toArray, List.set_cons_zero, List.set_cons_succ])
    | (refine take_drop (i := 5) (v := undef) rfl (by kernel_rfl) (by kernel_rfl) (by kernel_rfl) (fun _ _ _ h => h) (Or.inr ⟨by rfl, rfl⟩) (by assumption) ?_; try simp only [Act.put, List.setIfInBounds_toArray, List.set_cons_zero, List.set_cons_succ])
  first
    | (refine take_drop (i := 7) (v := ?_) rfl (by kernel_rfl) (by kernel_rfl) (by kernel_rfl) (fun _ _ _ h => h) (Or.inl ⟨by rfl, ?_⟩) (by assumption) ?_; rotate_left 1; (focus (intro w hSw; (try dsimp only at hSw); go_simp; try with_reducible rfl)); try simp only [Act.put, List.setIfInBounds_toArray, List.set_cons_zero, List.set_cons_succ])
    | (refine take_drop (i := 7) (v := undef) rfl (by kernel_rfl) (by kernel_rfl) (by kernel_rfl) (fun _ _ _ h => h) (Or.inr ⟨by rfl, rfl⟩) (by assumption) ?_; try simp only [Act.put, List.setIfInBounds_toArray, List.set_cons_zero, List.set_cons_succ])
  refine wpAnyH_ready (rs := [3, 6]) (by kernel_rfl) (by simp) ?_
  refine cons_drop rfl (fun K hK => ?_) (cons_drop rfl (fun K hK => ?_) AllReadyH.nil)
  · go_simp
    refine (back_one g cap i a hcap _ O1.out).mono ?_
    rintro e u2 ⟨g2, c2, rfl, hc2, hone, hb⟩
    have HB2 : Hid (Below w9.heap.size w9 u2) := Lib.hid (HB1.out.trans (hb.mono HB1.out.size))
    have O2 := Lib.hid hone
    clear hb hone
    go_wp2_with fail
    refine hK.out _ _ (HX.out _ HB2.out) (fun hH2 => ?_)
    clear hK K hH1
    try simp only [Act.put, List.setIfInBounds_toArray, List.set_cons_zero, List.set_cons_succ]
    refine wpAnyH_ready (rs := [6]) (by kernel_rfl) (by simp) ?_
    refine cons_drop rfl (fun K hK => ?_) AllReadyH.nil
    go_simp
    obtain ⟨u3, hu⟩ : ∃ u, u = u2.alloc (.cells #[.int .u64 i, .int .u64 a] 28) := ⟨_, rfl⟩
    rw [← hu]
    have hb : Below u2.heap.size u2 u3 := by rw [hu]; exact (Below.refl _ _).alloc (Nat.le_refl _) _
    have HB3 : Hid (Below w9.heap.size w9 u3) := Lib.hid (HB2.out.trans (hb.mono HB2.out.size))
    have X3 : Hid (One u3 u2.heap.size i a) := Lib.hid (by rw [hu]; exact one_new _ _ _ _)
    have O3 := Lib.hid (O2.out.later hb)
    clear hu hb
    refine hK.out _ _ (HX.out _ HB3.out) (fun hH3 => ?_)
    clear hK K hH2
    try simp only [Act.put, List.setIfInBounds_toArray, List.set_cons_zero, List.set_cons_succ]
    refine wpAnyH_ready (rs := [8]) (by kernel_rfl) (by simp) ?_
    refine cons_drop rfl (fun K hK => ?_) AllReadyH.nil
    go_simp
    refine (of_one k hk _ 1 i a ha (Nat.le_refl _) _ X3.out).mono ?_
    rintro e u4 ⟨g4, c4, rfl, hc4, hone, hb⟩
    have HB4 : Hid (Below w9.heap.size w9 u4) := Lib.hid (HB3.out.trans (hb.mono HB3.out.size))
    have X4 := Lib.hid hone
    have O4 := Lib.hid (O3.out.later hb)
    clear hb hone
    go_wp2_with fail
    refine hK.out _ _ (HX.out _ HB4.out) (fun hH4 => ?_)
    clear hK K hH3
    try simp only [Act.put, List.setIfInBounds_toArray, List.set_cons_zero, List.set_cons_succ]
    refine wpAnyH_ready (rs := [9]) (by kernel_rfl) (by simp) ?_
    refine cons_drop rfl (fun K hK => ?_) AllReadyH.nil
    go_simp
    refine (eq_one g2 c2 g4 c4 i a hc2 hc4 _ O4.out X4.out).mono ?_
    rintro e u5 ⟨rfl, hb⟩
    have HB5 : Hid (Below w9.heap.size w9 u5) := Lib.hid (HB4.out.trans (hb.mono HB4.out.size))
    clear hb
    go_wp2_with fail
    refine hK.out _ _ (HX.out _ HB5.out) (fun hH5 => ?_)
    clear hK K hH4
    try simp only [Act.put, List.setIfInBounds_toArray, List.set_cons_zero, List.set_cons_succ]
    first
      | (refine take_drop (i := 10) (v := ?_) rfl (by kernel_rfl) (by kernel_rfl) (by kernel_rfl) (fun _ _ _ h => h) (Or.inl ⟨by rfl, ?_⟩) (by assumption) ?_; rotate_left 1; (focus (intro w hSw; (try dsimp only at hSw); go_simp; try with_reducible rfl)); try simp only [Act.put, List.setIfInBounds_toArray, List.set_cons_zero, List.set_cons_succ])
      | (refine take_drop (i := 10) (v := undef) rfl (by kernel_rfl) (by kernel_rfl) (by kernel_rfl) (fun _ _ _ h => h) (Or.inr ⟨by rfl, rfl⟩) (by assumption) ?_; try simp only [Act.put, List.setIfInBounds_toArray, List.set_cons_zero, List.set_cons_succ])
    first
      | (refine take_drop (i := 11) (v := ?_) rfl (by kernel_rfl) (by kernel_rfl) (by kernel_rfl) (fun _ _ _ h => h) (Or.inl ⟨by rfl, ?_⟩) (by assumption) ?_; rotate_left 1; (focus (intro w hSw; (try dsimp only at hSw); go_simp; try with_reducible rfl)); try simp only [Act.put, List.setIfInBounds_toArray, List.set_cons_zero, List.set_cons_succ])
      | (refine take_drop (i := 11) (v := undef) rfl (by kernel_rfl) (by kernel_rfl) (by kernel_rfl) (fun _ _ _ h => h) (Or.inr ⟨by rfl, rfl⟩) (by assumption) ?_; try simp only [Act.put, List.setIfInBounds_toArray, List.set_cons_zero, List.set_cons_succ])
    refine wpAnyH_done (by kernel_rfl) ?_ _
    refine NoPanic.normal ?_
    go_wp2_with fail
    go_ret
    exact ⟨rfl, HB9.out.trans (HB5.out.mono HB9.out.size)⟩
  · go_simp
    obtain ⟨u2, hu⟩ : ∃ u, u = u1.alloc (.cells #[.int .u64 i, .int .u64 a] 28) := ⟨_, rfl⟩
    rw [← hu]
    have hb : Below u1.heap.size u1 u2 := by rw [hu]; exact (Below.refl _ _).alloc (Nat.le_refl _) _
    have HB2 : Hid (Below w9.heap.size w9 u2) := Lib.hid (HB1.out.trans (hb.mono HB1.out.size))
    have X2 : Hid (One u2 u1.heap.size i a) := Lib.hid (by rw [hu]; exact one_new _ _ _ _)
    have O2 := Lib.hid (O1.out.later hb)
    clear hu hb
    refine hK.out _ _ (HX.out _ HB2.out) (fun hH2 => ?_)
    clear hK K hH1
    try simp only [Act.put, List.setIfInBounds_toArray, List.set_cons_zero, List.set_cons_succ]
    refine wpAnyH_ready (rs := [3]) (by kernel_rfl) (by simp) ?_
    refine cons_drop rfl (fun K hK => ?_) AllReadyH.nil
    go_simp
    refine (back_one g cap i a hcap _ O2.out).mono ?_
    rintro e u3 ⟨g2, c2, rfl, hc2, hone, hb⟩
    have HB3 : Hid (Below w9.heap.size w9 u3) := Lib.hid (HB2.out.trans (hb.mono HB2.out.size))
    have O3 := Lib.hid hone
    have X3 := Lib.hid (X2.out.later hb)
    clear hb hone
    go_wp2_with fail
    refine hK.out _ _ (HX.out _ HB3.out) (fun hH3 => ?_)
    clear hK K hH2
    try simp only [Act.put, List.setIfInBounds_toArray, List.set_cons_zero, List.set_cons_succ]
    refine wpAnyH_ready (rs := [8]) (by kernel_rfl) (by simp) ?_
    refine cons_drop rfl (fun K hK => ?_) AllReadyH.nil
    go_simp
    refine (of_one k hk _ 1 i a ha (Nat.le_refl _) _ X3.out).mono ?_
    rintro e u4 ⟨g4, c4, rfl, hc4, hone, hb⟩
    have HB4 : Hid (Below w9.heap.size w9 u4) := Lib.hid (HB3.out.trans (hb.mono HB3.out.size))
    have X4 := Lib.hid hone
    have O4 := Lib.hid (O3.out.later hb)
    clear hb hone
    go_wp2_with fail
    refine hK.out _ _ (HX.out _ HB4.out) (fun hH4 => ?_)
    clear hK K hH3
    try simp only [Act.put, List.setIfInBounds_toArray, List.set_cons_zero, List.set_cons_succ]
    refine wpAnyH_ready (rs := [9]) (by kernel_rfl) (by simp) ?_
    refine cons_drop rfl (fun K hK => ?_) AllReadyH.nil
    go_simp
    refine (eq_one g2 c2 g4 c4 i a hc2 hc4 _ O4.out X4.out).mono ?_
    rintro e u5 ⟨rfl, hb⟩
    have HB5 : Hid (Below w9.heap.size w9 u5) := Lib.hid (HB4.out.trans (hb.mono HB4.out.size))
    clear hb
    go_wp2_with fail
    refine hK.out _ _ (HX.out _ HB5.out) (fun hH5 => ?_)
    clear hK K hH4
    try simp only [Act.put, List.setIfInBounds_toArray, List.set_cons_zero, List.set_cons_succ]
    first
      | (refine take_drop (i := 10) (v := ?_) rfl (by kernel_rfl) (by kernel_rfl) (by kernel_rfl) (fun _ _ _ h => h) (Or.inl ⟨by rfl, ?_⟩) (by assumption) ?_; rotate_left 1; (focus (intro w hSw; (try dsimp only at hSw); go_simp; try with_reducible rfl)); try simp only [Act.put, List.setIfInBounds_toArray, List.set_cons_zero, List.set_cons_succ])
      | (refine take_drop (i := 10) (v := undef) rfl (by kernel_rfl) (by kernel_rfl) (by kernel_rfl) (fun _ _ _ h => h) (Or.inr ⟨by rfl, rfl⟩) (by assumption) ?_; try simp only [Act.put, List.setIfInBounds_toArray, List.set_cons_zero, List.set_cons_succ])
    first
      | (refine take_drop (i := 11) (v := ?_) rfl (by kernel_rfl) (by kernel_rfl) (by kernel_rfl) (fun _ _ _ h => h) (Or.inl ⟨by rfl, ?_⟩) (by assumption) ?_; rotate_left 1; (focus (intro w hSw; (try dsimp only at hSw); go_simp; try with_reducible rfl)); try simp only [Act.put, List.setIfInBounds_toArray, List.set_cons_zero, List.set_cons_succ])
      | (refine take_drop (i := 11) (v := undef) rfl (by kernel_rfl) (by kernel_rfl) (by kernel_rfl) (fun _ _ _ h => h) (Or.inr ⟨by rfl, rfl⟩) (by assumption) ?_; try simp only [Act.put, List.setIfInBounds_toArray, List.set_cons_zero, List.set_cons_succ])
    refine wpAnyH_done (by kernel_rfl) ?_ _
    refine NoPanic.normal ?_
    go_wp2_with fail
    go_ret
    exact ⟨rfl, HB9.out.trans (HB5.out.mono HB9.out.size)⟩

theorem nil_walk (n : Int) (h0 : -9223372036854775808 ≤ n) (h1 : n ≤ 9223372036854775807) (i a : Nat) (ha : a < 18446744073709551616) (slot : Int) (hs0 : -9223372036854775808 ≤ slot) (hs1 : slot ≤ 9223372036854775807) (w : World) :
    Calls Tryd.prog 5 #[.int .i64 n, .agg #[.int .u64 i, .int .u64 a], .int .i64 slot] w fun e w' => e = .returned (.bool true) ∧ Below w.heap.size w w' := by
  by_cases hn : n < 0 ∨ 3 < n
  · exact out_any n h0 h1 hn i a slot w
  · obtain ⟨k, rfl⟩ : ∃ k : Nat, n = k := ⟨n.toNat, by omega⟩
    by_cases hs : (slotOf k a : Int) = slot
    · subst hs; exact in_one k (by omega) i a ha w
    · exact in_none k (by omega) i a ha slot hs0 hs1 hs w
end Ln
end Go.Proofs.YtmemjljajbfdlaaDoor
