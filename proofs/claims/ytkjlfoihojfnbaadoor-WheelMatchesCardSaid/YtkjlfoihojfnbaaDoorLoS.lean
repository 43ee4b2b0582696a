/- Remove. -/
import Derived.Test.YtkjlfoihojfnbaaDoorLoR
import Derived.Test.YtkjlfoihojfnbaaDoorLoF
import Derived.Deep.RegionWith
namespace Go.Proofs.YtkjlfoihojfnbaaDoor
open Go.RowKit
set_option linter.unusedVariables false
set_option linter.unusedSimpArgs false
namespace Lo
open Lv (W64 slotOf slotOf_lt fresh ret_int ret_bool slot_any rslot_any)
open Ln (lvCells LV upd only_set only_refl only_drew)
section
variable {P : Program} {ops : Array Oper} {Q : Exit → Act → World → Prop} {md : Region.Mode}
theorem takeA {i : Nat} {oi : Oper} {rest : List Oper} {v : Value} {fuel : Nat} {listed : Array Bool} {a : Act} {w : World} (hi : ops.toList.drop i = oi :: rest)
    (hs : Region.noSelect ops = true) (hf : Region.free md ops listed i = true) (hr : (Region.ready md ops listed).contains i = true)
    (hQ : ∀ c a w, Q (.panic c) (a.put oi.dst v) w → Q (.panic c) a w) (hy : Yields P ops oi v a)
    (h : wpAny P md ops Q fuel (listed.setIfInBounds i true) (a.put oi.dst v) w) : wpAny P md ops Q (fuel + 1) listed a w :=
  wpAny_take (drop_get hi) hs hf hr hQ hy h
theorem consA {fuel : Nat} {listed : Array Bool} {a : Act} {w : World} {i : Nat} {o : Oper} {rest : List Oper} {rs : List Nat} (ho : ops.toList.drop i = o :: rest)
    (h : ∀ K' : Act → World → Prop, (∀ a w, wpAny P md ops Q fuel (listed.setIfInBounds i true) a w → K' a w) → if Region.wanted o (yielded ops a.tmps) = true then Oper.wp P o a w K' Q else K' (a.put o.dst undef) w)
    (hs : AllReady P md ops Q fuel listed a w rs) : AllReady P md ops Q fuel listed a w (i :: rs) := AllReady.cons (drop_get ho) h hs
end
variable {w : World} {b k : Nat} {f : Nat → Value}
/-- What is there behind a change of one slot. -/
def ChgOut (w w' : World) (base b k : Nat) (f : Nat → Value) (m s : Nat) (l : List (Nat × Nat)) : Prop :=
  ∃ v', IRow 34 w' base v' l ∧ LV w' b k (upd f s v') (marked m s l.length : Nat) ∧ KB w w' (fun g => g = b ∨ (f s).ownBlock = some g) ∧ (∀ g, v'.ownBlock = some g → (f s).ownBlock = some g ∨ w.heap.size ≤ g)
theorem chg_fin {base m s : Nat} {l : List (Nat × Nat)} {w2 w3 w9 : World} {v' : Value} (kb2 : Below w.heap.size w w2) (kb3 : KB w2 w3 (fun g => (f s).ownBlock = some g)) (row' : IRow 34 w3 base v' l) (ho : v'.ownBlock = (f s).ownBlock)
    (hne : ∀ g, (f s).ownBlock = some g → g ≠ b) (hg9 : (w3.setCell ⟨b, 1 + s, none⟩ v').grownBy w9 (some b)) (hlv : LV w9 b k (upd f s v') (marked m s l.length : Nat)) : ChgOut w w9 base b k f m s l := by
  have hz3 : (w3.setCell ⟨b, 1 + s, none⟩ v').heap.size = w3.heap.size := by simp [World.setCell]
  refine ⟨v', row'.keep fun g hg => ?_, hlv, ?_, fun g hg => .inl (ho ▸ hg)⟩
  · have hgb : g ≠ b := hne g (ho ▸ hg)
    rw [hg9.block g (by rw [hz3]; exact (row'.lt g hg).2) (by simpa using hgb), Below.heap_setCell _ _ _ _ (by simpa using hgb)]
  · have k1 : KB w w2 (fun g => g = b ∨ (f s).ownBlock = some g) := KB.of_below _ kb2
    have k2 := k1.trans kb3 (fun j _ h => .inr h)
    have k3 := k2.trans (KB.of_grown (fun g => g = b) (only_set w3 w3 b (1 + s) v' (only_refl w3 b)) (fun g h => (by cases h; rfl))) (fun j _ h => .inl h)
    exact k3.trans (KB.of_grown (fun g => g = b) hg9 (fun g h => (by cases h; rfl))) (fun j _ h => .inl h)
set_option maxRecDepth 100000 in
set_option maxHeartbeats 4000000 in
theorem remove_any (x : Nat × Nat) (hk : k ≤ 3) (ha : x.2 < 18446744073709551616) (base m : Nat) (l : List (Nat × Nat)) (hl : l.length ≤ 1000) (hm : m < 18446744073709551616)
    (row : IRow 34 w base (f (slotOf k x.2)) l) (hne : ∀ g, (f (slotOf k x.2)).ownBlock = some g → g ≠ b) (r : LV w b k f m) :
    Calls Tryd.prog 14 #[.pointer (some ⟨b, 0, none⟩), .agg #[.int .u64 (x.1 : Nat), .int .u64 (x.2 : Nat)]] w fun e w' =>
      (e = .returned (.bool false) ∧ x ∉ l ∧ Below w.heap.size w w') ∨ (e = .returned (.bool true) ∧ ∃ i : Nat, ∃ hi : i < l.length, l[i] = x ∧ ChgOut w w' base b k f m (slotOf k x.2) (l.take i ++ l.drop (i + 1))) := by
  obtain ⟨W0, hW0⟩ : ∃ W0, W0 = w.alloc (.cells #[.int .u64 (x.1 : Nat), .int .u64 (x.2 : Nat)] 34) := ⟨_, rfl⟩
  have hb0 : Below w.heap.size w W0 := by rw [hW0]; exact (Below.refl _ _).alloc (Nat.le_refl _) _
  have hx0 : W0.heap[w.heap.size]? = some (.cells #[.int .u64 (x.1 : Nat), .int .u64 (x.2 : Nat)] 34 (0, 0)) := by rw [hW0]; exact heap_alloc_new w _
  have hzw : w.heap.size < W0.heap.size := by rw [hW0]; simp
  have x0 : W0.cell? ⟨w.heap.size, 0, none⟩ = some (.int .u64 (x.1 : Nat)) := by simp [World.cell?, hx0]
  have x1 : W0.cell? ⟨w.heap.size, 1, none⟩ = some (.int .u64 (x.2 : Nat)) := by simp [World.cell?, hx0]
  have r0 : LV W0 b k f m := r.later hb0 r.lt
  have hlt := r0.lt
  have hblt := r.lt
  have hs := slotOf_lt k x.2
  have HS := Lib.hid (slot_any k hk b x.2 ha W0 r0.n)
  obtain ⟨s, hse⟩ : ∃ s, s = slotOf k x.2 := ⟨_, rfl⟩
  rw [← hse] at hs HS row hne ⊢
  have row0 := row.later hb0
  have HIX := Lib.hid (index_any l hl (f s) x W0.drew (row0.lies.later (below_drew (Below.refl _ _))))
  have hc := r0.slot s hs
  have hs0 : (0 : Int) ≤ s := by omega
  have hs1 : (s : Int) < 64 := by omega
  have R0 := Lib.hid r0
  have HW := Lib.hid hb0
  have ROW := Lib.hid row0
  have HM := Lib.hid fun (w : World) (f : Nat → Value) (A : Option Addr) (n cap : Nat) (hf : f s = .slice A n cap) (r : LV w b k f m) => mark_exact s hs m hm A n cap hf r
  have hfz := r0.free (1 + s)
  replace hW0 := Lib.hid hW0
  replace hse := Lib.hid hse
  replace hne := Lib.hid hne
  clear r r0 hb0 hx0 row row0
  go_enter Tryd.func14, Tryd.ntmps14
  go_upto_region 3 with fail
  rw [← hW0.out]
  go_wp2_with fail
  refine HS.out.mono ?_
  rintro e w1 ⟨rfl, rfl⟩
  go_wp2_with fail
  refine wp_region_noPanic ?_
  refine wp_region_held_drew (S := (fun w' : World => w'.cell? ⟨w.heap.size, 0, none⟩ = some (.int .u64 (x.1 : Nat)) ∧ w'.cell? ⟨w.heap.size, 1, none⟩ = some (.int .u64 (x.2 : Nat)) ∧ w'.cell? ⟨b, 1 + s, none⟩ = some (f s))) (by kernel_rfl) ?_ (fun hH0 => ?_)
  · exact ⟨x0, x1, hc⟩
  first
    | (refine take_drop (i := 0) (v := ?_) rfl (by kernel_rfl) (by kernel_rfl) (by kernel_rfl) (fun _ _ _ h => h) (Or.inl ⟨by rfl, ?_⟩) (by assumption) ?_; rotate_left 1; (focus (intro w hSw; (try dsimp only at hSw); go_simp; try with_reducible rfl)); try simp only [Act.put, List.setIfInBounds_toArray, List.set_cons_zero, List.set_cons_succ])
    | (refine take_drop (i := 0) (v := undef) rfl (by kernel_rfl) (by kernel_rfl) (by kernel_rfl) (fun _ _ _ h => h) (Or.inr ⟨by rfl, rfl⟩) (by assumption) ?_; try simp only [Act.put, List.setIfInBounds_toArray, List.set_cons_zero, List.set_cons_succ])
  first
    | (refine take_drop (i := 1) (v := ?_) rfl (by kernel_rfl) (by kernel_rfl) (by kernel_rfl) (fun _ _ _ h => h) (Or.inl ⟨by rfl, ?_⟩) (by assumption) ?_; rotate_left 1; (focus (intro w hSw; (try dsimp only at hSw); go_simp; try with_reducible rfl)); try simp only [Act.put, List.setIfInBounds_toArray, List.set_cons_zero, List.set_cons_succ])
    | (refine take_drop (i := 1) (v := undef) rfl (by kernel_rfl) (by kernel_rfl) (by kernel_rfl) (fun _ _ _ h => h) (Or.inr ⟨by rfl, rfl⟩) (by assumption) ?_; try simp only [Act.put, List.setIfInBounds_toArray, List.set_cons_zero, List.set_cons_succ])
  first
    | (refine take_drop (i := 2) (v := ?_) rfl (by kernel_rfl) (by kernel_rfl) (by kernel_rfl) (fun _ _ _ h => h) (Or.inl ⟨by rfl, ?_⟩) (by assumption) ?_; rotate_left 1; (focus (intro w hSw; (try dsimp only at hSw); go_simp; try with_reducible rfl)); try simp only [Act.put, List.setIfInBounds_toArray, List.set_cons_zero, List.set_cons_succ])
    | (refine take_drop (i := 2) (v := undef) rfl (by kernel_rfl) (by kernel_rfl) (by kernel_rfl) (fun _ _ _ h => h) (Or.inr ⟨by rfl, rfl⟩) (by assumption) ?_; try simp only [Act.put, List.setIfInBounds_toArray, List.set_cons_zero, List.set_cons_succ])
  first
    | (refine take_drop (i := 3) (v := ?_) rfl (by kernel_rfl) (by kernel_rfl) (by kernel_rfl) (fun _ _ _ h => h) (Or.inl ⟨by rfl, ?_⟩) (by assumption) ?_; rotate_left 1; (focus (intro w hSw; (try dsimp only at hSw); go_simp; try with_reducible rfl)); try simp only [Act.put, List.setIfInBounds_toArray, List.set_cons_zero, List.set_cons_succ])
    | (refine take_drop (i := 3) (v := undef) rfl (by kernel_rfl) (by kernel_rfl) (by kernel_rfl) (fun _ _ _ h => h) (Or.inr ⟨by rfl, rfl⟩) (by assumption) ?_; try simp only [Act.put, List.setIfInBounds_toArray, List.set_cons_zero, List.set_cons_succ])
  first
    | (refine take_drop (i := 4) (v := ?_) rfl (by kernel_rfl) (by kernel_rfl) (by kernel_rfl) (fun _ _ _ h => h) (Or.inl ⟨by rfl, ?_⟩) (by assumption) ?_; rotate_left 1; (focus (intro w hSw; (try dsimp only at hSw); go_simp; try with_reducible rfl)); try simp only [Act.put, List.setIfInBounds_toArray, List.set_cons_zero, List.set_cons_succ])
    | (refine take_drop (i := 4) (v := undef) rfl (by kernel_rfl) (by kernel_rfl) (by kernel_rfl) (fun _ _ _ h => h) (Or.inr ⟨by rfl, rfl⟩) (by assumption) ?_; try simp only [Act.put, List.setIfInBounds_toArray, List.set_cons_zero, List.set_cons_succ])
  first
    | (refine take_drop (i := 5) (v := ?_) rfl (by kernel_rfl) (by kernel_rfl) (by kernel_rfl) (fun _ _ _ h => h) (Or.inl ⟨by rfl, ?_⟩) (by assumption) ?_; rotate_left 1; (focus (intro w hSw; (try dsimp only at hSw); go_simp; try with_reducible rfl)); try simp only [Act.put, List.setIfInBounds_toArray, List.set_cons_zero, List.set_cons_succ])
    | (refine take_drop (i := 5) (v := undef) rfl (by kernel_rfl) (by kernel_rfl) (by kernel_rfl) (fun _ _ _ h => h) (Or.inr ⟨by rfl, rfl⟩) (by assumption) ?_; try simp only [Act.put, List.setIfInBounds_toArray, List.set_cons_zero, List.set_cons_succ])
  first
    | (refine take_drop (i := 6) (v := ?_) rfl (by kernel_rfl) (by kernel_rfl) (by kernel_rfl) (fun _ _ _ h => h) (Or.inl ⟨by rfl, ?_⟩) (by assumption) ?_; rotate_left 1; (focus (intro w hSw; (try dsimp only at hSw); go_simp; try with_reducible rfl)); try simp only [Act.put, List.setIfInBounds_toArray, List.set_cons_zero, List.set_cons_succ])
    | (refine take_drop (i := 6) (v := undef) rfl (by kernel_rfl) (by kernel_rfl) (by kernel_rfl) (fun _ _ _ h => h) (Or.inr ⟨by rfl, rfl⟩) (by assumption) ?_; try simp only [Act.put, List.setIfInBounds_toArray, List.set_cons_zero, List.set_cons_succ])
  refine wpAnyH_ready (rs := [7]) (by kernel_rfl) (by simp) ?_
  refine cons_drop rfl (fun K hK => ?_) AllReadyH.nil
  go_simp
  refine HIX.out.mono ?_
  rintro e w2 ⟨hb2, hpost⟩
  have HB2 := Lib.hid (HW.out.trans (Below.mono (below_drew (Below.refl _ _) |>.trans hb2) HW.out.size))
  have HC2 : Hid (w2.cell? ⟨w.heap.size, 0, none⟩ = some (.int .u64 (x.1 : Nat)) ∧ w2.cell? ⟨w.heap.size, 1, none⟩ = some (.int .u64 (x.2 : Nat)) ∧ w2.cell? ⟨b, 1 + s, none⟩ = some (f s)) := Lib.hid ⟨(hb2.cell (p := ⟨w.heap.size, 0, none⟩) hzw).trans x0, (hb2.cell (p := ⟨w.heap.size, 1, none⟩) hzw).trans x1, (hb2.cell (p := ⟨b, 1 + s, none⟩) hlt).trans hc⟩
  have hb02 : Below W0.heap.size W0 w2 := (below_drew (Below.refl _ _)).trans hb2
  have R2 : Hid (LV w2 b k f m) := Lib.hid (R0.out.later hb02 hlt)
  have ROW2 : Hid (IRow 34 w2 base (f s) l) := Lib.hid (ROW.out.later hb02)
  clear hb2 hb02
  rcases hpost with ⟨rfl, hnx⟩ | ⟨i, hi, rfl, hix⟩
  · have HNX := Lib.hid hnx
    clear hnx
    go_wp2_with fail
    refine hK.out _ _ HC2.out (fun hH0b => ?_)
    clear hK K hH0
    try simp only [Act.put, List.setIfInBounds_toArray, List.set_cons_zero, List.set_cons_succ]
    first
      | (refine take_drop (i := 8) (v := ?_) rfl (by kernel_rfl) (by kernel_rfl) (by kernel_rfl) (fun _ _ _ h => h) (Or.inl ⟨by rfl, ?_⟩) (by assumption) ?_; rotate_left 1; (focus (intro w hSw; (try dsimp only at hSw); go_simp; try with_reducible rfl)); try simp only [Act.put, List.setIfInBounds_toArray, List.set_cons_zero, List.set_cons_succ])
      | (refine take_drop (i := 8) (v := undef) rfl (by kernel_rfl) (by kernel_rfl) (by kernel_rfl) (fun _ _ _ h => h) (Or.inr ⟨by rfl, rfl⟩) (by assumption) ?_; try simp only [Act.put, List.setIfInBounds_toArray, List.set_cons_zero, List.set_cons_succ])
    refine wpAnyH_done (by kernel_rfl) ?_ _
    refine NoPanic.normal ?_
    go_wp2_with fail
    go_ret
    refine .inl ⟨rfl, HNX.out, HB2.out⟩
  · have HIX2 := Lib.hid hix
    clear hix
    go_wp2_with fail
    refine hK.out _ _ HC2.out (fun hH0b => ?_)
    clear hK K hH0
    try simp only [Act.put, List.setIfInBounds_toArray, List.set_cons_zero, List.set_cons_succ]
    first
      | (refine take_drop (i := 8) (v := ?_) rfl (by kernel_rfl) (by kernel_rfl) (by kernel_rfl) (fun _ _ _ h => h) (Or.inl ⟨by rfl, ?_⟩) (by assumption) ?_; rotate_left 1; (focus (intro w hSw; (try dsimp only at hSw); go_simp; try with_reducible rfl)); try simp only [Act.put, List.setIfInBounds_toArray, List.set_cons_zero, List.set_cons_succ])
      | (refine take_drop (i := 8) (v := undef) rfl (by kernel_rfl) (by kernel_rfl) (by kernel_rfl) (fun _ _ _ h => h) (Or.inr ⟨by rfl, rfl⟩) (by assumption) ?_; try simp only [Act.put, List.setIfInBounds_toArray, List.set_cons_zero, List.set_cons_succ])
    refine wpAnyH_done (by kernel_rfl) ?_ _
    refine NoPanic.normal ?_
    go_wp2_with fail
    have hi0 : (0 : Int) ≤ i := by omega
    have hia : IntKind.i64.wrap ((i : Int) + 1) = i + 1 := IntWalk.i64_in _ (by omega)
    have HDEL := Lib.hid (fun (W : World) (row : IRow 34 W base (f s) l) => delete_any l hl base (f s) W row i hi)
    obtain ⟨l3, hl3⟩ : ∃ q, q = l.take i ++ l.drop (i + 1) := ⟨_, rfl⟩
    rw [← hl3] at HDEL
    replace hl3 := Lib.hid hl3
    have hc2 := HC2.out.2.2
    have hlt2 := R2.out.lt
    refine wp_region_any (by kernel_rfl) ?_
    change wpAny _ _ _ _ _ _ _ (World.drew _)
    refine takeA (i := 0) (v := ?_) rfl (by kernel_rfl) (by kernel_rfl) (by kernel_rfl) (fun _ _ _ h => h) (Or.inl ⟨by rfl, ?_⟩) ?_
    rotate_left 1
    focus (intro w; go_simp; try with_reducible rfl)
    try simp only [Act.put, List.setIfInBounds_toArray, List.set_cons_zero, List.set_cons_succ]
    refine takeA (i := 1) (v := ?_) rfl (by kernel_rfl) (by kernel_rfl) (by kernel_rfl) (fun _ _ _ h => h) (Or.inl ⟨by rfl, ?_⟩) ?_
    rotate_left 1
    focus (intro w; go_simp; try with_reducible rfl)
    try simp only [Act.put, List.setIfInBounds_toArray, List.set_cons_zero, List.set_cons_succ]
    refine takeA (i := 2) (v := ?_) rfl (by kernel_rfl) (by kernel_rfl) (by kernel_rfl) (fun _ _ _ h => h) (Or.inl ⟨by rfl, ?_⟩) ?_
    rotate_left 1
    focus (intro w; go_simp; try with_reducible rfl)
    try simp only [Act.put, List.setIfInBounds_toArray, List.set_cons_zero, List.set_cons_succ]
    refine takeA (i := 3) (v := ?_) rfl (by kernel_rfl) (by kernel_rfl) (by kernel_rfl) (fun _ _ _ h => h) (Or.inl ⟨by rfl, ?_⟩) ?_
    rotate_left 1
    focus (intro w; go_simp; try with_reducible rfl)
    try simp only [Act.put, List.setIfInBounds_toArray, List.set_cons_zero, List.set_cons_succ]
    refine takeA (i := 4) (v := ?_) rfl (by kernel_rfl) (by kernel_rfl) (by kernel_rfl) (fun _ _ _ h => h) (Or.inl ⟨by rfl, ?_⟩) ?_
    rotate_left 1
    focus (intro w; go_simp; try with_reducible rfl)
    try simp only [Act.put, List.setIfInBounds_toArray, List.set_cons_zero, List.set_cons_succ]
    refine takeA (i := 5) (v := ?_) rfl (by kernel_rfl) (by kernel_rfl) (by kernel_rfl) (fun _ _ _ h => h) (Or.inl ⟨by rfl, ?_⟩) ?_
    rotate_left 1
    focus (intro w; go_simp; try with_reducible rfl)
    try simp only [Act.put, List.setIfInBounds_toArray, List.set_cons_zero, List.set_cons_succ]
    refine takeA (i := 6) (v := ?_) rfl (by kernel_rfl) (by kernel_rfl) (by kernel_rfl) (fun _ _ _ h => h) (Or.inl ⟨by rfl, ?_⟩) ?_
    rotate_left 1
    focus (intro w; go_simp; try with_reducible rfl)
    try simp only [Act.put, List.setIfInBounds_toArray, List.set_cons_zero, List.set_cons_succ]
    refine takeA (i := 8) (v := ?_) rfl (by kernel_rfl) (by kernel_rfl) (by kernel_rfl) (fun _ _ _ h => h) (Or.inl ⟨by rfl, ?_⟩) ?_
    rotate_left 1
    focus (intro w; go_simp; try with_reducible rfl)
    try simp only [Act.put, List.setIfInBounds_toArray, List.set_cons_zero, List.set_cons_succ]
    refine takeA (i := 9) (v := ?_) rfl (by kernel_rfl) (by kernel_rfl) (by kernel_rfl) (fun _ _ _ h => h) (Or.inl ⟨by rfl, ?_⟩) ?_
    rotate_left 1
    focus (intro w; go_simp; try with_reducible rfl)
    try simp only [Act.put, List.setIfInBounds_toArray, List.set_cons_zero, List.set_cons_succ]
    refine takeA (i := 10) (v := ?_) rfl (by kernel_rfl) (by kernel_rfl) (by kernel_rfl) (fun _ _ _ h => h) (Or.inl ⟨by rfl, ?_⟩) ?_
    rotate_left 1
    focus (intro w; go_simp; try with_reducible rfl)
    try simp only [Act.put, List.setIfInBounds_toArray, List.set_cons_zero, List.set_cons_succ]
    refine takeA (i := 12) (v := ?_) rfl (by kernel_rfl) (by kernel_rfl) (by kernel_rfl) (fun _ _ _ h => h) (Or.inl ⟨by rfl, ?_⟩) ?_
    rotate_left 1
    focus (intro w; go_simp; try with_reducible rfl)
    try simp only [Act.put, List.setIfInBounds_toArray, List.set_cons_zero, List.set_cons_succ]
    refine takeA (i := 13) (v := ?_) rfl (by kernel_rfl) (by kernel_rfl) (by kernel_rfl) (fun _ _ _ h => h) (Or.inl ⟨by rfl, ?_⟩) ?_
    rotate_left 1
    focus (intro w; go_simp; try with_reducible rfl)
    try simp only [Act.put, List.setIfInBounds_toArray, List.set_cons_zero, List.set_cons_succ]
    refine wpAny_ready (rs := [7]) (by kernel_rfl) (by simp) ?_
    refine consA rfl (fun K hK => ?_) AllReady.nil
    go_simp
    refine hK _ _ ?_
    clear hK K
    try simp only [Act.put, List.setIfInBounds_toArray, List.set_cons_zero, List.set_cons_succ]
    refine wpAny_ready (rs := [11]) (by kernel_rfl) (by simp) ?_
    refine consA rfl (fun K hK => ?_) AllReady.nil
    go_simp
    refine (HDEL.out _ (ROW2.out.later (below_drew (Below.refl _ _)))).mono ?_
    rintro e w3 ⟨v3, rfl, ho3, row3, kb3⟩
    have kb3' : KB w2 w3 (fun g => (f s).ownBlock = some g) := ⟨kb3.os, kb3.tape, kb3.output, kb3.size, kb3.block⟩
    have R3 : LV w3 b k f m := R2.out.keep (kb3'.block b hlt2 (fun e => hne.out b e rfl))
    obtain ⟨A3, cap3, rfl, hcap3, -⟩ := row3.opened
    have c3 := R3.slot s hs
    have fz3 := R3.free (1 + s)
    have KB3 := Lib.hid kb3'
    have ROW3 := Lib.hid row3
    have HO3 := Lib.hid ho3
    have RR3 := Lib.hid (R3.setSlot s hs (.slice A3 l3.length cap3))
    clear kb3 kb3' R3 row3 ho3
    go_wp2_with fail
    try simp only [Act.put, List.setIfInBounds_toArray, List.set_cons_zero, List.set_cons_succ]
    refine takeA (i := 14) (v := ?_) rfl (by kernel_rfl) (by kernel_rfl) (by kernel_rfl) (fun _ _ _ h => h) (Or.inl ⟨by rfl, ?_⟩) ?_
    rotate_left 1
    focus (intro w; go_simp; try with_reducible rfl)
    try simp only [Act.put, List.setIfInBounds_toArray, List.set_cons_zero, List.set_cons_succ]
    refine wpAny_ready (rs := [15]) (by kernel_rfl) (by simp) ?_
    refine consA rfl (fun K hK => ?_) AllReady.nil
    go_simp
    refine hK _ _ ?_
    clear hK K
    try simp only [Act.put, List.setIfInBounds_toArray, List.set_cons_zero, List.set_cons_succ]
    refine wpAny_done (by kernel_rfl) ?_ _
    go_wp2_with fail
    refine (HM.out _ _ A3 l3.length cap3 (by simp [upd]) RR3.out).mono ?_
    rintro e w9 ⟨⟨v9, rfl⟩, RL9, hg9⟩
    go_wp2_with fail
    go_ret
    exact .inr ⟨rfl, i, hi, HIX2.out, by rw [← hl3.out]; exact chg_fin HB2.out KB3.out ROW3.out HO3.out (fun g hg => hne.out g hg) hg9 RL9⟩
end Lo
end Go.Proofs.YtkjlfoihojfnbaaDoor
