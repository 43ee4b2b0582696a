/- Contract of the builder: number. -/
import Derived.Test.YtpnepnhajpmccaaCwB
import Derived.Deep.RegionWith
namespace Go.Proofs.Ytpnepnhajpmccaa
open Go.RowKit
set_option linter.unusedVariables false
namespace Cm
variable {X : Nat → Prop}
open Nm (ret_int ret_bool)
open Vt (VT Rep BoxAt below_drew)
open Ev (EV FieldsOk evCells vCells EBox ERep)

section
variable {P : Program} {ops : Array Oper} {Q : Exit → Act → World → Prop} {md : Region.Mode}
theorem takeA {i : Nat} {oi : Oper} {rest : List Oper} {v : Value} {fuel : Nat} {listed : Array Bool} {a : Act} {w : World} (hi : ops.toList.drop i = oi :: rest)
    (hs : Region.noSelect ops = true) (hf : Region.free md ops listed i = true) (hr : (Region.ready md ops listed).contains i = true)
    (hQ : ∀ c a w, Q (.panic c) (a.put oi.dst v) w → Q (.panic c) a w) (hy : Yields P ops oi v a)
    (h : wpAny P md ops Q fuel (listed.setIfInBounds i true) (a.put oi.dst v) w) : wpAny P md ops Q (fuel + 1) listed a w :=
  wpAny_take (Ev.drop_get hi) hs hf hr hQ hy h
theorem consA {fuel : Nat} {listed : Array Bool} {a : Act} {w : World} {i : Nat} {o : Oper} {rest : List Oper} {rs : List Nat} (ho : ops.toList.drop i = o :: rest)
    (h : ∀ K' : Act → World → Prop, (∀ a w, wpAny P md ops Q fuel (listed.setIfInBounds i true) a w → K' a w) → if Region.wanted o (yielded ops a.tmps) = true then Oper.wp P o a w K' Q else K' (a.put o.dst undef) w)
    (hs : AllReady P md ops Q fuel listed a w rs) : AllReady P md ops Q fuel listed a w (i :: rs) := AllReady.cons (Ev.drop_get ho) h hs
end

def withId (e : EV) (n : Nat) : EV := { e with id := n }

/-- event.Valid of an event whose value lies below. -/
theorem evalid_later (e : EV) (w : World) (lo hi : Nat) (vk vn : Int) (vf : Nat) (vs : ByteArray) (A' : Option Addr) (m c : Nat) (hf : FieldsOk e) (hv : Rep w lo hi e.v (vCells vk vn vf vs A' m c)) (hz : hi ≤ w.heap.size) (W : World) (hW : Below w.heap.size w W) :
    Calls Try.prog 52 #[.agg (evCells e vk vn vf vs A' m c)] W fun r w' => r = .returned (.bool e.valid) ∧ Below W.heap.size W w' :=
  Ev.evalid_any e W lo hi _ ⟨hf, vk, vn, vf, vs, A', m, c, rfl, hv.later (hW.mono hz)⟩ (Nat.le_trans hz hW.size)

set_option maxHeartbeats 2000000 in
theorem number_bad (base g : Nat) (A : Option Addr) (cap : Nat) (es : List EV) (closed : Int) (next at' : Nat) (e : EV) (lo hi : Nat) (vk vn : Int) (vf : Nat) (vs : ByteArray) (A' : Option Addr) (m c : Nat) (w : World) (hb : BAt X w base g A cap es closed next at')
    (hf : FieldsOk e) (hn : next < 18446744073709551616) (hv : Rep w lo hi e.v (vCells vk vn vf vs A' m c)) (hz : hi ≤ w.heap.size) (hbad : (withId e next).valid = false) :
    Calls Try.prog 35 #[.pointer (some ⟨g, 0, none⟩), .agg (evCells e vk vn vf vs A' m c)] w fun r w' => r = .returned (.int .u64 0) ∧ Below w.heap.size w w' := by
  obtain ⟨c0, c1, c2, c3, cf⟩ := hb.cells
  have hlt := hb.lt
  have hE := fun W hW => evalid_later (withId e next) w lo hi vk vn vf vs A' m c ⟨hf.k0, hf.k1, hn, hf.n0, hf.n1, hf.a1, hf.s1, hf.t1⟩ hv hz W hW
  rw [hbad] at hE
  clear cf hb hbad
  unfold evCells withId at hE
  unfold evCells
  replace hE := Lib.hid hE
  have HB0 := Lib.hid fun Z => ((Below.refl w.heap.size w).alloc (Nat.le_refl _) Z).drew
  go_enter Try.func35, Try.ntmps35
  go_wp2_with fail
  refine wp_region_any (by kernel_rfl) ?_
  change wpAny _ _ _ _ _ _ _ (World.drew _)
  refine wpAny_ready (rs := [0]) (by kernel_rfl) (by simp) ?_
  refine consA rfl (fun K hK => ?_) AllReady.nil
  go_simp
  refine hK _ _ ?_
  clear hK K
  try simp only [Act.put, List.setIfInBounds_toArray, List.set_cons_zero, List.set_cons_succ]
  refine wpAny_ready (rs := [1]) (by kernel_rfl) (by simp) ?_
  refine consA rfl (fun K hK => ?_) AllReady.nil
  go_simp
  refine (hE.out _ (HB0.out _)).mono ?_
  rintro x w2 ⟨rfl, hb2⟩
  go_wp2_with fail
  try simp only [Act.put, List.setIfInBounds_toArray, List.set_cons_zero, List.set_cons_succ]
  refine takeA (i := 2) (v := ?_) rfl (by kernel_rfl) (by kernel_rfl) (by kernel_rfl) (fun _ _ _ h => h) (Or.inl ⟨by rfl, ?_⟩) ?_
  rotate_left 1
  focus (intro w; go_simp; try with_reducible rfl)
  try simp only [Act.put, List.setIfInBounds_toArray, List.set_cons_zero, List.set_cons_succ]
  refine takeA (i := 3) (v := ?_) rfl (by kernel_rfl) (by kernel_rfl) (by kernel_rfl) (fun _ _ _ h => h) (Or.inl ⟨by rfl, ?_⟩) ?_
  rotate_left 1
  focus (intro w; go_simp; try with_reducible rfl)
  try simp only [Act.put, List.setIfInBounds_toArray, List.set_cons_zero, List.set_cons_succ]
  refine takeA (i := 4) (v := undef) rfl (by kernel_rfl) (by kernel_rfl) (by kernel_rfl) (fun _ _ _ h => h) (Or.inr ⟨by rfl, rfl⟩) ?_
  try simp only [Act.put, List.setIfInBounds_toArray, List.set_cons_zero, List.set_cons_succ]
  refine takeA (i := 5) (v := undef) rfl (by kernel_rfl) (by kernel_rfl) (by kernel_rfl) (fun _ _ _ h => h) (Or.inr ⟨by rfl, rfl⟩) ?_
  try simp only [Act.put, List.setIfInBounds_toArray, List.set_cons_zero, List.set_cons_succ]
  refine takeA (i := 6) (v := undef) rfl (by kernel_rfl) (by kernel_rfl) (by kernel_rfl) (fun _ _ _ h => h) (Or.inr ⟨by rfl, rfl⟩) ?_
  try simp only [Act.put, List.setIfInBounds_toArray, List.set_cons_zero, List.set_cons_succ]
  refine takeA (i := 7) (v := undef) rfl (by kernel_rfl) (by kernel_rfl) (by kernel_rfl) (fun _ _ _ h => h) (Or.inr ⟨by rfl, rfl⟩) ?_
  try simp only [Act.put, List.setIfInBounds_toArray, List.set_cons_zero, List.set_cons_succ]
  refine takeA (i := 8) (v := undef) rfl (by kernel_rfl) (by kernel_rfl) (by kernel_rfl) (fun _ _ _ h => h) (Or.inr ⟨by rfl, rfl⟩) ?_
  try simp only [Act.put, List.setIfInBounds_toArray, List.set_cons_zero, List.set_cons_succ]
  refine takeA (i := 9) (v := undef) rfl (by kernel_rfl) (by kernel_rfl) (by kernel_rfl) (fun _ _ _ h => h) (Or.inr ⟨by rfl, rfl⟩) ?_
  try simp only [Act.put, List.setIfInBounds_toArray, List.set_cons_zero, List.set_cons_succ]
  refine takeA (i := 10) (v := ?_) rfl (by kernel_rfl) (by kernel_rfl) (by kernel_rfl) (fun _ _ _ h => h) (Or.inl ⟨by rfl, ?_⟩) ?_
  rotate_left 1
  focus (intro w; go_simp; try with_reducible rfl)
  try simp only [Act.put, List.setIfInBounds_toArray, List.set_cons_zero, List.set_cons_succ]
  refine wpAny_done (by kernel_rfl) ?_ _
  go_wp2_with fail
  go_ret
  exact ⟨rfl, (HB0.out _).trans (hb2.mono (HB0.out _).size)⟩
set_option maxHeartbeats 2000000 in
theorem number_closed (base g : Nat) (A : Option Addr) (cap : Nat) (es : List EV) (closed : Int) (hc : closed ≠ 0) (next at' : Nat) (e : EV) (lo hi : Nat) (vk vn : Int) (vf : Nat) (vs : ByteArray) (A' : Option Addr) (m c : Nat) (w : World) (hb : BAt X w base g A cap es closed next at')
    (hf : FieldsOk e) (hn : next < 18446744073709551616) (hv : Rep w lo hi e.v (vCells vk vn vf vs A' m c)) (hz : hi ≤ w.heap.size) (hgood : (withId e next).valid = true) :
    Calls Try.prog 35 #[.pointer (some ⟨g, 0, none⟩), .agg (evCells e vk vn vf vs A' m c)] w fun r w' => r = .returned (.int .u64 0) ∧ Below w.heap.size w w' := by
  obtain ⟨c0, c1, c2, c3, cf⟩ := hb.cells
  have hlt := hb.lt
  have hf' : FieldsOk (withId e next) := ⟨hf.k0, hf.k1, by show next < _; omega, hf.n0, hf.n1, hf.a1, hf.s1, hf.t1⟩
  have hE := fun W hW => evalid_later (withId e next) w lo hi vk vn vf vs A' m c hf' hv hz W hW
  rw [hgood] at hE
  have HBX : Hid (∀ W Z', Below (w.alloc Z').drew.heap.size (w.alloc Z').drew W → Z' = .cells #[.int .i64 e.k, .int .u64 next, .int .i64 e.n, .int .u64 e.at', .string e.name, .string e.text, .int .i64 vk, .int .i64 vn, .float .f64 vf, .string vs, .slice A' m c] 45 → Ev.EBox W w.heap.size #[.int .i64 e.k, .int .u64 next, .int .i64 e.n, .int .u64 e.at', .string e.name, .string e.text, .int .i64 vk, .int .i64 vn, .float .f64 vf, .string vs, .slice A' m c]) := Lib.hid fun W Z' hW hZ => by
    subst hZ
    exact Ev.EBox.later (w := (w.alloc (.cells #[.int .i64 e.k, .int .u64 next, .int .i64 e.n, .int .u64 e.at', .string e.name, .string e.text, .int .i64 vk, .int .i64 vn, .float .f64 vf, .string vs, .slice A' m c] 45)).drew) (heap_alloc_new w _) hW (by show w.heap.size < (w.alloc _).heap.size; simp)
  have hA : ∀ W, Below w.heap.size w W → _ := fun W hW => add_closed base g A cap es closed hc next at' (withId e next) vk vn vf vs A' m c W (hb.later hW)
  clear cf hb hgood
  unfold evCells withId at hE hA
  unfold evCells
  replace hE := Lib.hid hE
  replace hA := Lib.hid hA
  have HB0 := Lib.hid fun Z => ((Below.refl w.heap.size w).alloc (Nat.le_refl _) Z).drew
  go_enter Try.func35, Try.ntmps35
  go_wp2_with fail
  refine wp_region_any (by kernel_rfl) ?_
  change wpAny _ _ _ _ _ _ _ (World.drew _)
  refine wpAny_ready (rs := [0]) (by kernel_rfl) (by simp) ?_
  refine consA rfl (fun K hK => ?_) AllReady.nil
  go_simp
  refine hK _ _ ?_
  clear hK K
  try simp only [Act.put, List.setIfInBounds_toArray, List.set_cons_zero, List.set_cons_succ]
  refine wpAny_ready (rs := [1]) (by kernel_rfl) (by simp) ?_
  refine consA rfl (fun K hK => ?_) AllReady.nil
  go_simp
  refine (hE.out _ (HB0.out _)).mono ?_
  rintro x w2 ⟨rfl, hb2⟩
  have hbx := HBX.out w2 _ hb2 rfl
  obtain ⟨q0, q1, q2, q3, q4, q5, q6, q7, q8, q9, q10⟩ := hbx.cells
  have hlt2 := hbx.lt
  replace hbx := Lib.hid hbx
  have HB2 := Lib.hid ((HB0.out _).trans (hb2.mono (HB0.out _).size))
  clear hb2
  go_wp2_with fail
  try simp only [Act.put, List.setIfInBounds_toArray, List.set_cons_zero, List.set_cons_succ]
  refine takeA (i := 2) (v := ?_) rfl (by kernel_rfl) (by kernel_rfl) (by kernel_rfl) (fun _ _ _ h => h) (Or.inl ⟨by rfl, ?_⟩) ?_
  rotate_left 1
  focus (intro w; go_simp; try with_reducible rfl)
  try simp only [Act.put, List.setIfInBounds_toArray, List.set_cons_zero, List.set_cons_succ]
  refine takeA (i := 3) (v := ?_) rfl (by kernel_rfl) (by kernel_rfl) (by kernel_rfl) (fun _ _ _ h => h) (Or.inl ⟨by rfl, ?_⟩) ?_
  rotate_left 1
  focus (intro w; go_simp; try with_reducible rfl)
  try simp only [Act.put, List.setIfInBounds_toArray, List.set_cons_zero, List.set_cons_succ]
  refine takeA (i := 4) (v := ?_) rfl (by kernel_rfl) (by kernel_rfl) (by kernel_rfl) (fun _ _ _ h => h) (Or.inl ⟨by rfl, ?_⟩) ?_
  rotate_left 1
  focus (intro w; go_simp; try with_reducible rfl)
  try simp only [Act.put, List.setIfInBounds_toArray, List.set_cons_zero, List.set_cons_succ]
  refine takeA (i := 5) (v := ?_) rfl (by kernel_rfl) (by kernel_rfl) (by kernel_rfl) (fun _ _ _ h => h) (Or.inl ⟨by rfl, ?_⟩) ?_
  rotate_left 1
  focus (intro w; go_simp; try with_reducible rfl)
  try simp only [Act.put, List.setIfInBounds_toArray, List.set_cons_zero, List.set_cons_succ]
  refine takeA (i := 6) (v := ?_) rfl (by kernel_rfl) (by kernel_rfl) (by kernel_rfl) (fun _ _ _ h => h) (Or.inl ⟨by rfl, ?_⟩) ?_
  rotate_left 1
  focus (intro w; go_simp; try with_reducible rfl)
  try simp only [Act.put, List.setIfInBounds_toArray, List.set_cons_zero, List.set_cons_succ]
  refine wpAny_ready (rs := [7]) (by kernel_rfl) (by simp) ?_
  refine consA rfl (fun K hK => ?_) AllReady.nil
  go_simp
  refine hK _ _ ?_
  clear hK K
  try simp only [Act.put, List.setIfInBounds_toArray, List.set_cons_zero, List.set_cons_succ]
  refine wpAny_ready (rs := [8]) (by kernel_rfl) (by simp) ?_
  refine consA rfl (fun K hK => ?_) AllReady.nil
  go_simp
  refine (hA.out _ HB2.out).mono ?_
  rintro x w3 ⟨rfl, hb3⟩
  go_wp2_with fail
  try simp only [Act.put, List.setIfInBounds_toArray, List.set_cons_zero, List.set_cons_succ]
  refine takeA (i := 9) (v := ?_) rfl (by kernel_rfl) (by kernel_rfl) (by kernel_rfl) (fun _ _ _ h => h) (Or.inl ⟨by rfl, ?_⟩) ?_
  rotate_left 1
  focus (intro w; go_simp; try with_reducible rfl)
  try simp only [Act.put, List.setIfInBounds_toArray, List.set_cons_zero, List.set_cons_succ]
  refine takeA (i := 10) (v := ?_) rfl (by kernel_rfl) (by kernel_rfl) (by kernel_rfl) (fun _ _ _ h => h) (Or.inl ⟨by rfl, ?_⟩) ?_
  rotate_left 1
  focus (intro w; go_simp; try with_reducible rfl)
  try simp only [Act.put, List.setIfInBounds_toArray, List.set_cons_zero, List.set_cons_succ]
  refine wpAny_done (by kernel_rfl) ?_ _
  go_wp2_with fail
  go_ret
  exact ⟨rfl, HB2.out.trans (hb3.mono HB2.out.size)⟩

/-- The result of number. -/
def Numbered (X : Nat → Prop) (w w' : World) (base g : Nat) (A : Option Addr) (es : List EV) (e : EV) (k : Int) (next at' : Nat) : Prop :=
  ∃ r cap', BAt X w' base g (some ⟨r, 0, none⟩) cap' (es ++ [withId e next]) k (next + 1) at' ∧ OnlyAt w w' g (rowOf A) ∧ (rowOf A = some r ∨ w.heap.size ≤ r)

theorem BAt.setNext {w : World} {base g : Nat} {A : Option Addr} {cap : Nat} {es : List EV} {closed : Int} {next at' : Nat} (h : BAt X w base g A cap es closed next at') (n : Nat) : BAt X (w.setCell ⟨g, 2, none⟩ (.int .u64 n)) base g A cap es closed n at' :=
  ⟨by simp [World.setCell, Array.getElem?_modify, h.blk], h.base_le, h.rows.only ((OnlyAt.of_below (Below.refl _ _)).set 2 _)⟩

set_option maxHeartbeats 2000000 in
theorem number_open (base g : Nat) (A : Option Addr) (cap : Nat) (es : List EV) (closed : Int) (next at' : Nat) (e : EV) (lo hi : Nat) (vk vn : Int) (vf : Nat) (vs : ByteArray) (A' : Option Addr) (m c : Nat) (w : World) (hb : BAt X w base g A cap es 0 next at') (hl : es.length ≤ 1000000) (hbw : base ≤ w.heap.size)
    (hf : FieldsOk e) (hn : next + 1 < 18446744073709551616) (hv : Rep w lo hi e.v (vCells vk vn vf vs A' m c)) (hz : hi ≤ w.heap.size) (hg : g < lo ∨ hi ≤ g) (hrr : ∀ r, rowOf A = some r ∨ X r → r < lo ∨ hi ≤ r) (hgood : (withId e next).valid = true) (hkk : ¬ (9 ≤ e.k ∧ e.k ≤ 11)) :
    Calls Try.prog 35 #[.pointer (some ⟨g, 0, none⟩), .agg (evCells e vk vn vf vs A' m c)] w fun r w' => r = .returned (.int .u64 next) ∧ Numbered X w w' base g A es e 0 next at' := by
  obtain ⟨c0, c1, c2, c3, cf⟩ := hb.cells
  have hlt := hb.lt
  have hf' : FieldsOk (withId e next) := ⟨hf.k0, hf.k1, by show next < _; omega, hf.n0, hf.n1, hf.a1, hf.s1, hf.t1⟩
  have hE := fun W hW => evalid_later (withId e next) w lo hi vk vn vf vs A' m c hf' hv hz W hW
  rw [hgood] at hE
  have HBX : Hid (∀ W Z', Below (w.alloc Z').drew.heap.size (w.alloc Z').drew W → Z' = .cells #[.int .i64 e.k, .int .u64 next, .int .i64 e.n, .int .u64 e.at', .string e.name, .string e.text, .int .i64 vk, .int .i64 vn, .float .f64 vf, .string vs, .slice A' m c] 45 → Ev.EBox W w.heap.size #[.int .i64 e.k, .int .u64 next, .int .i64 e.n, .int .u64 e.at', .string e.name, .string e.text, .int .i64 vk, .int .i64 vn, .float .f64 vf, .string vs, .slice A' m c]) := Lib.hid fun W Z' hW hZ => by
    subst hZ
    exact Ev.EBox.later (w := (w.alloc (.cells #[.int .i64 e.k, .int .u64 next, .int .i64 e.n, .int .u64 e.at', .string e.name, .string e.text, .int .i64 vk, .int .i64 vn, .float .f64 vf, .string vs, .slice A' m c] 45)).drew) (heap_alloc_new w _) hW (by show w.heap.size < (w.alloc _).heap.size; simp)
  have hro : some w.heap.size ≠ rowOf A := by
    intro h
    obtain ⟨xs, h1, -, -⟩ := hb.rows
    rcases h1.2 with ⟨h2, -⟩ | ⟨r, cp, cur, q1, q2, q3, -⟩
    · rw [← rowOf_own A es.length cap, h2] at h; cases h
    · rw [← rowOf_own A es.length cap, q1] at h
      have := (Array.getElem?_eq_some_iff.1 q3).1
      have := Option.some.inj h
      simp only at this
      omega
  have hA : ∀ W, Below w.heap.size w W → Calls Try.prog 53 #[.pointer (some ⟨g, 0, none⟩), .agg (evCells (withId e next) vk vn vf vs A' m c)] W fun r w' => r = .returned (.bool true) ∧ Added X W w' base g A es (withId e next) 0 next at' := fun W hW => by
    have := add_open base g A cap es next at' (withId e next) lo hi vk vn vf vs A' m c W (hb.later hW) hl (Nat.le_trans hbw hW.size) hf' (hv.later (hW.mono hz)) (Nat.le_trans hz hW.size) hg hrr
    rwa [if_neg (by exact hkk)] at this
  clear cf hb hgood
  unfold evCells withId at hE
  unfold evCells
  replace hE := Lib.hid hE
  have HA : Hid (∀ W, Below w.heap.size w W → Calls Try.prog 53 #[.pointer (some ⟨g, 0, none⟩), .agg #[.int .i64 e.k, .int .u64 next, .int .i64 e.n, .int .u64 e.at', .string e.name, .string e.text, .int .i64 vk, .int .i64 vn, .float .f64 vf, .string vs, .slice A' m c]] W fun r w' => r = .returned (.bool true) ∧ Added X W w' base g A es (withId e next) 0 next at') := Lib.hid hA
  clear hA
  have HB0 := Lib.hid fun Z => ((Below.refl w.heap.size w).alloc (Nat.le_refl _) Z).drew
  have hwr : IntKind.u64.wrap ((next : Int) + 1) = ((next + 1 : Nat) : Int) := by rw [IntKind.wrap_u64]; omega
  go_enter Try.func35, Try.ntmps35
  go_wp2_with fail
  refine wp_region_any (by kernel_rfl) ?_
  change wpAny _ _ _ _ _ _ _ (World.drew _)
  refine wpAny_ready (rs := [0]) (by kernel_rfl) (by simp) ?_
  refine consA rfl (fun K hK => ?_) AllReady.nil
  go_simp
  refine hK _ _ ?_
  clear hK K
  try simp only [Act.put, List.setIfInBounds_toArray, List.set_cons_zero, List.set_cons_succ]
  refine wpAny_ready (rs := [1]) (by kernel_rfl) (by simp) ?_
  refine consA rfl (fun K hK => ?_) AllReady.nil
  go_simp
  refine (hE.out _ (HB0.out _)).mono ?_
  rintro x w2 ⟨rfl, hb2⟩
  have hbx := HBX.out w2 _ hb2 rfl
  obtain ⟨q0, q1, q2, q3, q4, q5, q6, q7, q8, q9, q10⟩ := hbx.cells
  have hlt2 := hbx.lt
  replace hbx := Lib.hid hbx
  have HB2 := Lib.hid ((HB0.out _).trans (hb2.mono (HB0.out _).size))
  clear hb2
  go_wp2_with fail
  try simp only [Act.put, List.setIfInBounds_toArray, List.set_cons_zero, List.set_cons_succ]
  refine takeA (i := 2) (v := ?_) rfl (by kernel_rfl) (by kernel_rfl) (by kernel_rfl) (fun _ _ _ h => h) (Or.inl ⟨by rfl, ?_⟩) ?_
  rotate_left 1
  focus (intro w; go_simp; try with_reducible rfl)
  try simp only [Act.put, List.setIfInBounds_toArray, List.set_cons_zero, List.set_cons_succ]
  refine takeA (i := 3) (v := ?_) rfl (by kernel_rfl) (by kernel_rfl) (by kernel_rfl) (fun _ _ _ h => h) (Or.inl ⟨by rfl, ?_⟩) ?_
  rotate_left 1
  focus (intro w; go_simp; try with_reducible rfl)
  try simp only [Act.put, List.setIfInBounds_toArray, List.set_cons_zero, List.set_cons_succ]
  refine takeA (i := 4) (v := ?_) rfl (by kernel_rfl) (by kernel_rfl) (by kernel_rfl) (fun _ _ _ h => h) (Or.inl ⟨by rfl, ?_⟩) ?_
  rotate_left 1
  focus (intro w; go_simp; try with_reducible rfl)
  try simp only [Act.put, List.setIfInBounds_toArray, List.set_cons_zero, List.set_cons_succ]
  refine takeA (i := 5) (v := ?_) rfl (by kernel_rfl) (by kernel_rfl) (by kernel_rfl) (fun _ _ _ h => h) (Or.inl ⟨by rfl, ?_⟩) ?_
  rotate_left 1
  focus (intro w; go_simp; try with_reducible rfl)
  try simp only [Act.put, List.setIfInBounds_toArray, List.set_cons_zero, List.set_cons_succ]
  refine takeA (i := 6) (v := ?_) rfl (by kernel_rfl) (by kernel_rfl) (by kernel_rfl) (fun _ _ _ h => h) (Or.inl ⟨by rfl, ?_⟩) ?_
  rotate_left 1
  focus (intro w; go_simp; try with_reducible rfl)
  try simp only [Act.put, List.setIfInBounds_toArray, List.set_cons_zero, List.set_cons_succ]
  refine wpAny_ready (rs := [7]) (by kernel_rfl) (by simp) ?_
  refine consA rfl (fun K hK => ?_) AllReady.nil
  go_simp
  refine hK _ _ ?_
  clear hK K
  try simp only [Act.put, List.setIfInBounds_toArray, List.set_cons_zero, List.set_cons_succ]
  refine wpAny_ready (rs := [8]) (by kernel_rfl) (by simp) ?_
  refine consA rfl (fun K hK => ?_) AllReady.nil
  go_simp
  refine (HA.out _ HB2.out).mono ?_
  rintro x w3 ⟨rfl, r, cap3, hb3, ho3, hr3⟩
  obtain ⟨z0, z1, z2, z3, zf⟩ := hb3.cells
  have zf2 := zf 2
  have hid3 : w3.cell? ⟨w.heap.size, 1, none⟩ = some (.int .u64 next) := (World.cell?_of_block (a := ⟨w.heap.size, 1, none⟩) (ho3.block _ hlt2 (by show w.heap.size ≠ g; omega) hro)).trans q1
  have HO3 := Lib.hid ho3
  have HB3 := Lib.hid hb3
  clear ho3 hb3 zf q0 q1 q2 q3 q4 q5 q6 q7 q8 q9 q10
  go_wp2_with fail
  try simp only [Act.put, List.setIfInBounds_toArray, List.set_cons_zero, List.set_cons_succ]
  refine takeA (i := 9) (v := ?_) rfl (by kernel_rfl) (by kernel_rfl) (by kernel_rfl) (fun _ _ _ h => h) (Or.inl ⟨by rfl, ?_⟩) ?_
  rotate_left 1
  focus (intro w; go_simp; try with_reducible rfl)
  try simp only [Act.put, List.setIfInBounds_toArray, List.set_cons_zero, List.set_cons_succ]
  refine takeA (i := 10) (v := ?_) rfl (by kernel_rfl) (by kernel_rfl) (by kernel_rfl) (fun _ _ _ h => h) (Or.inl ⟨by rfl, ?_⟩) ?_
  rotate_left 1
  focus (intro w; go_simp; try with_reducible rfl)
  try simp only [Act.put, List.setIfInBounds_toArray, List.set_cons_zero, List.set_cons_succ]
  refine wpAny_done (by kernel_rfl) ?_ _
  go_wp2_with fail
  go_ret
  refine ⟨rfl, r, cap3, ?_, ?_, ?_⟩
  · exact HB3.out.setNext (next + 1)
  · exact ((OnlyAt.of_below HB2.out).trans HO3.out).set _ _
  · exact hr3.imp id (fun h => Nat.le_trans HB2.out.size h)
end Cm
end Go.Proofs.Ytpnepnhajpmccaa
