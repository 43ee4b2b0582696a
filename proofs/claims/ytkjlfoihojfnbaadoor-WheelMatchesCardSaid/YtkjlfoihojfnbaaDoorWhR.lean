/- One wheel beside the reference's: the state of a walk; ticks that came in. -/
import Derived.Test.YtkjlfoihojfnbaaDoorWhQ
import Derived.ChangeMaps5
import Derived.ChangeArms
import Derived.Deep.Draws
import Derived.ProofKit
import Derived.OpenShut
import Derived.Laws.Cover2
import Derived.Lib.SmallJoins
import Derived.Lib.LaidTab
import Derived.LaidSub
namespace Go.Proofs.YtkjlfoihojfnbaaDoor
open Go.RowKit
set_option linter.unusedVariables false
set_option linter.unusedSimpArgs false
namespace Wh
open Lo (IRow KB Lies LiesO below_drew bef bef_iff Deb)
variable {base b bx nw nm t : Nat} {w w' w0 wr : World} {T TW : List (Nat × Nat)} {v : Value} {S S' : Nat → Prop}
/-- A wheel at b with TW; the reference's in the box bx with T. -/
structure W1St (base : Nat) (w0 wr : World) (b bx nw : Nat) (TW : List (Nat × Nat)) (nm : Nat) (T : List (Nat × Nat)) (v : Value) : Prop where
  ex : ∃ S, Whl base wr b nw TW S ∧ (∀ g, v.ownBlock = some g → ¬ S g) ∧ ¬ S bx ∧ ∀ g, S g → base ≤ g
  row : IRow 29 wr base v T
  vb : ∀ g, v.ownBlock = some g → g ≠ bx
  box : wr.heap[bx]? = some (.cells #[.int .u64 (nm : Nat), v] 49 (0, 0))
  bel : Below base w0 wr
  hw : base ≤ wr.heap.size
  hw0 : base ≤ w0.heap.size
  hbx : base ≤ bx
  dg : 0 < base
  deb : Deb w0
theorem W1St.debw (h : W1St base w0 wr b bx nw TW nm T v) : Deb wr := deb_ge h.deb h.dg h.bel h.hw0
theorem W1St.later (h : W1St base w0 wr b bx nw TW nm T v) (hb : Below wr.heap.size wr w') : W1St base w0 w' b bx nw TW nm T v := by
  obtain ⟨S, h1, h2, h3, h4⟩ := h.ex
  exact ⟨⟨S, h1.later hb, h2, h3, h4⟩, h.row.later hb, h.vb, boxB h.box hb, h.bel.trans (hb.mono h.hw), Nat.le_trans h.hw hb.size, h.hw0, h.hbx, h.dg, h.deb⟩
/-- What stays behind a change of the wheel. -/
theorem W1St.turn (h : W1St base w0 wr b bx nw TW nm T v) {nw' : Nat} {TW' : List (Nat × Nat)} {S S' : Nat → Prop} (hS : (∀ g, v.ownBlock = some g → ¬ S g) ∧ ¬ S bx ∧ ∀ g, S g → base ≤ g) (hw' : Whl base w' b nw' TW' S') (hs' : ∀ g, S' g → grown S wr g) (kb : KB wr w' S) : W1St base w0 w' b bx nw' TW' nm T v := by
  have hbxl : bx < wr.heap.size := (Array.getElem?_eq_some_iff.1 h.box).1
  refine ⟨⟨S', hw', fun g hg e => ?_, fun e => ?_, fun g hg => grown_ge hS.2.2 h.hw g (hs' g hg)⟩, h.row.keepKB kb hS.1, h.vb, (kb.block bx hbxl hS.2.1).trans h.box, h.bel.trans (kb.below h.hw hS.2.2), Nat.le_trans h.hw kb.size, h.hw0, h.hbx, h.dg, h.deb⟩
  · rcases hs' g e with e | e
    · exact hS.1 g hg e
    · have := (h.row.lt g hg).2; omega
  · rcases hs' bx e with e | e
    · exact hS.2.1 e
    · omega
theorem W1St.sched (h : W1St base w0 wr b bx nw TW nm T v) (x : Nat × Nat) (hid : x.1 < 18446744073709551616) (ha : x.2 ≤ 9223372036854775807) (hh : hasId TW x.1 = false) (hT : TW.length ≤ 900) :
    Calls Tryd.prog 26 #[.pointer (some ⟨b, 0, none⟩), .int .u64 (x.1 : Nat), .int .u64 (x.2 : Nat)] wr fun e w' => e = .returned (.int .i64 0) ∧ W1St base w0 w' b bx nw (insT TW x) nm T v := by
  obtain ⟨S, h1, h2⟩ := h.ex
  exact (sched_ok x h1 hid ha hh h.hw hT).mono fun e w' ⟨he, hw', kb⟩ => ⟨he, h.turn h2 hw' (fun g e => e) kb⟩
theorem W1St.adv (h : W1St base w0 wr b bx nw TW nm T v) (hnt : nw ≤ t) (ht : t ≤ 9223372036854775807) (hT : TW.length ≤ 1000) :
    Calls Tryd.prog 28 #[.pointer (some ⟨b, 0, none⟩), .int .u64 (t : Nat)] wr fun e w' => ∃ u, e = .returned (.tuple #[u, .int .i64 0]) ∧ Lies w' u (dueT TW t) ∧ (∀ g, u.ownBlock = some g → g ≠ bx) ∧ W1St base w0 w' b bx t (restT TW t) nm T v := by
  obtain ⟨S, h1, h2⟩ := h.ex
  have hbxl : bx < wr.heap.size := (Array.getElem?_eq_some_iff.1 h.box).1
  refine (adv_ok h1 hnt ht h.debw h.dg h.hw hT).mono fun e w' ⟨u, he, hli, hu, hw', kb⟩ => ⟨u, he, hli, fun g hg e => ?_, h.turn h2 hw' (fun g e => e.1) kb⟩
  subst e
  rcases hu g hg with e | e
  · exact h2.2.1 e
  · omega
/-- The reference's wheel is stored. -/
theorem W1St.store (h : W1St base w0 wr b bx nw TW nm T v) {nm' : Nat} {T' : List (Nat × Nat)} {v' : Value} {n : Nat} (row : IRow 29 wr n v' T') (hn : base ≤ n) (hnb : bx < n) (hS : ∀ S g, Whl base wr b nw TW S → ¬ S bx → (∀ g, v.ownBlock = some g → ¬ S g) → v'.ownBlock = some g → ¬ S g) :
    W1St base w0 ((wr.setCell ⟨bx, 0, none⟩ (.int .u64 (nm' : Nat))).setCell ⟨bx, 1, none⟩ v') b bx nw TW nm' T' v' := by
  obtain ⟨S, h1, h2, h3, h4⟩ := h.ex
  have kb : KB wr ((wr.setCell ⟨bx, 0, none⟩ (.int .u64 (nm' : Nat))).setCell ⟨bx, 1, none⟩ v') (fun g => g = bx) := (kb_set wr bx 0 _).trans (kb_set _ bx 1 _) (fun j _ e => e)
  have hv : ∀ g, v'.ownBlock = some g → g ≠ bx := fun g hg e => by have := (row.lt g hg).1; omega
  refine ⟨⟨S, h1.keep kb (fun g hg e => h3 (e ▸ hg)), fun g hg => hS S g h1 h3 h2 hg, h3, h4⟩, (row.keepKB kb hv).base_le hn, hv, ?_, h.bel.trans (kb.below h.hw (fun g e => by rw [e]; exact h.hbx)), Nat.le_trans h.hw kb.size, h.hw0, h.hbx, h.dg, h.deb⟩
  exact blk_set (blk_set h.box rfl) rfl
/-- .. with a list in new memory. -/
theorem W1St.stored (h : W1St base w0 wr b bx nw TW nm T v) {w1 : World} (hb : Below wr.heap.size wr w1) {nm' : Nat} {T' : List (Nat × Nat)} {v' : Value} (row : IRow 29 w1 wr.heap.size v' T') {W : World} (hW : Below w1.heap.size w1 W) :
    W1St base w0 ((W.setCell ⟨bx, 0, none⟩ (.int .u64 (nm' : Nat))).setCell ⟨bx, 1, none⟩ v') b bx nw TW nm' T' v' := by
  have hbxl : bx < wr.heap.size := (Array.getElem?_eq_some_iff.1 h.box).1
  obtain ⟨S, h1, h2, h3, h4⟩ := h.ex
  have hbW : Below wr.heap.size wr W := hb.trans (hW.mono hb.size)
  have hlt : ∀ g, S g → g < wr.heap.size → True := fun _ _ _ => trivial
  -- S may be taken below the memory that there was
  let S1 : Nat → Prop := fun g => S g ∧ g < wr.heap.size
  have h1' : Whl base wr b nw TW S1 := by
    obtain ⟨V, L, D, F, g1, g2, g3⟩ := h1.ex
    exact ⟨⟨V, L, D, F, g1, g2, fun g hg => ⟨g3 g hg, g1.lt g hg⟩⟩, h1.ids, h1.sm, h1.nowm, h1.sorted⟩
  have kb : KB W ((W.setCell ⟨bx, 0, none⟩ (.int .u64 (nm' : Nat))).setCell ⟨bx, 1, none⟩ v') (fun g => g = bx) := (kb_set W bx 0 _).trans (kb_set _ bx 1 _) (fun j _ e => e)
  have hv : ∀ g, v'.ownBlock = some g → g ≠ bx := fun g hg e => by have := (row.lt g hg).1; omega
  have hwW : base ≤ W.heap.size := Nat.le_trans h.hw hbW.size
  refine ⟨⟨S1, (h1'.later hbW).keep kb (fun g hg e => h3 (e ▸ hg.1)), fun g hg e => by have := (row.lt g hg).1; have := e.2; omega, fun e => h3 e.1, fun g e => h4 g e.1⟩, ((row.later hW).keepKB kb hv).base_le h.hw, hv, ?_, (h.bel.trans (hbW.mono h.hw)).trans (kb.below hwW (fun g e => by rw [e]; exact h.hbx)), Nat.le_trans hwW kb.size, h.hw0, h.hbx, h.dg, h.deb⟩
  exact blk_set (blk_set (boxB h.box hbW) rfl) rfl
theorem W1St.count (h : W1St base w0 wr b bx nw TW nm T v) : Calls Tryd.prog 30 #[.pointer (some ⟨b, 0, none⟩)] wr fun e w' => e = .returned (.int .i64 (TW.length : Nat)) ∧ wr = w' := by
  obtain ⟨S, h1, -⟩ := h.ex
  exact wcount_any h1
/-- Ticks that came in. -/
def TicksIn (w : World) (A : Option Addr) (cap : Nat) (l : List Nat) : Prop := l.length ≤ cap ∧ (∀ x ∈ l, x < 18446744073709551616) ∧
  ∀ (j : Nat) (hj : j < l.length), ∃ g o, A = some ⟨g, o, none⟩ ∧ g < w.heap.size ∧ w.cell? ⟨g, o + j, none⟩ = some (.int .u64 (l[j] : Nat))
open Go.ChangeShapes Go.WideShapes Go.ChangeAt Go.Joins Go.Deep in
set_option maxRecDepth 100000 in
theorem ticks_open {H : Type} {enc : TypeId × Value → H} {base b1 : Nat} {spare : Nat → Bool} {held : Bool} {d : DataW H} {p : List MemPlace} (v : Value) (W : World)
    (o : Value.okWide Tryd.prog W .any base 45 v) (k : DataW.Trod enc Tryd.prog W b1 spare held 45 v d p) :
    ∃ l A cap, v = .slice A l.length cap ∧ TicksIn W A cap l ∧ l.length ≤ 9223372036854775807 := by
  have hC : Tryd.prog.cellsOf 27 = 1 := by kernel_rfl
  obtain ⟨a0, l0, cp0, rfl⟩ := okWide_slice Tryd.underlying45 o
  obtain ⟨fuel, hf⟩ := k
  have hcs : (Value.slice a0 l0 cp0).cells.toList = [.slice a0 l0 cp0] := rfl
  rw [hcs] at hf
  rcases DataW.trod_slice Tryd.underlying45 hf with ⟨e4, -⟩ | ⟨a, len, cap, elems, rest, n', hn', e4, -, hb, hl, hm, hel, he, -, -⟩
  · injection List.singleton_inj.1 e4 with q1 q2 q3
    subst q1 q2 q3
    exact ⟨[], none, 0, rfl, ⟨Nat.le_refl _, fun x hx => by simp at hx, fun j hj => by simp at hj⟩, by simp⟩
  · injection List.singleton_inj.1 e4 with q1 q2 q3
    subst q1 q2 q3
    have h4 : ∀ i : Nat, ∃ x : Nat, i < l0 → x < 18446744073709551616 ∧ W.cell? (a.add i) = some (.int .u64 (x : Nat)) := fun i => by
      by_cases hi : i < l0
      · have e := he i hi
        rw [List.getElem?_eq_getElem (by omega)] at e
        obtain ⟨cs', q1, q2⟩ := Option.bind_eq_some_iff.1 e
        rw [hC] at q1
        obtain ⟨_, ql, qc⟩ := World.cells?_some q1
        obtain ⟨k, e0, -, w0⟩ := DataW.trod_int Tryd.underlying27 q2
        simp [Lit.wf, IntKind.min, IntKind.max, IntKind.bits, IntKind.signed] at w0
        have q0 := qc 0 (by omega)
        rw [e0] at q0
        refine ⟨k.toNat, fun _ => ⟨by omega, ?_⟩⟩
        rw [Nat.mul_one, Go.Deep.add_add, Nat.add_zero] at q0
        rw [q0, Int.toNat_of_nonneg w0.1]; rfl
      · exact ⟨0, fun h => absurd h hi⟩
    obtain ⟨F, hF⟩ := Classical.axiomOfChoice h4
    have hlen' : ((List.range l0).map F).length = l0 := by simp
    refine ⟨(List.range l0).map F, some a, cp0, by rw [hlen'], ⟨by rw [hlen']; exact hl, fun x hx => ?_, fun i hi => ?_⟩, by rw [hlen']; simp only [maxLen] at hm; omega⟩
    · obtain ⟨i, hi, rfl⟩ := List.mem_map.1 hx
      exact (hF i (List.mem_range.1 hi)).1
    · rw [hlen'] at hi
      have h0 := (hF 0 (by omega)).2
      obtain ⟨b, off, spot⟩ := a
      have hs : spot = none := by
        cases spot with
        | none => rfl
        | some q =>
          simp [Addr.add, World.cell?] at h0
          split at h0 <;> simp at h0
      subst hs
      have hlt : b < W.heap.size := by
        rcases Nat.lt_or_ge b W.heap.size with q | q
        · exact q
        · simp [Addr.add, World.cell?, Array.getElem?_eq_none q] at h0
      have c0 := (hF i hi).2
      rw [add_plain] at c0
      exact ⟨b, off, rfl, hlt, by simpa using c0⟩
end Wh
end Go.Proofs.YtkjlfoihojfnbaaDoor
