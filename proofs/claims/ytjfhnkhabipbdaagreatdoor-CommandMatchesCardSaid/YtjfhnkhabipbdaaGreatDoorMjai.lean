/- The package of statements: alive; what is valid. -/
/- Lists of events that are read; lists of the reference's builder. -/
/- Contracts: the reference's Same of events and of lists of events. -/
/- Contracts: event.Same, command.Match. -/
/- Contracts of the reference's fields and has. -/
/- Rows of events of the call's own whose values lie anywhere; the reference's Commands; boxes of batches. -/
/- Contracts: the reference's Clone of a batch; batch.copied and batch.mapped of it. -/
/- Contracts: event.Outside; slices.IndexFunc of events by whatever question; batch.Clone. -/
/- Contracts: batch.Valid. -/
/- Events, lists of events and batches that came in, opened. -/
import Derived.Laws.Rows
import Derived.Laws.IdiomRangeMap
import Derived.Test.YtjfhnkhabipbdaaGreatDoorMjah
import Derived.Test.YtjfhnkhabipbdaaGreatDoorMjac
import Derived.Test.YtjfhnkhabipbdaaGreatDoorMjab
import Derived.Test.YtjfhnkhabipbdaaGreatDoorMjaf
import Derived.StillTailTactics
import Derived.Deep.CutRange
import Derived.ChangeMaps5
import Derived.ChangeArms
import Derived.Deep.Draws
import Derived.ProofKit
import Derived.OpenShut
import Derived.Lib.SmallJoins
import Derived.SizedLaws
namespace Go.Proofs.YtjfhnkhabipbdaaGreatDoor
open Go.RowKit
set_option linter.unusedVariables false
namespace Cm
variable {X : Nat → Prop}
open Nm (ret_int ret_bool)
open Vt (VT Rep BoxAt below_drew Cloned put5)
open Ev (EV FieldsOk evCells vCells EBox ERep zeroT)

theorem zero_same : VT.same zeroT zeroT = true := by
  unfold zeroT
  rw [Vt.same_mk]
  simp
theorem arm_valid (n k : Nat) (hk : 0 < k) (hn : n ≤ 9223372036854775807) : (withId (armE n) k).valid = true := by
  simp [Ev.EV.valid, armE, withId, Ev.goodL, Ev.fieldsOf, Ev.pickB, hk, hn, zero_same]
/-- The cells of element j of a list of events. -/
theorem evs_cells {w : World} {base : Nat} {A : Option Addr} {cap n : Nat} {es : List EV} (h : EvsAt w base A cap n es) (j : Nat) (hj : j < es.length) :
    ∃ r lo hi vk vn vf vs A' m c, A = some ⟨r, 0, none⟩ ∧ r < w.heap.size ∧ base ≤ r ∧ base ≤ lo ∧ (r < lo ∨ hi ≤ r) ∧ (0 < es[j].v.l.length → ∀ b off, A' = some ⟨b, off, none⟩ → ∀ o, w.frozen? ⟨b, o, none⟩ = false) ∧ FieldsOk es[j] ∧ Rep w lo hi es[j].v (vCells vk vn vf vs A' m c) ∧ hi ≤ w.heap.size ∧ n ≤ cap ∧ cap ≤ maxLen ∧ ∀ q, q < 11 → w.cell? ⟨r, j * 11 + q, none⟩ = (evCells es[j] vk vn vf vs A' m c)[q]? := by
  obtain ⟨h0, xs, h1, h3⟩ := h
  obtain ⟨lo, hi, vk, vn, vf, vs, A', m, c, p0, p1, p2, p3, p5, pf, p6⟩ := h3 j hj
  rcases h1.2 with ⟨-, h0'⟩ | ⟨r, cp, cur, q1, q2, q3, q4, q5, q6, q7⟩
  · omega
  · injection q1 with q1 _ q1'
    subst q1'
    refine ⟨r, lo, hi, vk, vn, vf, vs, A', m, c, q1, (Array.getElem?_eq_some_iff.1 q3).1, q2, p0, p5 r (by rw [q1]; rfl), pf, p1, p2, p3, q4, q5, fun q hq => ?_⟩
    rw [← p6 q hq, ← q7, List.getElem?_take_of_lt (by omega), Array.getElem?_toList]
    simp [World.cell?, q3]

theorem events_any (base g : Nat) (A : Option Addr) (s : BS) (w : World) (hb : BH X w base g A s) (hl : s.es.length ≤ 1000000) (hS : ∀ i (h : i < s.es.length), s.es[i].v.Slim 900) :
    Calls Tryz.prog 12 #[.pointer (some ⟨g, 0, none⟩)] w fun r w' => ∃ A2 cap2, r = .returned (.slice A2 s.es.length cap2) ∧ Below w.heap.size w w' ∧ EvsAt w' w.heap.size A2 cap2 s.es.length s.es :=
  hb.elim fun cap hb => events_walk base g A cap s.es s.closed s.next s.at' w hb hl hS

theorem zero_slim : VT.Slim 900 zeroT := by
  unfold zeroT
  rw [Vt.slim_mk]
  exact ⟨Nat.zero_le _, Nat.zero_le _, fun i h => absurd h (by simp)⟩

theorem bs_arm : (BS.number ⟨[], 0, 4, 10⟩ (armE (Nm.addW 10 5))) = (⟨[withId (armE 15) 4], 0, 5, 10⟩, 4) := by
  have h : Nm.addW 10 5 = 15 := by decide
  rw [h, BS.number, if_pos ⟨arm_valid 15 4 (by omega) (by omega), rfl⟩]
  rfl

set_option maxHeartbeats 1000000 in
theorem alive_any (w : World) : Calls Tryz.prog 4 #[] w fun r w' => r = .returned (.bool true) ∧ Below w.heap.size w w' := by
  have hN := Lib.hid (new_any (X := fun _ => False) 4 10 (by omega) (by omega) w)
  go_enter Tryz.func4, Tryz.ntmps4
  go_wp2_with fail
  refine hN.out.mono ?_
  rintro x w1 ⟨rfl, hb, hb1⟩
  have hz1 := hb1.size
  have hA := Lib.hid (arm_any w.heap.size w.heap.size none ⟨[], 0, 4, 10⟩ 5 (by omega) w1 ⟨0, hb⟩ (by simp) hz1 (by simp) (by simp))
  rw [bs_arm] at hA
  have HB1 := Lib.hid hb1
  clear hb hb1
  go_wp2_with fail
  refine hA.out.mono ?_
  rintro x w2 ⟨rfl, A2, hb2, ho2, -⟩
  have hE := Lib.hid (events_any w.heap.size w.heap.size A2 ⟨[withId (armE 15) 4], 0, 5, 10⟩ w2 hb2 (by simp) (by intro i h; simp at h; subst h; exact zero_slim))
  have HB2 : Hid (Below w.heap.size w w2) := Lib.hid (HB1.out.trans (ho2.below (Nat.le_refl _) (by intro r hr; cases hr) hz1))
  clear hb2 ho2
  go_wp2_with fail
  refine hE.out.mono ?_
  rintro x w3 ⟨A3, cap3, rfl, hb3, hev⟩
  obtain ⟨r, lo, hi, vk, vn, vf, vs, A', m, c, rfl, hr, -, -, -, -, -, -, -, hcap, hcm, hcs⟩ := evs_cells hev 0 (by simp)
  have c3 := hcs 3 (by omega)
  simp [evCells, withId, armE] at c3
  simp at hcap
  have HB3 := Lib.hid (HB2.out.trans (hb3.mono HB2.out.size))
  clear hcs hev hb3
  go_wp2_with fail
  go_ret
  exact ⟨rfl, HB3.out⟩
end Cm
end Go.Proofs.YtjfhnkhabipbdaaGreatDoor
namespace Go.Proofs.YtjfhnkhabipbdaaGreatDoor
open Go.RowKit
set_option linter.unusedVariables false
namespace Cm
variable {X : Nat → Prop}
open Nm (ret_int ret_bool)
open Vt (VT Rep BoxAt below_drew Cloned put5)
open Ev (EV FieldsOk evCells vCells EBox ERep zeroT)

/-- Two events are the same. -/
def evSame (a b : EV) : Bool := a.k == b.k && a.id == b.id && a.n == b.n && a.at' == b.at' && decide (a.name = b.name) && decide (a.text = b.text) && a.v.same b.v
theorem evSame_refl (a : EV) : evSame a a = true := by simp [evSame, Vt.same_refl]

/-- A list of events that can be read. -/
structure EvsIn (w : World) (A : Option Addr) (cap : Nat) (es : List EV) : Prop where
  le : es.length ≤ cap
  cap_le : cap ≤ maxLen
  at_ : 0 < es.length → ∃ b off, A = some ⟨b, off, none⟩ ∧ b < w.heap.size ∧ ∀ i (h : i < es.length), ∃ lo hi vk vn vf vs A' m c, FieldsOk es[i] ∧ Rep w lo hi es[i].v (vCells vk vn vf vs A' m c) ∧ hi ≤ w.heap.size ∧
    ∀ q, q < 11 → w.cell? ⟨b, off + i * 11 + q, none⟩ = (evCells es[i] vk vn vf vs A' m c)[q]?

theorem EvsIn.later {w w' : World} {A : Option Addr} {cap : Nat} {es : List EV} (h : EvsIn w A cap es) (hb : Below w.heap.size w w') : EvsIn w' A cap es := ⟨h.le, h.cap_le, fun hp => by
  obtain ⟨b, off, hA, hlt, h3⟩ := h.at_ hp
  refine ⟨b, off, hA, Nat.lt_of_lt_of_le hlt hb.size, fun i hi => ?_⟩
  obtain ⟨lo, hi', vk, vn, vf, vs, A', m, c, h4, h5, h6, h7⟩ := h3 i hi
  exact ⟨lo, hi', vk, vn, vf, vs, A', m, c, h4, h5.later (hb.mono h6), Nat.le_trans h6 hb.size, fun q hq => (hb.cell (p := ⟨b, _, none⟩) hlt).trans (h7 q hq)⟩⟩

/-- A list of the reference's builder: its row is its own, the values are those that came in. -/
structure MAt (w : World) (base : Nat) (A : Option Addr) (cap : Nat) (es : List EV) : Prop where
  nil_ : es = [] → A = none ∧ cap = 0
  le : es.length ≤ cap
  cap_le : cap ≤ maxLen
  at_ : 0 < es.length → ∃ b, A = some ⟨b, 0, none⟩ ∧ base ≤ b ∧ b < w.heap.size ∧ ∀ i (h : i < es.length), ∃ vk vn vf vs A' m c, FieldsOk es[i] ∧ Rep w 0 base es[i].v (vCells vk vn vf vs A' m c) ∧
    ∀ q, q < 11 → w.cell? ⟨b, i * 11 + q, none⟩ = (evCells es[i] vk vn vf vs A' m c)[q]?

theorem MAt.nil (w : World) (base : Nat) : MAt w base none 0 [] := ⟨fun _ => ⟨rfl, rfl⟩, Nat.le_refl _, Nat.zero_le _, fun h => absurd h (by simp)⟩
theorem MAt.later {w w' : World} {base : Nat} {A : Option Addr} {cap : Nat} {es : List EV} (h : MAt w base A cap es) (hbs : base ≤ w.heap.size) (hb : Below w.heap.size w w') : MAt w' base A cap es := ⟨h.nil_, h.le, h.cap_le, fun hp => by
  obtain ⟨b, rfl, h1, h2, h3⟩ := h.at_ hp
  refine ⟨b, rfl, h1, Nat.lt_of_lt_of_le h2 hb.size, fun i hi => ?_⟩
  obtain ⟨vk, vn, vf, vs, A', m, c, h4, h5, h7⟩ := h3 i hi
  exact ⟨vk, vn, vf, vs, A', m, c, h4, h5.later (hb.mono hbs), fun q hq => (World.cell?_of_block (a := ⟨b, _, none⟩) (hb.block b h2)).trans (h7 q hq)⟩⟩
/-! ### A builder under what others do -/
theorem BH.lt {w : World} {base g : Nat} {A : Option Addr} {s : BS} (h : BH X w base g A s) : g < w.heap.size ∧ base ≤ g := h.elim fun cap h => ⟨h.lt, h.base_le⟩
end Cm
end Go.Proofs.YtjfhnkhabipbdaaGreatDoor
namespace Go.Proofs.YtjfhnkhabipbdaaGreatDoor
open Go.RowKit
set_option linter.unusedVariables false
namespace Cm
open Nm (bitsW ret_int ret_bool)
open Vt (VT Rep BoxAt below_drew Cloned put5 toList_inj)
open Ev (EV FieldsOk evCells vCells EBox ERep zeroT)

/-- What Same asks of two events' own fields. -/
def HeadE (a b : EV) : Prop := a.k = b.k ∧ a.id = b.id ∧ a.n = b.n ∧ a.at' = b.at' ∧ a.name = b.name ∧ a.text = b.text
theorem evSame_head {a b : EV} (h : HeadE a b) : evSame a b = a.v.same b.v := by
  obtain ⟨h1, h2, h3, h4, h5, h6⟩ := h
  simp [evSame, h1, h2, h3, h4, h5, h6]
theorem evSame_not {a b : EV} (h : ¬ HeadE a b) : evSame a b = false := by
  rw [Bool.eq_false_iff]
  intro q
  simp [evSame] at q
  exact h ⟨q.1.1.1.1.1.1, q.1.1.1.1.1.2, q.1.1.1.1.2, q.1.1.1.2, q.1.1.2, q.1.2⟩

set_option maxRecDepth 100000 in
set_option maxHeartbeats 2000000 in
theorem rsev_any (a b : EV) (w : World) (lo hi lo' hi' : Nat) (x y : Value) (hR : ERep w lo hi a x) (hz : hi ≤ w.heap.size) (hR' : ERep w lo' hi' b y) (hz' : hi' ≤ w.heap.size) :
    Calls Tryz.prog 15 #[x, y] w fun r w' => r = .returned (.bool (evSame a b)) ∧ Below w.heap.size w w' := by
  obtain ⟨hf, vk, vn, vf, vs, A, m, c, rfl, hv⟩ := hR
  obtain ⟨hf', vk', vn', vf', vs', A', m', c', rfl, hv'⟩ := hR'
  have HB0 := Lib.hid fun Z Z' => ((Below.refl w.heap.size w).alloc (Nat.le_refl _) Z).alloc (by simp) Z'
  have HS := Lib.hid fun W (hW : Below w.heap.size w W) => Vt.rsame_any a.v b.v W lo hi lo' hi' _ _ (hv.later (hW.mono hz)) (Nat.le_trans hz hW.size) (hv'.later (hW.mono hz')) (Nat.le_trans hz' hW.size)
  clear hv hv' hf hf'
  obtain ⟨k, id, n, at', name, text, v⟩ := a
  obtain ⟨k', id', n', at'', name', text', v'⟩ := b
  unfold vCells at HS
  simp only at HS
  by_cases hh : HeadE ⟨k, id, n, at', name, text, v⟩ ⟨k', id', n', at'', name', text', v'⟩
  · rw [evSame_head hh]
    obtain ⟨h1, h2, h3, h4, h5, h6⟩ := hh
    simp only at h1 h2 h3 h4 h5 h6
    subst h1 h2 h3 h4 h5 h6
    unfold evCells
    go_enter Tryz.func15, Tryz.ntmps15
    go_wp2_with fail
    refine (HS.out _ (HB0.out _ _)).mono ?_
    rintro e w1 ⟨rfl, hb⟩
    have HB1 := Lib.hid ((HB0.out _ _).trans (hb.mono (HB0.out _ _).size))
    clear hb
    go_wp2_with fail
    go_ret
    exact ⟨ret_bool (by simp), HB1.out⟩
  · rw [evSame_not hh]
    have H := Lib.hid hh; clear hh
    unfold evCells
    go_enter Tryz.func15, Tryz.ntmps15
    go_wp2_with fail
    all_goals first
      | (go_ret; exact ⟨rfl, HB0.out _ _⟩)
      | (exfalso
         refine H.out ⟨?_, ?_, ?_, ?_, ?_, ?_⟩
         all_goals clear H HS HB0
         all_goals first
           | assumption
           | (exact (toList_inj _ _).1 (by assumption))
           | omega
           | (simp at *; omega))

/-- The cells of a list that is read. -/
theorem EvsIn.get {w : World} {A : Option Addr} {cap : Nat} {es : List EV} (h : EvsIn w A cap es) (i : Nat) (hi : i < es.length) :
    ∃ b off lo hi vk vn vf vs A' m c, A = some ⟨b, off, none⟩ ∧ b < w.heap.size ∧ FieldsOk es[i] ∧ Rep w lo hi es[i].v (vCells vk vn vf vs A' m c) ∧ hi ≤ w.heap.size ∧
      w.cell? ⟨b, off + i * 11, none⟩ = some (.int .i64 es[i].k) ∧ w.cell? ⟨b, off + i * 11 + 1, none⟩ = some (.int .u64 es[i].id) ∧ w.cell? ⟨b, off + i * 11 + 2, none⟩ = some (.int .i64 es[i].n) ∧ w.cell? ⟨b, off + i * 11 + 3, none⟩ = some (.int .u64 es[i].at') ∧
      w.cell? ⟨b, off + i * 11 + 4, none⟩ = some (.string es[i].name) ∧ w.cell? ⟨b, off + i * 11 + 5, none⟩ = some (.string es[i].text) ∧ w.cell? ⟨b, off + i * 11 + 6, none⟩ = some (.int .i64 vk) ∧ w.cell? ⟨b, off + i * 11 + 7, none⟩ = some (.int .i64 vn) ∧
      w.cell? ⟨b, off + i * 11 + 8, none⟩ = some (.float .f64 vf) ∧ w.cell? ⟨b, off + i * 11 + 9, none⟩ = some (.string vs) ∧ w.cell? ⟨b, off + i * 11 + 10, none⟩ = some (.slice A' m c) := by
  obtain ⟨b, off, hA, hlt, h3⟩ := h.at_ (by omega)
  obtain ⟨lo, hi', vk, vn, vf, vs, A', m, c, h4, h5, h6, h7⟩ := h3 i hi
  exact ⟨b, off, lo, hi', vk, vn, vf, vs, A', m, c, hA, hlt, h4, h5, h6, h7 0 (by omega), h7 1 (by omega), h7 2 (by omega), h7 3 (by omega), h7 4 (by omega), h7 5 (by omega), h7 6 (by omega), h7 7 (by omega), h7 8 (by omega), h7 9 (by omega), h7 10 (by omega)⟩

end Cm
end Go.Proofs.YtjfhnkhabipbdaaGreatDoor
namespace Go.Proofs.YtjfhnkhabipbdaaGreatDoor
open Go.RowKit
set_option linter.unusedVariables false
namespace Cm
open Nm (bitsW ret_int ret_bool)
open Vt (VT Rep BoxAt below_drew Cloned put5 toList_inj)
open Ev (EV FieldsOk evCells vCells EBox ERep zeroT)

theorem four (w : World) (Z1 Z2 Z3 Z4 : Obj) : ((((w.alloc Z1).alloc Z2).alloc Z3).alloc Z4).drew.heap[w.heap.size]? = some Z1 ∧ ((((w.alloc Z1).alloc Z2).alloc Z3).alloc Z4).drew.heap[w.heap.size + 1]? = some Z2 ∧
    ((((w.alloc Z1).alloc Z2).alloc Z3).alloc Z4).drew.heap[w.heap.size + 1 + 1]? = some Z3 ∧ ((((w.alloc Z1).alloc Z2).alloc Z3).alloc Z4).drew.heap[w.heap.size + 1 + 1 + 1]? = some Z4 ∧ Below w.heap.size w ((((w.alloc Z1).alloc Z2).alloc Z3).alloc Z4).drew := by
  have e : ∀ W : World, W.drew.heap = W.heap := fun _ => rfl
  have n1 := heap_alloc_new w Z1
  have n2 := heap_alloc_new (w.alloc Z1) Z2
  have n3 := heap_alloc_new ((w.alloc Z1).alloc Z2) Z3
  have n4 := heap_alloc_new (((w.alloc Z1).alloc Z2).alloc Z3) Z4
  simp only [World.size_alloc] at n2 n3 n4
  refine ⟨?_, ?_, ?_, n4, below_drew ((((Below.refl w.heap.size w).alloc (Nat.le_refl _) Z1).alloc (by simp) Z2).alloc (by simp; omega) Z3 |>.alloc (by simp; omega) Z4)⟩
  · rw [e, heap_alloc_old _ _ (by simp only [World.size_alloc]; omega), heap_alloc_old _ _ (by simp only [World.size_alloc]; omega), heap_alloc_old _ _ (by simp only [World.size_alloc]; omega), n1]
  · rw [e, heap_alloc_old _ _ (by simp only [World.size_alloc]; omega), heap_alloc_old _ _ (by simp only [World.size_alloc]; omega), n2]
  · rw [e, heap_alloc_old _ _ (by simp only [World.size_alloc]; omega), n3]

set_option maxRecDepth 100000 in
set_option maxHeartbeats 400000 in
theorem evsame_cut (a b : EV) (w : World) (lo hi lo' hi' : Nat) (x y : Value) (hR : ERep w lo hi a x) (hz : hi ≤ w.heap.size) (hR' : ERep w lo' hi' b y) (hz' : hi' ≤ w.heap.size) :
    Calls Tryz.prog 14 #[x, y] w fun r w' => r = .returned (.bool (evSame a b)) ∧ Below w.heap.size w w' := by
  obtain ⟨hf, vk, vn, vf, vs, A, m, c, rfl, hv⟩ := hR
  obtain ⟨hf', vk', vn', vf', vs', A', m', c', rfl, hv'⟩ := hR'
  have HB0 := Lib.hid fun Z Z' => ((Below.refl w.heap.size w).alloc (Nat.le_refl _) Z).alloc (by simp) Z'
  have HS := Lib.hid fun W (hW : Below w.heap.size w W) => Vt.same_any a.v b.v W lo hi lo' hi' _ _ (hv.later (hW.mono hz)) (Nat.le_trans hz hW.size) (hv'.later (hW.mono hz')) (Nat.le_trans hz' hW.size)
  clear hv hv' hf hf'
  obtain ⟨R, hRR⟩ : ∃ R, R = evSame a b := ⟨_, rfl⟩
  rw [← hRR]
  replace hRR := Lib.hid hRR
  obtain ⟨k, id, n, at', name, text, v⟩ := a
  obtain ⟨k', id', n', at'', name', text', v'⟩ := b
  unfold vCells at HS
  simp only at HS
  unfold evCells
  go_enter Tryz.func14, Tryz.ntmps14
  go_upto_region 1 with fail
  go_cut [5, 6] from 7 to 10 (fun z z' wx => ∃ g g', z = .pointer (some ⟨g, 0, none⟩) ∧ z' = .pointer (some ⟨g', 0, none⟩) ∧ BoxAt wx g vk vn vf vs A m c ∧ BoxAt wx g' vk' vn' vf' vs' A' m' c' ∧
    EBox wx w.heap.size (evCells ⟨k, id, n, at', name, text, v⟩ vk vn vf vs A m c) ∧ EBox wx (w.heap.size + 1) (evCells ⟨k', id', n', at'', name', text', v'⟩ vk' vn' vf' vs' A' m' c') ∧ Below w.heap.size w wx)
  case first =>
    go_region
    all_goals go_wp2_with fail
    all_goals go_meet
    case' rel => exact ⟨_, _, rfl, rfl, (four _ _ _ _ _).2.2.1, (four _ _ _ _ _).2.2.2.1, (four _ _ _ _ _).1, (four _ _ _ _ _).2.1, (four _ _ _ _ _).2.2.2.2⟩
    all_goals exact ⟨_, _, rfl, rfl, (four _ _ _ _ _).2.2.2.1, (four _ _ _ _ _).2.2.1, (four _ _ _ _ _).1, (four _ _ _ _ _).2.1, (four _ _ _ _ _).2.2.2.2⟩
  case rest =>
    obtain ⟨g, g', rfl, rfl, hx, hx', hy, hy', hb0⟩ := hcut
    obtain ⟨c0, c1, c2, c3, c4⟩ := hx.cells
    obtain ⟨d0, d1, d2, d3, d4⟩ := hx'.cells
    obtain ⟨a0, a1, a2, a3, a4, a5, -⟩ := EBox.cells hy
    obtain ⟨b0, b1, b2, b3, b4, b5, -⟩ := EBox.cells hy'
    have HB := Lib.hid hb0
    have HS1 := Lib.hid (HS.out wc hb0)
    clear hx hx' hy hy' hb0 HS HB0
    by_cases hh : HeadE ⟨k, id, n, at', name, text, v⟩ ⟨k', id', n', at'', name', text', v'⟩
    · have HRR := Lib.hid (hRR.out.trans (evSame_head hh))
      obtain ⟨h1, h2, h3, h4, h5, h6⟩ := hh
      simp only at h1 h2 h3 h4 h5 h6
      subst h1 h2 h3 h4 h5 h6
      go_wp2_with fail
      refine HS1.out.mono ?_
      rintro e w1 ⟨rfl, hb⟩
      have HB1 := Lib.hid (HB.out.trans (hb.mono HB.out.size))
      clear hb
      go_wp2_with fail
      go_ret
      exact ⟨ret_bool (by rw [HRR.out]), HB1.out⟩
    · have HRR := Lib.hid (hRR.out.trans (evSame_not hh))
      have H := Lib.hid hh; clear hh
      go_wp2_with fail
      all_goals first
        | (go_ret; exact ⟨ret_bool (by rw [HRR.out]), HB.out⟩)
        | (exfalso
           refine H.out ⟨?_, ?_, ?_, ?_, ?_, ?_⟩
           all_goals clear H HS1 HB HRR hRR
           all_goals first
             | assumption
             | (exact (toList_inj _ _).1 (by assumption))
             | omega
             | (simp at *; omega))

end Cm
end Go.Proofs.YtjfhnkhabipbdaaGreatDoor
namespace Go.Proofs.YtjfhnkhabipbdaaGreatDoor
open Go.RowKit
set_option linter.unusedVariables false
namespace Cm
open Nm (bitsW ret_int ret_bool)
open Vt (VT Rep BoxAt below_drew Cloned put5 toList_inj rowCells)
open Ev (EV FieldsOk evCells vCells EBox ERep zeroT)

/-- The fields of a kind, as the reference writes them. -/
def fieldsB (k : Nat) : ByteArray := match k with
  | 1 => ⟨#[115, 118]⟩
  | 2 => ⟨#[105, 110, 97]⟩
  | 3 => ⟨#[105, 110, 118]⟩
  | 4 => ⟨#[105, 110, 97, 116]⟩
  | 5 => ⟨#[105]⟩
  | 6 => ⟨#[115, 116, 118]⟩
  | 7 => ⟨#[105, 115, 118]⟩
  | 8 => ⟨#[105, 97]⟩
  | 9 => ⟨#[118]⟩
  | 10 => ⟨#[116]⟩
  | 11 => ⟨#[116]⟩
  | _ => ⟨#[]⟩

set_option maxHeartbeats 1000000 in
theorem fields_in (k : Nat) (h1 : 1 ≤ k) (h2 : k ≤ 11) (w : World) : Calls Tryz.prog 66 #[.int .i64 k] w fun r w' => r = .returned (.string (fieldsB k)) ∧ Below w.heap.size w w' := by
  rcases (by omega : k = 1 ∨ k = 2 ∨ k = 3 ∨ k = 4 ∨ k = 5 ∨ k = 6 ∨ k = 7 ∨ k = 8 ∨ k = 9 ∨ k = 10 ∨ k = 11) with rfl | rfl | rfl | rfl | rfl | rfl | rfl | rfl | rfl | rfl | rfl
  all_goals
    go_enter Tryz.func66, Tryz.ntmps66
    go_wp2_with fail
    go_ret
    exact ⟨rfl, (Below.refl _ _).alloc (Nat.le_refl _) _⟩

theorem fieldsB_size (k : Nat) : (fieldsB k).size ≤ 4 := by
  unfold fieldsB
  split <;> decide

set_option maxHeartbeats 1000000 in
theorem has_in (k : Nat) (h1 : 1 ≤ k) (h2 : k ≤ 11) (c : Nat) (hc : c < 256) (w : World) : Calls Tryz.prog 45 #[.int .i64 k, .int .u8 c] w fun r w' => r = .returned (.bool ((fieldsB k).data.toList.any (fun x => x.toNat == c))) ∧ Below w.heap.size w w' := by
  have HF := Lib.hid (fields_in k h1 h2 w)
  have hsz := fieldsB_size k
  generalize fieldsB k = f at *
  obtain ⟨R, hR⟩ : ∃ R, R = f.data.toList.any (fun x => x.toNat == c) := ⟨_, rfl⟩
  rw [← hR]
  replace hR := Lib.hid hR
  go_enter Tryz.func45, Tryz.ntmps45
  go_wp2_with fail
  refine HF.out.mono ?_
  rintro x w1 ⟨rfl, hb⟩
  have HB := Lib.hid hb
  clear hb HF
  go_wp2_with fail
  go_loop [4, 6] (fun r i => ∃ j : Nat, j ≤ f.size ∧ i = .int .i64 j ∧ r = .bool false ∧ (f.data.toList.take j).any (fun x => x.toNat == c) = false) (fun _ i => f.size - (intOf i).toNat)
  case atStart => exact ⟨0, by omega, rfl, rfl, rfl⟩
  case round =>
    obtain ⟨j, hj, rfl, rfl, hy⟩ := hrel
    have HY := Lib.hid hy; clear hy
    by_cases hlt : j < f.size
    · have hget : ∀ h : j < f.data.toList.length, f.data.toList[j] = f[j] := fun h => rfl
      have hl : f.data.toList.length = f.size := rfl
      by_cases hcj : f[j].toNat = c
      · have hb : ((f[j].toNat : Int) == (c : Int)) = true := by simp; omega
        have hany : (f.data.toList.any fun x => x.toNat == c) = true := by
          rw [List.any_eq_true]
          exact ⟨f.data.toList[j], List.getElem_mem (by omega), by rw [hget (by omega)]; simpa using hcj⟩
        have HA := Lib.hid (hR.out.trans hany)
        clear hany hget hl
        go_wp2_with fail
        go_ret
        exact ⟨ret_bool (by rw [HA.out]), HB.out⟩
      · have hb : ((f[j].toNat : Int) == (c : Int)) = false := by simp; omega
        have hany : (f.data.toList.take (j + 1)).any (fun x => x.toNat == c) = false := by
          rw [List.take_succ_eq_append_getElem (by omega), List.any_append, HY.out, hget (by omega)]
          simpa using hcj
        have HA := Lib.hid hany
        clear hany hget hl
        go_wp2_with fail
        exact ⟨⟨j + 1, by omega, by go_num, rfl, HA.out⟩, by simp [intOf]; omega⟩
    · have hj' : j = f.size := by omega
      have hany : (f.data.toList.any fun x => x.toNat == c) = false := by
        have := HY.out
        rwa [hj', List.take_of_length_le (show f.data.toList.length ≤ f.size from Nat.le_refl _)] at this
      have HA := Lib.hid (hR.out.trans hany)
      clear hany
      subst hj'
      go_wp2_with fail
      go_ret
      exact ⟨ret_bool (by rw [HA.out]), HB.out⟩

/-- What the reference says of a kind's fields, and the program. -/
theorem has_field (k : Nat) (h1 : 1 ≤ k) (h2 : k ≤ 11) (c q : Nat) (hq : (c, q) ∈ [(105, 0), (110, 1), (97, 2), (115, 3), (116, 4), (118, 5)]) (w : World) : Calls Tryz.prog 45 #[.int .i64 k, .int .u8 c] w fun r w' => r = .returned (.bool ((Ev.fieldsOf k).contains q)) ∧ Below w.heap.size w w' := by
  have hc : c < 256 := by simp at hq; omega
  have := has_in k h1 h2 c hc w
  have he : (fieldsB k).data.toList.any (fun x => x.toNat == c) = (Ev.fieldsOf k).contains q := by
    simp at hq
    rcases (by omega : k = 1 ∨ k = 2 ∨ k = 3 ∨ k = 4 ∨ k = 5 ∨ k = 6 ∨ k = 7 ∨ k = 8 ∨ k = 9 ∨ k = 10 ∨ k = 11) with rfl | rfl | rfl | rfl | rfl | rfl | rfl | rfl | rfl | rfl | rfl
    all_goals rcases hq with ⟨rfl, rfl⟩ | ⟨rfl, rfl⟩ | ⟨rfl, rfl⟩ | ⟨rfl, rfl⟩ | ⟨rfl, rfl⟩ | ⟨rfl, rfl⟩ <;> decide
  rwa [he] at this
end Cm
end Go.Proofs.YtjfhnkhabipbdaaGreatDoor
namespace Go.Proofs.YtjfhnkhabipbdaaGreatDoor
open Go.RowKit
set_option linter.unusedVariables false
set_option linter.unusedSimpArgs false
namespace Cn
open Nm (bitsW ret_int ret_bool)
open Vt (VT Rep BoxAt below_drew Cloned put5 KidsAt HeadOk)
open Ev (EV FieldsOk evCells vCells EBox ERep zeroT take_drop tk cons_drop)
open Cm (rowOf EvsIn EvsAt EvNew evSame)

/-- Element i of a row of events. -/
def ECell (w : World) (ro : Option Nat) (xs : List Value) (i : Nat) (e : EV) : Prop := ∃ lo hi vk vn vf vs A m c, FieldsOk e ∧ Rep w lo hi e.v (vCells vk vn vf vs A m c) ∧ hi ≤ w.heap.size ∧ (∀ r, ro = some r → r < lo ∨ hi ≤ r) ∧
  ∀ j, j < 11 → xs[i * 11 + j]? = (evCells e vk vn vf vs A m c)[j]?
def ERow (w : World) (base : Nat) (A : Option Addr) (cap n : Nat) (es : List EV) : Prop := es.length = n ∧ ∃ xs, w.ownsRow base 31 11 (.slice A n cap) n xs ∧ ∀ i (h : i < es.length), ECell w (rowOf A) xs i es[i]

theorem ECell.keep {w w' : World} {ro : Option Nat} {xs : List Value} {i : Nat} {e : EV} (h : ECell w ro xs i e) (hz : w.heap.size ≤ w'.heap.size) (ho : ∀ b, b < w.heap.size → some b ≠ ro → w'.heap[b]? = w.heap[b]?) : ECell w' ro xs i e := by
  obtain ⟨lo, hi, vk, vn, vf, vs, A, m, c, h1, h2, h3, h5, h6⟩ := h
  refine ⟨lo, hi, vk, vn, vf, vs, A, m, c, h1, h2.keep fun b o hb1 hb2 => ?_, Nat.le_trans h3 hz, h5, h6⟩
  exact World.cell?_of_block (a := ⟨b, o, none⟩) (ho b (by omega) (fun e => by have := h5 b e.symm; omega))

theorem own_keep {w w' : World} {base n : Nat} {T : TypeId} {s : Nat} {v : Value} {xs : List Value} (h : w.ownsRow base T s v n xs) (hb : Below w.heap.size w w') : w'.ownsRow base T s v n xs := by
  refine ⟨h.1, ?_⟩
  rcases h.2 with h | ⟨r, cp, cur, q1, q2, q3, q4⟩
  · exact .inl h
  · exact .inr ⟨r, cp, cur, q1, q2, (hb.block r (Array.getElem?_eq_some_iff.1 q3).1).trans q3, q4⟩
theorem ERow.later {w w' : World} {base : Nat} {A : Option Addr} {cap n : Nat} {es : List EV} (h : ERow w base A cap n es) (hb : Below w.heap.size w w') : ERow w' base A cap n es := by
  obtain ⟨h0, xs, h1, h3⟩ := h
  exact ⟨h0, xs, own_keep h1 hb, fun i hi => (h3 i hi).keep hb.size (fun b hlt _ => hb.block b hlt)⟩

theorem ev_one (e : EV) (vk vn : Int) (vf : Nat) (vs : ByteArray) (A : Option Addr) (m c : Nat) : ∀ u ∈ (evCells e vk vn vf vs A m c).toList, u.oneCell' = true := Cm.ev_one e vk vn vf vs A m c

end Cn
end Go.Proofs.YtjfhnkhabipbdaaGreatDoor
namespace Go.Proofs.YtjfhnkhabipbdaaGreatDoor
open Go.RowKit
set_option linter.unusedVariables false
set_option linter.unusedSimpArgs false
namespace Cn
open Nm (bitsW ret_int ret_bool)
open Vt (VT Rep BoxAt below_drew Cloned put5 KidsAt HeadOk)
open Ev (EV FieldsOk evCells vCells EBox ERep zeroT take_drop tk cons_drop)
open Cm (rowOf EvsIn EvsAt EvNew evSame)

theorem box_ev (w : World) (e : EV) (vk vn : Int) (vf : Nat) (vs : ByteArray) (A : Option Addr) (m c : Nat) : EBox (w.alloc (.cells (evCells e vk vn vf vs A m c) 31)) w.heap.size (evCells e vk vn vf vs A m c) := heap_alloc_new w _
end Cn
end Go.Proofs.YtjfhnkhabipbdaaGreatDoor
namespace Go.Proofs.YtjfhnkhabipbdaaGreatDoor
open Go.RowKit
set_option linter.unusedVariables false
set_option linter.unusedSimpArgs false
namespace Cn
open Nm (bitsW ret_int ret_bool)
open Vt (VT Rep BoxAt below_drew Cloned put5 KidsAt HeadOk)
open Ev (EV FieldsOk evCells vCells EBox ERep zeroT take_drop tk cons_drop)
open Cm (rowOf EvsIn EvsAt EvNew evSame)

end Cn
end Go.Proofs.YtjfhnkhabipbdaaGreatDoor
namespace Go.Proofs.YtjfhnkhabipbdaaGreatDoor
open Go.RowKit
set_option linter.unusedVariables false
set_option linter.unusedSimpArgs false
namespace Cn
open Nm (bitsW ret_int ret_bool)
open Vt (VT Rep BoxAt below_drew Cloned put5 KidsAt HeadOk)
open Ev (EV FieldsOk evCells vCells EBox ERep zeroT take_drop tk cons_drop)
open Cm (rowOf EvsIn EvsAt EvNew evSame)

end Cn
end Go.Proofs.YtjfhnkhabipbdaaGreatDoor
namespace Go.Proofs.YtjfhnkhabipbdaaGreatDoor
open Go.RowKit
set_option linter.unusedVariables false
namespace Cn
open Vt (VT Rep)
open Ev (EV FieldsOk evCells vCells)
open Cm (EvsIn)
open Go.ChangeShapes Go.WideShapes Go.ChangeAt Go.Joins Go.Deep

theorem eleven (cs : List Value) (h : cs.length = 11) : ∃ a b c d e f g i j k l, cs = [a, b, c, d, e, f, g, i, j, k, l] := by
  match cs, h with
  | [a, b, c, d, e, f, g, i, j, k, l], _ => exact ⟨a, b, c, d, e, f, g, i, j, k, l, rfl⟩
set_option maxRecDepth 100000 in
theorem open_ev {H : Type} {enc : TypeId × Value → H} {W : World} {base : Nat} {spare : Nat → Bool} {held : Bool} (fuel : Nat) (cs : List Value) (x : DataW H × List MemPlace)
    (h : DataW.trod enc Tryz.prog W base spare held fuel 31 cs = some x) : ∃ (e : EV) (vk vn : Int) (vf : Nat) (vs : ByteArray) (A' : Option Addr) (m c : Nat), FieldsOk e ∧ Rep W base W.heap.size e.v (vCells vk vn vf vs A' m c) ∧ cs = (evCells e vk vn vf vs A' m c).toList := by
  have hC : Tryz.prog.cellsOf 31 = 11 := by kernel_rfl
  obtain ⟨xs, n, hn, hx, hlen, hxl, hg⟩ := DataW.trod_struct Tryz.underlying31 h
  obtain ⟨c0, c1, c2, c3, c4, c5, c6, c7, c8, c9, c10, rfl⟩ := eleven cs (hlen.trans hC)
  have hx : ∀ j : Nat, j < 7 → ∃ y, xs[j]? = some y := fun j hj => ⟨_, List.getElem?_eq_getElem (by rw [hxl]; exact hj)⟩
  obtain ⟨y0, z0⟩ := hx 0 (by omega); obtain ⟨y1, z1⟩ := hx 1 (by omega); obtain ⟨y2, z2⟩ := hx 2 (by omega); obtain ⟨y3, z3⟩ := hx 3 (by omega); obtain ⟨y4, z4⟩ := hx 4 (by omega); obtain ⟨y5, z5⟩ := hx 5 (by omega); obtain ⟨y6, z6⟩ := hx 6 (by omega)
  have g0 := (hg 0 _ rfl).trans z0; have g1 := (hg 1 _ rfl).trans z1; have g2 := (hg 2 _ rfl).trans z2; have g3 := (hg 3 _ rfl).trans z3; have g4 := (hg 4 _ rfl).trans z4; have g5 := (hg 5 _ rfl).trans z5; have g6 := (hg 6 _ rfl).trans z6
  have k1 : Tryz.prog.cellsOf 3 = 1 := by kernel_rfl
  have k2 : Tryz.prog.cellsOf 9 = 1 := by kernel_rfl
  have k3 : Tryz.prog.cellsOf 29 = 5 := by kernel_rfl
  have k4 : Tryz.prog.cellsOf 25 = 1 := by kernel_rfl
  simp [k1, k2, k3, k4] at g0 g1 g2 g3 g4 g5 g6
  obtain ⟨k, e0, -, w0⟩ := DataW.trod_int Tryz.underlying3 g0
  obtain ⟨id, e1, -, w1⟩ := DataW.trod_int Tryz.underlying25 g1
  obtain ⟨n2, e2, -, w2⟩ := DataW.trod_int Tryz.underlying3 g2
  obtain ⟨at', e3, -, w3⟩ := DataW.trod_int Tryz.underlying25 g3
  obtain ⟨nm, e4, -, w4⟩ := DataW.trod_string Tryz.underlying9 g4
  obtain ⟨tx, e5, -, w5⟩ := DataW.trod_string Tryz.underlying9 g5
  obtain ⟨t, ht⟩ := Vt.open_vt _ _ _ g6
  obtain rfl := List.singleton_inj.1 e0
  obtain rfl := List.singleton_inj.1 e1
  obtain rfl := List.singleton_inj.1 e2
  obtain rfl := List.singleton_inj.1 e3
  obtain rfl := List.singleton_inj.1 e4
  obtain rfl := List.singleton_inj.1 e5
  simp [Lit.wf, IntKind.min, IntKind.max, IntKind.bits, IntKind.signed] at w0 w1 w2 w3
  obtain ⟨vk, vn, vf, vs, l, A', cap, -, hv, -⟩ := ht.open_
  rw [hv] at ht
  injection hv with hv
  simp at hv
  obtain ⟨rfl, rfl, rfl, rfl, rfl⟩ := hv
  obtain ⟨mid, hmid⟩ : ∃ mn : Nat, id = mn := ⟨id.toNat, by omega⟩
  obtain ⟨mat, hmat⟩ : ∃ mn : Nat, at' = mn := ⟨at'.toNat, by omega⟩
  subst hmid hmat
  exact ⟨⟨k, mid, n2, mat, nm, tx, t⟩, vk, vn, vf, vs, A', l.length, cap, ⟨by show _ ≤ k; omega, by show k ≤ _; omega, by show mid < _; omega, by show _ ≤ n2; omega, by show n2 ≤ _; omega, by show mat < _; omega, w4, w5⟩, ht, rfl⟩

set_option maxRecDepth 100000 in
theorem evs_trod {H : Type} {enc : TypeId × Value → H} {W : World} {b1 : Nat} {spare : Nat → Bool} {held : Bool} (fuel : Nat) (c0 : Value) (x : DataW H × List MemPlace)
    (hf : DataW.trod enc Tryz.prog W b1 spare held fuel 22 [c0] = some x) : ∃ es A cap, c0 = .slice A es.length cap ∧ EvsIn W A cap es ∧ ((es = [] ∧ x.1 = .nil) ∨ ∃ elems rest, x.1 = .slice elems rest ∧ elems.length = es.length) := by
  have hC : Tryz.prog.cellsOf 31 = 11 := by kernel_rfl
  rcases DataW.trod_slice Tryz.underlying22 hf with ⟨e4, rfl⟩ | ⟨a, l0, cp0, elems, rest, n', hn', e4, rfl, hb, hl, hm, hel, he, -, -⟩
  · obtain rfl := List.singleton_inj.1 e4
    exact ⟨[], none, 0, rfl, ⟨Nat.le_refl _, Nat.zero_le _, fun h => absurd h (by simp)⟩, .inl ⟨rfl, rfl⟩⟩
  · obtain rfl := List.singleton_inj.1 e4
    have h4 : ∀ i : Nat, ∃ tC : EV × (Int × Int × Nat × ByteArray × Option Addr × Nat × Nat), i < l0 → FieldsOk tC.1 ∧ Rep W b1 W.heap.size tC.1.v (vCells tC.2.1 tC.2.2.1 tC.2.2.2.1 tC.2.2.2.2.1 tC.2.2.2.2.2.1 tC.2.2.2.2.2.2.1 tC.2.2.2.2.2.2.2) ∧
        ∀ j, j < 11 → W.cell? (a.add (i * 11) |>.add j) = (evCells tC.1 tC.2.1 tC.2.2.1 tC.2.2.2.1 tC.2.2.2.2.1 tC.2.2.2.2.2.1 tC.2.2.2.2.2.2.1 tC.2.2.2.2.2.2.2)[j]? := fun i => by
      by_cases hi : i < l0
      · have e := he i hi
        rw [List.getElem?_eq_getElem (by omega)] at e
        obtain ⟨cs', q1, q2⟩ := Option.bind_eq_some_iff.1 e
        obtain ⟨o, vk, vn, vf, vs, A', m, c, p1, p3, rfl⟩ := open_ev n' cs' _ q2
        rw [hC] at q1
        obtain ⟨_, ql, qc⟩ := World.cells?_some q1
        exact ⟨(o, vk, vn, vf, vs, A', m, c), fun _ => ⟨p1, p3, fun j hj => by rw [qc j hj, Array.getElem?_toList]⟩⟩
      · exact ⟨(⟨0, 0, 0, 0, .empty, .empty, .mk 0 0 0 .empty []⟩, 0, 0, 0, .empty, none, 0, 0), fun h => absurd h hi⟩
    obtain ⟨F, hF⟩ := Classical.axiomOfChoice h4
    have hlen' : ((List.range l0).map fun i => (F i).1).length = l0 := by simp
    refine ⟨(List.range l0).map fun i => (F i).1, some a, cp0, by rw [hlen'], ⟨by rw [hlen']; exact hl, hm, fun hp => ?_⟩, .inr ⟨_, _, rfl, by rw [hlen', List.length_map]; exact hel⟩⟩
    rw [hlen'] at hp
    have h0 := (hF 0 hp).2.2 0 (by omega)
    obtain ⟨b, off, spot⟩ := a
    have hs : spot = none := by
      cases spot with
      | none => rfl
      | some q =>
        simp [Addr.add, World.cell?, evCells] at h0
        split at h0 <;> simp at h0
    subst hs
    have hlt : b < W.heap.size := by
      rcases Nat.lt_or_ge b W.heap.size with q | q
      · exact q
      · simp [Addr.add, World.cell?, Array.getElem?_eq_none q, evCells] at h0
    refine ⟨b, off, rfl, hlt, fun i hi => ?_⟩
    rw [hlen'] at hi
    obtain ⟨p1, p3, p4⟩ := hF i hi
    refine ⟨b1, W.heap.size, _, _, _, _, _, _, _, by simpa using p1, by simpa using p3, Nat.le_refl _, fun j hj => ?_⟩
    have := p4 j hj
    rw [Go.Deep.add_add, add_plain] at this
    rw [Nat.add_assoc, this]
    simp

end Cn
end Go.Proofs.YtjfhnkhabipbdaaGreatDoor
