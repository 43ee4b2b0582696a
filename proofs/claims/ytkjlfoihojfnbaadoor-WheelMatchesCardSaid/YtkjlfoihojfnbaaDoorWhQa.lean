/- WheelMatches: its operations opened; the state of play and its steps (WhOp and WhPa in one). -/
import Derived.Test.YtkjlfoihojfnbaaDoorWhA
import Derived.Test.YtkjlfoihojfnbaaDoorLoK
import Derived.Test.YtkjlfoihojfnbaaDoorWhY
import Derived.Test.YtkjlfoihojfnbaaDoorWhZ
import Derived.Test.YtkjlfoihojfnbaaDoorWhSame
namespace Go.Proofs.YtkjlfoihojfnbaaDoor
open Go.RowKit
set_option linter.unusedVariables false
namespace Wh
open Lo (ItemsIn)
open Go.ChangeShapes Go.WideShapes Go.ChangeAt Go.Joins Go.Deep
structure WOp where
  k : Int
  x : Nat × Nat
def WOp.ok (o : WOp) : Prop := (-9223372036854775808 ≤ o.k ∧ o.k ≤ 9223372036854775807) ∧ (o.x.1 < 18446744073709551616 ∧ o.x.2 < 18446744073709551616)
def opW (o : WOp) : List Value := [.int .i64 o.k, .int .u64 (o.x.1 : Nat), .int .u64 (o.x.2 : Nat)]
/-- Operations that came in. -/
def WOpsIn (w : World) (A : Option Addr) (cap : Nat) (l : List WOp) : Prop := l.length ≤ cap ∧ (∀ o ∈ l, o.ok) ∧
  ∀ (j : Nat) (hj : j < l.length), ∃ g o, A = some ⟨g, o, none⟩ ∧ g < w.heap.size ∧ w.cell? ⟨g, o + j * 3, none⟩ = some (.int .i64 l[j].k) ∧ w.cell? ⟨g, o + j * 3 + 1, none⟩ = some (.int .u64 (l[j].x.1 : Nat)) ∧
    w.cell? ⟨g, o + j * 3 + 2, none⟩ = some (.int .u64 (l[j].x.2 : Nat))
set_option maxRecDepth 100000 in
theorem open_wop {H : Type} {enc : TypeId × Value → H} {W : World} {base : Nat} {spare : Nat → Bool} {held : Bool} (fuel : Nat) (cs : List Value) (x : DataW H × List MemPlace)
    (h : DataW.trod enc Tryd.prog W base spare held fuel 96 cs = some x) : ∃ o : WOp, o.ok ∧ cs = opW o := by
  have hC : Tryd.prog.cellsOf 96 = 3 := by kernel_rfl
  obtain ⟨xs, n, hn, hx, hlen, hxl, hg⟩ := DataW.trod_struct Tryd.underlying96 h
  obtain ⟨c0, c1, c2, rfl⟩ : ∃ a b c, cs = [a, b, c] := by
    match cs, hlen.trans hC with
    | [a, b, c], _ => exact ⟨a, b, c, rfl⟩
  have hx : ∀ j : Nat, j < 3 → ∃ y, xs[j]? = some y := fun j hj => ⟨_, List.getElem?_eq_getElem (by rw [hxl]; exact hj)⟩
  obtain ⟨y0, z0⟩ := hx 0 (by omega); obtain ⟨y1, z1⟩ := hx 1 (by omega); obtain ⟨y2, z2⟩ := hx 2 (by omega)
  have g0 := (hg 0 _ rfl).trans z0; have g1 := (hg 1 _ rfl).trans z1; have g2 := (hg 2 _ rfl).trans z2
  have k1 : Tryd.prog.cellsOf 3 = 1 := by kernel_rfl
  have k2 : Tryd.prog.cellsOf 27 = 1 := by kernel_rfl
  simp [k1, k2] at g0 g1 g2
  obtain ⟨k, e0, -, w0⟩ := DataW.trod_int Tryd.underlying3 g0
  obtain ⟨p, e1, -, w1⟩ := DataW.trod_int Tryd.underlying27 g1
  obtain ⟨q, e2, -, w2⟩ := DataW.trod_int Tryd.underlying27 g2
  obtain rfl := List.singleton_inj.1 e0
  obtain rfl := List.singleton_inj.1 e1
  obtain rfl := List.singleton_inj.1 e2
  simp [Lit.wf, IntKind.min, IntKind.max, IntKind.bits, IntKind.signed] at w0 w1 w2
  exact ⟨⟨k, (p.toNat, q.toNat)⟩, ⟨by omega, by constructor <;> simp <;> omega⟩, by simp [opW, Int.toNat_of_nonneg w1.1, Int.toNat_of_nonneg w2.1]⟩
set_option maxRecDepth 100000 in
theorem wops_open {H : Type} {enc : TypeId × Value → H} {base b1 : Nat} {spare : Nat → Bool} {held : Bool} {d : DataW H} {p : List MemPlace} (v : Value) (W : World)
    (o : Value.okWide Tryd.prog W .any base 68 v) (k : DataW.Trod enc Tryd.prog W b1 spare held 68 v d p) :
    ∃ l A cap, v = .slice A l.length cap ∧ WOpsIn W A cap l ∧ l.length ≤ 9223372036854775807 := by
  have hC : Tryd.prog.cellsOf 96 = 3 := by kernel_rfl
  obtain ⟨a0, l0, cp0, rfl⟩ := okWide_slice Tryd.underlying68 o
  obtain ⟨fuel, hf⟩ := k
  have hcs : (Value.slice a0 l0 cp0).cells.toList = [.slice a0 l0 cp0] := rfl
  rw [hcs] at hf
  rcases DataW.trod_slice Tryd.underlying68 hf with ⟨e4, -⟩ | ⟨a, len, cap, elems, rest, n', hn', e4, -, hb, hl, hm, hel, he, -, -⟩
  · injection List.singleton_inj.1 e4 with q1 q2 q3
    subst q1 q2 q3
    exact ⟨[], none, 0, rfl, ⟨Nat.le_refl _, fun x hx => by simp at hx, fun j hj => by simp at hj⟩, by simp⟩
  · injection List.singleton_inj.1 e4 with q1 q2 q3
    subst q1 q2 q3
    have h4 : ∀ i : Nat, ∃ x : WOp, i < l0 → x.ok ∧ ∀ j, j < 3 → W.cell? (a.add (i * 3) |>.add j) = (opW x)[j]? := fun i => by
      by_cases hi : i < l0
      · have e := he i hi
        rw [List.getElem?_eq_getElem (by omega)] at e
        obtain ⟨cs', q1, q2⟩ := Option.bind_eq_some_iff.1 e
        obtain ⟨x, p1, rfl⟩ := open_wop n' cs' _ q2
        rw [hC] at q1
        obtain ⟨_, ql, qc⟩ := World.cells?_some q1
        exact ⟨x, fun _ => ⟨p1, fun j hj => qc j hj⟩⟩
      · exact ⟨⟨0, (0, 0)⟩, fun h => absurd h hi⟩
    obtain ⟨F, hF⟩ := Classical.axiomOfChoice h4
    have hlen' : ((List.range l0).map F).length = l0 := by simp
    refine ⟨(List.range l0).map F, some a, cp0, by rw [hlen'], ⟨by rw [hlen']; exact hl, fun x hx => ?_, fun i hi => ?_⟩, by rw [hlen']; simp only [maxLen] at hm; omega⟩
    · obtain ⟨i, hi, rfl⟩ := List.mem_map.1 hx
      exact (hF i (List.mem_range.1 hi)).1
    · rw [hlen'] at hi
      have h0 := (hF 0 (by omega)).2 0 (by omega)
      obtain ⟨b, off, spot⟩ := a
      have hs : spot = none := by
        cases spot with
        | none => rfl
        | some q =>
          simp [Addr.add, World.cell?, opW] at h0
          split at h0 <;> simp at h0
      subst hs
      have hlt : b < W.heap.size := by
        rcases Nat.lt_or_ge b W.heap.size with q | q
        · exact q
        · simp [Addr.add, World.cell?, Array.getElem?_eq_none q, opW] at h0
      have c0 := (hF i hi).2 0 (by omega)
      have c1 := (hF i hi).2 1 (by omega)
      have c2 := (hF i hi).2 2 (by omega)
      rw [Go.Deep.add_add, add_plain] at c0 c1 c2
      simp only [← Nat.add_assoc, Nat.add_zero] at c0 c1 c2
      refine ⟨b, off, rfl, hlt, ?_, ?_, ?_⟩
      · simpa [opW] using c0
      · simpa [opW] using c1
      · simpa [opW] using c2
end Wh
end Go.Proofs.YtkjlfoihojfnbaaDoor

namespace Go.Proofs.YtkjlfoihojfnbaaDoor
open Go.RowKit
set_option linter.unusedVariables false
set_option linter.unusedSimpArgs false
namespace Wh
open Lo (IRow KB Lies LiesO below_drew bef Deb wo)
variable {base b bx rx xb x2 nw nm t now : Nat} {w w' w0 wr w1 : World} {T TW : List (Nat × Nat)} {v : Value} {S S' : Nat → Prop} {ob ob' rob : Obj}
def cancC (T : List (Nat × Nat)) (id : Nat) : Int := if hasId T id then 0 else 6
def advC (now t : Nat) : Int := if t ≤ 9223372036854775807 then (if now ≤ t then 0 else 12) else 2
def advOk (now t : Nat) : Prop := now ≤ t ∧ t ≤ 9223372036854775807
instance (now t : Nat) : Decidable (advOk now t) := by unfold advOk; infer_instance
def advN (now t : Nat) : Nat := if advOk now t then t else now
def advT (now : Nat) (T : List (Nat × Nat)) (t : Nat) : List (Nat × Nat) := if advOk now t then restT T t else T
def advD (now : Nat) (T : List (Nat × Nat)) (t : Nat) : List (Nat × Nat) := if advOk now t then dueT T t else []
/-- The wheel at b, the reference's in the box bx, the result's block rx, one more block xb. -/
structure P1 (base : Nat) (w0 wr : World) (b bx rx xb nw : Nat) (TW : List (Nat × Nat)) (nm : Nat) (T : List (Nat × Nat)) (v : Value) (rob ob : Obj) : Prop where
  ex : ∃ S, Whl base wr b nw TW S ∧ ∀ g, S g → base ≤ g ∧ g < wr.heap.size ∧ v.ownBlock ≠ some g ∧ g ≠ bx ∧ g ≠ rx ∧ g ≠ xb
  row : IRow 29 wr base v T
  vb : ∀ g, v.ownBlock = some g → g ≠ bx ∧ g ≠ rx ∧ g ≠ xb
  box : wr.heap[bx]? = some (.cells #[.int .u64 (nm : Nat), v] 49 (0, 0))
  rbx : wr.heap[rx]? = some rob
  xbx : wr.heap[xb]? = some ob
  bel : Below base w0 wr
  hw : base ≤ wr.heap.size
  hw0 : base ≤ w0.heap.size
  hbx : base ≤ bx
  ne1 : rx ≠ bx
  ne2 : xb ≠ bx
  dg : 0 < base
  deb : Deb w0
theorem P1.debw (h : P1 base w0 wr b bx rx xb nw TW nm T v rob ob) : Deb wr := deb_ge h.deb h.dg h.bel h.hw0
theorem P1.lt1 (h : P1 base w0 wr b bx rx xb nw TW nm T v rob ob) : bx < wr.heap.size ∧ rx < wr.heap.size ∧ xb < wr.heap.size := ⟨(Array.getElem?_eq_some_iff.1 h.box).1, (Array.getElem?_eq_some_iff.1 h.rbx).1, (Array.getElem?_eq_some_iff.1 h.xbx).1⟩
theorem P1.later (h : P1 base w0 wr b bx rx xb nw TW nm T v rob ob) (hb : Below wr.heap.size wr w') : P1 base w0 w' b bx rx xb nw TW nm T v rob ob := by
  obtain ⟨S, h1, h2⟩ := h.ex
  exact ⟨⟨S, h1.later hb, fun g e => let q := h2 g e; ⟨q.1, Nat.lt_of_lt_of_le q.2.1 hb.size, q.2.2⟩⟩, h.row.later hb, h.vb, boxB h.box hb, boxB h.rbx hb, boxB h.xbx hb, h.bel.trans (hb.mono h.hw), Nat.le_trans h.hw hb.size, h.hw0, h.hbx, h.ne1, h.ne2, h.dg, h.deb⟩
/-- A new block. -/
theorem P1.other (h : P1 base w0 wr b bx rx xb nw TW nm T v rob ob) (hb : Below wr.heap.size wr w') (hx : wr.heap.size ≤ x2) (ho : w'.heap[x2]? = some ob') : P1 base w0 w' b bx rx x2 nw TW nm T v rob ob' := by
  have h' := h.later hb
  have hl := h.lt1
  obtain ⟨S, h1, h2⟩ := h.ex
  exact ⟨⟨S, h1.later hb, fun g e => let q := h2 g e; ⟨q.1, Nat.lt_of_lt_of_le q.2.1 hb.size, q.2.2.1, q.2.2.2.1, q.2.2.2.2.1, fun e2 => by have := q.2.1; omega⟩⟩, h'.row, fun g hg => ⟨(h.vb g hg).1, (h.vb g hg).2.1, fun e2 => by have := (h.row.lt g hg).2; omega⟩, h'.box, h'.rbx, ho, h'.bel, h'.hw, h'.hw0, h'.hbx, h.ne1, by omega, h'.dg, h'.deb⟩
/-- No further block. -/
theorem P1.head (h : P1 base w0 wr b bx rx xb nw TW nm T v rob ob) : P1 base w0 wr b bx rx rx nw TW nm T v rob rob := by
  obtain ⟨S, h1, h2⟩ := h.ex
  exact ⟨⟨S, h1, fun g e => let q := h2 g e; ⟨q.1, q.2.1, q.2.2.1, q.2.2.2.1, q.2.2.2.2.1, q.2.2.2.2.1⟩⟩, h.row, fun g hg => let q := h.vb g hg; ⟨q.1, q.2.1, q.2.1⟩, h.box, h.rbx, h.rbx, h.bel, h.hw, h.hw0, h.hbx, h.ne1, h.ne1, h.dg, h.deb⟩
theorem P1.turn (h : P1 base w0 wr b bx rx xb nw TW nm T v rob ob) (h1 : Whl base wr b nw TW S) (h2 : ∀ g, S g → base ≤ g ∧ g < wr.heap.size ∧ v.ownBlock ≠ some g ∧ g ≠ bx ∧ g ≠ rx ∧ g ≠ xb) {nw' : Nat} {TW' : List (Nat × Nat)} (k1 : Whl base w' b nw' TW' S') (k2 : ∀ g, S' g → grown S wr g) (kb : KB wr w' S) : P1 base w0 w' b bx rx xb nw' TW' nm T v rob ob := by
  obtain ⟨l1, l2, l3⟩ := h.lt1
  refine ⟨⟨_, k1.cut, fun g e => ?_⟩, h.row.keepKB kb (fun g hg e => (h2 g e).2.2.1 hg), h.vb, (kb.block bx l1 (fun e => (h2 bx e).2.2.2.1 rfl)).trans h.box, (kb.block rx l2 (fun e => (h2 rx e).2.2.2.2.1 rfl)).trans h.rbx, (kb.block xb l3 (fun e => (h2 xb e).2.2.2.2.2 rfl)).trans h.xbx, h.bel.trans (kb.below h.hw (fun g e => (h2 g e).1)), Nat.le_trans h.hw kb.size, h.hw0, h.hbx, h.ne1, h.ne2, h.dg, h.deb⟩
  rcases k2 g e.1 with q | q
  · exact ⟨(h2 g q).1, e.2, (h2 g q).2.2⟩
  · exact ⟨Nat.le_trans h.hw q, e.2, fun e2 => by have := (h.row.lt g e2).2; omega, by omega, by omega, by omega⟩
theorem P1.sorted (h : P1 base w0 wr b bx rx xb nw TW nm T v rob ob) : TW.Pairwise bef ∧ TW.Nodup := let ⟨S, h1, _⟩ := h.ex; ⟨h1.sorted, nodup_of_ids h1.ids⟩
theorem P1.sched (h : P1 base w0 wr b bx rx xb nw TW nm T v rob ob) (x : Nat × Nat) (hx : x.1 < 18446744073709551616 ∧ x.2 < 18446744073709551616) (hT : TW.length ≤ 900) :
    Calls Tryd.prog 26 #[.pointer (some ⟨b, 0, none⟩), .int .u64 (x.1 : Nat), .int .u64 (x.2 : Nat)] wr fun e w' => e = .returned (.int .i64 (schC TW x)) ∧ P1 base w0 w' b bx rx xb nw (schT TW x) nm T v rob ob := by
  obtain ⟨S, h1, h2⟩ := h.ex
  exact (h1.schedC x hx h.hw hT).mono fun e w' ⟨he, hw', kb⟩ => ⟨he, h.turn h1 h2 hw' (fun g e => e) kb⟩
theorem P1.cancel (h : P1 base w0 wr b bx rx xb nw TW nm T v rob ob) (id : Nat) (hid : id < 18446744073709551616) (hT : TW.length ≤ 900) :
    Calls Tryd.prog 33 #[.pointer (some ⟨b, 0, none⟩), .int .u64 (id : Nat)] wr fun e w' => e = .returned (.int .i64 (cancC TW id)) ∧ P1 base w0 w' b bx rx xb nw (noId TW id) nm T v rob ob := by
  obtain ⟨S, h1, h2⟩ := h.ex
  by_cases hh : hasId TW id = true
  · obtain ⟨x, hx, rfl⟩ := (hasId_iff TW id).1 hh
    have e1 : cancC TW x.1 = 0 := by unfold cancC; rw [if_pos hh]
    rw [e1, noId_wo h1.ids hx]
    exact (cancel_ok x h1 hx h.hw (by omega)).mono fun e w' ⟨he, hw', kb⟩ => ⟨he, h.turn h1 h2 hw' (fun g e => e) kb⟩
  · have hh' : hasId TW id = false := by simpa using hh
    have e1 : cancC TW id = 6 := by unfold cancC; rw [if_neg hh]
    rw [e1, noId_none TW id hh']
    exact (cancel_out id h1 hid hh').mono fun e w' ⟨he, hb⟩ => ⟨he, h.later hb⟩
theorem P1.adv (h : P1 base w0 wr b bx rx xb nw TW nm T v rob ob) (ht : t < 18446744073709551616) (hT : TW.length ≤ 900) :
    Calls Tryd.prog 28 #[.pointer (some ⟨b, 0, none⟩), .int .u64 (t : Nat)] wr fun e w' => ∃ q, e = .returned (.tuple #[q, .int .i64 (advC nw t)]) ∧ Lies w' q (advD nw TW t) ∧ (∀ g, q.ownBlock = some g → g ≠ bx) ∧ P1 base w0 w' b bx rx xb (advN nw t) (advT nw TW t) nm T v rob ob := by
  obtain ⟨S, h1, h2⟩ := h.ex
  have hnil : ∀ W, Lies W (.slice none 0 0) [] := fun W => (IRow.nil 34 W 0).lies
  by_cases hm : t ≤ 9223372036854775807
  · by_cases hn : nw ≤ t
    · have hok : advOk nw t := ⟨hn, hm⟩
      have e1 : advC nw t = 0 := by unfold advC; rw [if_pos hm, if_pos hn]
      have e2 : advN nw t = t := by unfold advN; rw [if_pos hok]
      have e3 : advT nw TW t = restT TW t := by unfold advT; rw [if_pos hok]
      have e4 : advD nw TW t = dueT TW t := by unfold advD; rw [if_pos hok]
      rw [e1, e2, e3, e4]
      refine (adv_ok h1 hn hm h.debw h.dg h.hw (by omega)).mono fun e w' ⟨q, he, hli, hu, hw', kb⟩ => ⟨q, he, hli, fun g hg e => ?_, h.turn h1 h2 hw' (fun g e => e.1) kb⟩
      rcases hu g hg with e5 | e5
      · exact (h2 g e5).2.2.2.1 e
      · have := h.lt1.1; omega
    · have hok : ¬ advOk nw t := fun e => hn e.1
      have e1 : advC nw t = 12 := by unfold advC; rw [if_pos hm, if_neg hn]
      have e2 : advN nw t = nw := by unfold advN; rw [if_neg hok]
      have e3 : advT nw TW t = TW := by unfold advT; rw [if_neg hok]
      have e4 : advD nw TW t = [] := by unfold advD; rw [if_neg hok]
      rw [e1, e2, e3, e4]
      exact (adv_back h1 hm (by omega)).mono fun e w' ⟨he, hw'⟩ => ⟨_, he, hnil w', fun g hg => (by cases hg), hw' ▸ h⟩
  · have hok : ¬ advOk nw t := fun e => hm e.2
    have e1 : advC nw t = 2 := by unfold advC; rw [if_neg hm]
    have e2 : advN nw t = nw := by unfold advN; rw [if_neg hok]
    have e3 : advT nw TW t = TW := by unfold advT; rw [if_neg hok]
    have e4 : advD nw TW t = [] := by unfold advD; rw [if_neg hok]
    rw [e1, e2, e3, e4]
    exact (adv_out h1 ht (by omega)).mono fun e w' ⟨he, hw'⟩ => ⟨_, he, hnil w', fun g hg => (by cases hg), hw' ▸ h⟩
/-- The reference's wheel is stored. -/
theorem P1.put (h : P1 base w0 wr b bx rx xb nw TW nm T v rob ob) {w1 : World} (hb : Below wr.heap.size wr w1) {nm' : Nat} {T' : List (Nat × Nat)} {v' : Value} (row : IRow 29 w1 base v' T') (hv : ∀ g, v'.ownBlock = some g → v.ownBlock = some g ∨ wr.heap.size ≤ g) :
    P1 base w0 ((w1.setCell ⟨bx, 0, none⟩ (.int .u64 (nm' : Nat))).setCell ⟨bx, 1, none⟩ v') b bx rx xb nw TW nm' T' v' rob ob := by
  have h' := h.later hb
  obtain ⟨l1, l2, l3⟩ := h.lt1
  obtain ⟨m1, m2, m3⟩ := h'.lt1
  obtain ⟨S, h1, h2⟩ := h.ex
  have kb : KB w1 ((w1.setCell ⟨bx, 0, none⟩ (.int .u64 (nm' : Nat))).setCell ⟨bx, 1, none⟩ v') (fun g => g = bx) := (kb_set w1 bx 0 _).trans (kb_set _ bx 1 _) (fun j _ e => e)
  have hv2 : ∀ g, v'.ownBlock = some g → g ≠ bx ∧ g ≠ rx ∧ g ≠ xb := fun g hg => by
    rcases hv g hg with e | e
    · exact h.vb g e
    · exact ⟨by omega, by omega, by omega⟩
  refine ⟨⟨S, (h1.later hb).keep kb (fun g e e2 => (h2 g e).2.2.2.1 e2), fun g e => let q := h2 g e; ⟨q.1, Nat.lt_of_lt_of_le q.2.1 (Nat.le_trans hb.size kb.size), fun e2 => ?_, q.2.2.2⟩⟩, row.keepKB kb (fun g hg => (hv2 g hg).1), hv2, blk_set (blk_set h'.box rfl) rfl, (kb.block rx m2 h.ne1).trans h'.rbx, (kb.block xb m3 h.ne2).trans h'.xbx, h'.bel.trans (kb.below h'.hw (fun g e => by rw [e]; exact h.hbx)), Nat.le_trans h'.hw kb.size, h.hw0, h.hbx, h.ne1, h.ne2, h.dg, h.deb⟩
  rcases hv g e2 with e3 | e3
  · exact q.2.2.1 e3
  · have := q.2.1; omega
/-- The reference's steps. -/
def RStep (base : Nat) (wr : World) (v : Value) (nm' : Nat) (T' : List (Nat × Nat)) (w' : World) (v' : Value) : Prop :=
  IRow 29 w' base v' T' ∧ (∀ g, v'.ownBlock = some g → v.ownBlock = some g ∨ wr.heap.size ≤ g) ∧ Below wr.heap.size wr w'
theorem rsched4 (hT : T.length ≤ 900) (so : T.Pairwise bef) (v : Value) (x : Nat × Nat) (row : IRow 29 w base v T) (hbase : base ≤ w.heap.size) :
    Calls Tryd.prog 27 #[.agg #[.int .u64 (now : Nat), v], .int .u64 (x.1 : Nat), .int .u64 (x.2 : Nat)] w fun e w' => ∃ (v' : Value), e = .returned (.tuple #[.agg #[.int .u64 (now : Nat), v'], .int .i64 (schC T x)]) ∧ RStep base w v now (schT T x) w' v' :=
  (rsched3 hT so v x row hbase).mono fun e w' ⟨v', he, a, c, d⟩ => ⟨v', he, a, c, d⟩
theorem rcancel4 (hT : T.length ≤ 900) (ids : (T.map Prod.fst).Nodup) (v : Value) (id : Nat) (row : IRow 29 w base v T) (hbase : base ≤ w.heap.size) :
    Calls Tryd.prog 54 #[.agg #[.int .u64 (now : Nat), v], .int .u64 (id : Nat)] w fun e w' => ∃ (v' : Value), e = .returned (.tuple #[.agg #[.int .u64 (now : Nat), v'], .int .i64 (cancC T id)]) ∧ RStep base w v now (noId T id) w' v' := by
  refine (rcancel_any hT (nodup_of_ids ids) v id row).mono fun e w' ⟨hp, hb⟩ => ?_
  rcases hp with ⟨hh, he⟩ | ⟨x, hx, rfl, v', he, row'⟩
  · have e1 : cancC T id = 6 := by unfold cancC; rw [if_neg (by rw [hh]; simp)]
    rw [e1, noId_none T id hh]
    exact ⟨v, he, row.later hb, fun g e => .inl e, hb⟩
  · have e1 : cancC T x.1 = 0 := by unfold cancC; rw [if_pos ((hasId_iff T x.1).2 ⟨x, hx, rfl⟩)]
    rw [e1, noId_wo ids hx]
    exact ⟨v', he, row'.base_le hbase, fun g e => .inr (row'.lt g e).1, hb⟩
theorem radv4 (hT : T.length ≤ 900) (so : T.Pairwise bef) (v : Value) (row : IRow 29 w base v T) (hbase : base ≤ w.heap.size) :
    Calls Tryd.prog 29 #[.agg #[.int .u64 (now : Nat), v], .int .u64 (t : Nat)] w fun e w' => ∃ (v' u : Value), e = .returned (.tuple #[.agg #[.int .u64 (advN now t : Nat), v'], u, .int .i64 (advC now t)]) ∧ Lies w' u (advD now T t) ∧ (∀ g, u.ownBlock = some g → v.ownBlock = some g) ∧ RStep base w v (advN now t) (advT now T t) w' v' := by
  refine (radv_any (now := now) (t := t) (by omega) so v row).mono fun e w' ⟨hp, hb⟩ => ?_
  have hnil : ∀ W, Lies W (.slice none 0 0) [] := fun W => (IRow.nil 34 W 0).lies
  rcases hp with ⟨q1, he⟩ | ⟨q1, q2, he⟩ | ⟨q1, q2, u, v', he, hl, hu, row'⟩
  · have hok : ¬ advOk now t := fun e => by have := e.2; omega
    have e1 : advC now t = 2 := by unfold advC; rw [if_neg (by omega)]
    have e2 : advN now t = now := by unfold advN; rw [if_neg hok]
    have e3 : advT now T t = T := by unfold advT; rw [if_neg hok]
    have e4 : advD now T t = [] := by unfold advD; rw [if_neg hok]
    rw [e1, e2, e3, e4]
    exact ⟨v, _, he, hnil w', fun g hg => (by cases hg), row.later hb, fun g e => .inl e, hb⟩
  · have hok : ¬ advOk now t := fun e => by have := e.1; omega
    have e1 : advC now t = 12 := by unfold advC; rw [if_pos q1, if_neg (by omega)]
    have e2 : advN now t = now := by unfold advN; rw [if_neg hok]
    have e3 : advT now T t = T := by unfold advT; rw [if_neg hok]
    have e4 : advD now T t = [] := by unfold advD; rw [if_neg hok]
    rw [e1, e2, e3, e4]
    exact ⟨v, _, he, hnil w', fun g hg => (by cases hg), row.later hb, fun g e => .inl e, hb⟩
  · have hok : advOk now t := ⟨q2, q1⟩
    have e1 : advC now t = 0 := by unfold advC; rw [if_pos q1, if_pos q2]
    have e2 : advN now t = t := by unfold advN; rw [if_pos hok]
    have e3 : advT now T t = restT T t := by unfold advT; rw [if_pos hok]
    have e4 : advD now T t = dueT T t := by unfold advD; rw [if_pos hok]
    rw [e1, e2, e3, e4]
    exact ⟨v', u, he, hl, hu, row'.base_le hbase, fun g e => .inr (row'.lt g e).1, hb⟩
theorem P1.same (h : P1 base w0 wr b bx rx xb nw T nw T v rob ob) (hT : T.length ≤ 1000) :
    Calls Tryd.prog 55 #[.pointer (some ⟨b, 0, none⟩), .agg #[.int .u64 (nw : Nat), v]] wr fun e w' => e = .returned (.bool true) ∧ Below wr.heap.size wr w' := by
  obtain ⟨S, h1, -⟩ := h.ex
  rcases Nat.eq_zero_or_pos T.length with e | e
  · have e0 := List.eq_nil_of_length_eq_zero e
    subst e0
    exact same_none h1 h.row hT rfl
  · exact same_some h1 h.row hT e
theorem P1.has (h : P1 base w0 wr b bx rx xb nw TW nm T v rob ob) (id : Nat) (hid : id < 18446744073709551616) : Calls Tryd.prog 35 #[.pointer (some ⟨b, 0, none⟩), .int .u64 (id : Nat)] wr fun e w' => e = .returned (.bool (hasId TW id)) ∧ Below wr.heap.size wr w' := by
  obtain ⟨S, h1, -⟩ := h.ex
  exact has_any h1 id hid
theorem rfind2 (hT : T.length ≤ 1000) (v : Value) (id : Nat) (lies : Lies w v T) :
    Calls Tryd.prog 48 #[.agg #[.int .u64 (now : Nat), v], .int .u64 (id : Nat)] w fun e w' => (∃ i : Int, e = .returned (.int .i64 i) ∧ decide (0 ≤ i) = hasId T id) ∧ Below w.heap.size w w' := by
  refine (rfind_any hT v id lies).mono fun e w' ⟨hp, hb⟩ => ⟨?_, hb⟩
  rcases hp with ⟨hh, he⟩ | ⟨i, hi, hid, he⟩
  · exact ⟨-1, he, by rw [hh]; rfl⟩
  · exact ⟨i, he, by rw [(hasId_iff T id).2 ⟨_, List.getElem_mem hi, hid⟩]; exact decide_eq_true (by omega)⟩
end Wh
end Go.Proofs.YtkjlfoihojfnbaaDoor
