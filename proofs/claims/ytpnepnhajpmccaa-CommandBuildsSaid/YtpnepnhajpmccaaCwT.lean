/- Two builders and the reference's, side by side in one memory; events that are changed. -/
import Derived.Test.YtpnepnhajpmccaaCwS
namespace Go.Proofs.Ytpnepnhajpmccaa
open Go.RowKit
set_option linter.unusedVariables false
namespace Cm
variable {X : Nat → Prop}
open Nm (bitsW ret_int ret_bool)
open Vt (VT Rep BoxAt below_drew Cloned put5 toList_inj rowCells)
open Ev (EV FieldsOk evCells vCells EBox ERep zeroT)

theorem BAt.fresh {X' : Nat → Prop} {w : World} {base base' g : Nat} {closed : Int} {next at' : Nat} (h : BAt X w base g none 0 [] closed next at') (hb : base' ≤ g) : BAt X' w base' g none 0 [] closed next at' :=
  ⟨h.blk, hb, [], ⟨rfl, .inl ⟨rfl, rfl⟩⟩, by simp [rowOf], fun i h => absurd h (by simp)⟩

/-- The blocks that others write. -/
def Hot (g gm : Nat) (A : Option Addr) (x : Nat) : Prop := x = g ∨ x = gm ∨ rowOf A = some x

/-- Two builders and the reference's. -/
structure TW (w wr : World) (ga gb gm : Nat) (sa sb sm : BS) (Aa Ab Am : Option Addr) (cm : Nat) : Prop where
  below : Below w.heap.size w wr
  gm_ge : w.heap.size ≤ gm
  ha : BH (Hot gb gm Ab) wr w.heap.size ga Aa sa
  hb : BH (Hot ga gm Aa) wr w.heap.size gb Ab sb
  hm : MAt wr w.heap.size Am cm sm.es
  box : wr.heap[gm]? = some (.cells #[.int .u64 sm.next, .int .u64 sm.at', .slice Am sm.es.length cm] 30 (0, 0))
  gab : ga ≠ gb
  gam : ga ≠ gm
  gbm : gb ≠ gm
  rab : rowOf Aa ≠ some gb
  ram : rowOf Aa ≠ some gm
  rba : rowOf Ab ≠ some ga
  rbm : rowOf Ab ≠ some gm
  rma : rowOf Am ≠ some ga
  rmb : rowOf Am ≠ some gb
  rmm : rowOf Am ≠ some gm
  rr1 : ∀ r, rowOf Aa = some r → rowOf Ab ≠ some r
  rr2 : ∀ r, rowOf Aa = some r → rowOf Am ≠ some r
  rr3 : ∀ r, rowOf Ab = some r → rowOf Am ≠ some r

variable {w wr w' : World} {ga gb gm : Nat} {sa sb sm s' : BS} {Aa Ab Am : Option Addr} {cm : Nat}

theorem TW.symm (h : TW w wr ga gb gm sa sb sm Aa Ab Am cm) : TW w wr gb ga gm sb sa sm Ab Aa Am cm :=
  ⟨h.below, h.gm_ge, h.hb, h.ha, h.hm, h.box, h.gab.symm, h.gbm, h.gam, h.rba, h.rbm, h.rab, h.ram, h.rmb, h.rma, h.rmm, fun r h1 h2 => h.rr1 r h2 h1, h.rr3, h.rr2⟩

theorem TW.later (h : TW w wr ga gb gm sa sb sm Aa Ab Am cm) (hb : Below wr.heap.size wr w') : TW w w' ga gb gm sa sb sm Aa Ab Am cm :=
  { h with below := h.below.trans (hb.mono h.below.size), ha := h.ha.later hb, hb := h.hb.later hb, hm := h.hm.later h.below.size hb, box := (hb.block gm (Array.getElem?_eq_some_iff.1 h.box).1).trans h.box }

theorem TW.gm_lt (h : TW w wr ga gb gm sa sb sm Aa Ab Am cm) : gm < wr.heap.size := (Array.getElem?_eq_some_iff.1 h.box).1

theorem TW.stepA (h : TW w wr ga gb gm sa sb sm Aa Ab Am cm) (hs : BStep (Hot gb gm Ab) wr w' w.heap.size ga Aa s') : ∃ Aa', TW w w' ga gb gm s' sb sm Aa' Ab Am cm := by
  obtain ⟨Aa', h1, h2, h3⟩ := hs
  have hblk : ∀ b, b < wr.heap.size → b ≠ ga → rowOf Aa ≠ some b → w'.heap[b]? = wr.heap[b]? := fun b hb q1 q2 => h2.block b hb q1 (fun e => q2 e.symm)
  have hga := h.ha.lt
  have hgb := h.hb.lt
  have hgm := h.gm_lt
  have hrA : ∀ r, rowOf Aa' = some r → rowOf Aa = some r ∨ wr.heap.size ≤ r := fun r hr => h3.elim (fun e => .inl (e ▸ hr)) (fun k => .inr (k r hr))
  have hnew : ∀ x, x < wr.heap.size → rowOf Aa ≠ some x → rowOf Aa' ≠ some x := fun x hx hn e => by
    rcases hrA x e with q | q
    · exact hn q
    · omega
  refine ⟨Aa', ⟨h.below.trans ((h2.below (base := w.heap.size) hga.2 (fun r hr => (h.ha.row_lt hr).2) h.below.size)), h.gm_ge, h1, ?_, ?_, (hblk gm hgm h.gam.symm h.ram).trans h.box, h.gab, h.gam, h.gbm, hnew gb hgb.1 h.rab, hnew gm hgm h.ram, h.rba, h.rbm, h.rma, h.rmb, h.rmm, ?_, ?_, h.rr3⟩⟩
  · have k1 : BH (fun x => x = ga ∨ x = gm ∨ rowOf Aa = some x ∨ rowOf Aa' = some x) wr w.heap.size gb Ab sb := h.hb.hot (fun b hb => by
      rcases hb with q | q | q | q
      · exact .inl (.inl q)
      · exact .inl (.inr (.inl q))
      · exact .inl (.inr (.inr q))
      · exact (hrA b q).imp (fun e => .inr (.inr e)) id)
    have k2 := k1.frame h2.size (fun b hb hn => hblk b hb (fun e => hn (.inl e)) (fun e => hn (.inr (.inr (.inl e))))) (fun q => by
      rcases q with q | q | q | q
      · exact h.gab q.symm
      · exact h.gbm q
      · exact h.rab q
      · exact hnew gb hgb.1 h.rab q) (fun r hr q => by
      have hrl := (h.hb.row_lt hr).1
      rcases q with q | q | q | q
      · subst q; exact h.rba hr
      · subst q; exact h.rbm hr
      · exact h.rr1 r q hr
      · exact hnew r hrl (fun e => h.rr1 r e hr) q)
    exact k2.hot (fun b hb => .inl (hb.elim .inl (fun q => .inr (q.elim .inl (fun q => .inr (.inr q))))))
  · refine h.hm.frame (h2.below (base := w.heap.size) hga.2 (fun r hr => (h.ha.row_lt hr).2) h.below.size) (fun r hr => hblk r (h.hm.row_in hr) (fun e => h.rma (e ▸ hr)) (fun e => h.rr2 r e hr))
  · intro r hr hb
    rcases hrA r hr with q | q
    · exact h.rr1 r q hb
    · have := (h.hb.row_lt hb).1; omega
  · intro r hr hb
    rcases hrA r hr with q | q
    · exact h.rr2 r q hb
    · have := h.hm.row_in hb; omega

/-- A step of the reference's builder: its call, then the store into its variable. -/
theorem TW.stepM {Am' : Option Addr} {cm' : Nat} (h : TW w wr ga gb gm sa sb sm Aa Ab Am cm) (hr : RRes wr w' w.heap.size Am s' Am' cm') :
    TW w (((w'.setCell ⟨gm, 0, none⟩ (.int .u64 s'.next)).setCell ⟨gm, 1, none⟩ (.int .u64 s'.at')).setCell ⟨gm, 2, none⟩ (.slice Am' s'.es.length cm')) ga gb gm sa sb s' Aa Ab Am' cm' := by
  obtain ⟨h1, h2, h3⟩ := hr
  have k := h.later h1
  have hga := h.ha.lt
  have hgb := h.hb.lt
  have hgm := h.gm_lt
  have hrM : ∀ r, rowOf Am' = some r → rowOf Am = some r ∨ wr.heap.size ≤ r := fun r hr => h3.elim (fun e => .inl (by rw [← e]; exact hr)) (fun k => .inr (k r hr))
  have hnew : ∀ x, x < wr.heap.size → rowOf Am ≠ some x → rowOf Am' ≠ some x := fun x hx hn e => by
    rcases hrM x e with q | q
    · exact hn q
    · omega
  have hsz : ∀ (W : World) (p : Addr) (v : Value), (W.setCell p v).heap.size = W.heap.size := fun W p v => by simp [World.setCell]
  have hblk : ∀ (v0 v1 v2 : Value) (b : Nat), b ≠ gm → (((w'.setCell ⟨gm, 0, none⟩ v0).setCell ⟨gm, 1, none⟩ v1).setCell ⟨gm, 2, none⟩ v2).heap[b]? = w'.heap[b]? := fun v0 v1 v2 b hb => by
    rw [Below.heap_setCell _ _ _ b (by simpa using hb), Below.heap_setCell _ _ _ b (by simpa using hb), Below.heap_setCell _ _ _ b (by simpa using hb)]
  have hbel : ∀ (v0 v1 v2 : Value), Below w.heap.size w (((w'.setCell ⟨gm, 0, none⟩ v0).setCell ⟨gm, 1, none⟩ v1).setCell ⟨gm, 2, none⟩ v2) := fun v0 v1 v2 =>
    (((k.below).setCell h.gm_ge v0).setCell h.gm_ge v1).setCell h.gm_ge v2
  have keepB : ∀ {g g' : Nat} {A B : Option Addr} {s : BS} (v0 v1 v2 : Value), BH (Hot g' gm B) w' w.heap.size g A s → g ≠ gm → rowOf A ≠ some gm → BH (Hot g' gm B) (((w'.setCell ⟨gm, 0, none⟩ v0).setCell ⟨gm, 1, none⟩ v1).setCell ⟨gm, 2, none⟩ v2) w.heap.size g A s := by
    intro g g' A B s v0 v1 v2 q q1 q2
    obtain ⟨cap, hq⟩ := q
    refine ⟨cap, (hblk v0 v1 v2 g q1).trans hq.blk, hq.base_le, ?_⟩
    obtain ⟨xs, p1, p2, p3⟩ := hq.rows
    refine ⟨xs, ⟨p1.1, ?_⟩, p2, fun i hi => ?_⟩
    · rcases p1.2 with h | ⟨r, cp, cur, z1, z2, z3, z4⟩
      · exact .inl h
      · refine .inr ⟨r, cp, cur, z1, z2, ?_, z4⟩
        injection z1 with z1
        subst z1
        exact (hblk v0 v1 v2 r (fun e => q2 (by rw [← e]; rfl))).trans z3
    · obtain ⟨lo, hi, vk, vn, vf, vs, A, m, c, p1, p2, p3, p4, p5, p6⟩ := p3 i hi
      refine ⟨lo, hi, vk, vn, vf, vs, A, m, c, p1, p2.keep fun b o hb1 hb2 => ?_, by simp only [hsz]; exact p3, p4, p5, p6⟩
      exact World.cell?_of_block (a := ⟨b, o, none⟩) (hblk v0 v1 v2 b (fun e => by have := p5 b (.inr (.inr (.inl e))); omega))
  refine ⟨hbel _ _ _, h.gm_ge, keepB _ _ _ k.ha h.gam h.ram, keepB _ _ _ k.hb h.gbm h.rbm, ?_, ?_, h.gab, h.gam, h.gbm, h.rab, h.ram, h.rba, h.rbm, hnew ga hga.1 h.rma, hnew gb hgb.1 h.rmb, hnew gm hgm h.rmm, h.rr1, ?_, ?_⟩
  · exact h2.frame (((Below.refl _ _).setCell h.gm_ge _).setCell h.gm_ge _ |>.setCell h.gm_ge _) (fun r hr => hblk _ _ _ r (fun e => hnew gm hgm h.rmm (e ▸ hr)))
  · have := k.box
    simp [World.setCell, Array.getElem?_modify, this]
  · intro r hr hm
    rcases hrM r hm with q | q
    · exact h.rr2 r hr q
    · have := (h.ha.row_lt hr).1; omega
  · intro r hr hm
    rcases hrM r hm with q | q
    · exact h.rr3 r hr q
    · have := (h.hb.row_lt hr).1; omega

/-! ### Events that are changed -/
/-- The numbers of a list of values can be written. -/
def NAt (w : World) (base r : Nat) (A : Option Addr) (m : Nat) : Prop := 0 < m → ∃ b off, A = some ⟨b, off, none⟩ ∧ b ≠ r ∧ base ≤ b ∧ b < w.heap.size ∧ ∀ k, k < m → (∃ x, w.cell? ⟨b, off + k * 5 + 1, none⟩ = some (.int .i64 x)) ∧ w.frozen? ⟨b, off + k * 5 + 1, none⟩ = false

/-- A row of events whose numbers can be written. -/
def MutAt (w : World) (base : Nat) (A : Option Addr) (n : Nat) : Prop := 0 < n → ∃ r, A = some ⟨r, 0, none⟩ ∧ base ≤ r ∧ r < w.heap.size ∧ ∀ p, p < n → ∃ (e : EV) (vk vn : Int) (vf : Nat) (vs : ByteArray) (A' : Option Addr) (m c : Nat),
  (∀ q, q < 11 → w.cell? ⟨r, p * 11 + q, none⟩ = (evCells e vk vn vf vs A' m c)[q]?) ∧ m ≤ c ∧ c ≤ maxLen ∧ NAt w base r A' m

theorem set_int {w : World} {p q : Addr} {y : Int} (h : ∃ x, w.cell? q = some (.int .i64 x)) : ∃ x, (w.setCell p (.int .i64 y)).cell? q = some (.int .i64 x) := by
  by_cases e : p = q
  · subst e
    obtain ⟨x, hx⟩ := h
    exact ⟨y, World.cell?_setCell_same w p _ hx⟩
  · obtain ⟨x, hx⟩ := h
    exact ⟨x, by rw [World.cell?_setCell_other w p q _ (fun h => e h)]; exact hx⟩
theorem NAt.set {w : World} {base r : Nat} {A : Option Addr} {m : Nat} (h : NAt w base r A m) (p : Addr) (y : Int) : NAt (w.setCell p (.int .i64 y)) base r A m := fun hp => by
  obtain ⟨b, off, h1, h2, h3, h4, h5⟩ := h hp
  exact ⟨b, off, h1, h2, h3, by simpa [World.setCell] using h4, fun k hk => ⟨set_int (h5 k hk).1, by simpa using (h5 k hk).2⟩⟩
theorem MutAt.set {w : World} {base : Nat} {A : Option Addr} {n : Nat} (h : MutAt w base A n) (p : Addr) (hp : ∀ r, A = some ⟨r, 0, none⟩ → p.block ≠ r) (y : Int) : MutAt (w.setCell p (.int .i64 y)) base A n := fun hn => by
  obtain ⟨r, rfl, h1, h2, h3⟩ := h hn
  refine ⟨r, rfl, h1, by simpa [World.setCell] using h2, fun i hi => ?_⟩
  obtain ⟨e, vk, vn, vf, vs, A', m, c, h4, h5, h6, h7⟩ := h3 i hi
  exact ⟨e, vk, vn, vf, vs, A', m, c, fun q hq => (World.cell?_setCell_other w p _ _ (fun e => hp r rfl (by rw [e]))).trans (h4 q hq), h5, h6, h7.set p y⟩
theorem NAt.later {w w' : World} {base r : Nat} {A : Option Addr} {m : Nat} (h : NAt w base r A m) (hb : Below w.heap.size w w') : NAt w' base r A m := fun hp => by
  obtain ⟨b, off, h1, h2, h3, h4, h5⟩ := h hp
  refine ⟨b, off, h1, h2, h3, Nat.lt_of_lt_of_le h4 hb.size, fun k hk => ⟨?_, ?_⟩⟩
  · rw [hb.cell (p := ⟨b, _, none⟩) h4]; exact (h5 k hk).1
  · rw [World.frozen?_of_block (a := ⟨b, _, none⟩) (hb.block b h4)]; exact (h5 k hk).2
theorem MutAt.later {w w' : World} {base : Nat} {A : Option Addr} {n : Nat} (h : MutAt w base A n) (hb : Below w.heap.size w w') : MutAt w' base A n := fun hn => by
  obtain ⟨r, rfl, h1, h2, h3⟩ := h hn
  refine ⟨r, rfl, h1, Nat.lt_of_lt_of_le h2 hb.size, fun i hi => ?_⟩
  obtain ⟨e, vk, vn, vf, vs, A', m, c, h4, h5, h6, h7⟩ := h3 i hi
  exact ⟨e, vk, vn, vf, vs, A', m, c, fun q hq => (hb.cell (p := ⟨r, _, none⟩) h2).trans (h4 q hq), h5, h6, h7.later hb⟩
theorem EvsAt.mut {w : World} {base : Nat} {A : Option Addr} {cap n : Nat} {es : List EV} (h : EvsAt w base A cap n es) : MutAt w base A n := fun hn => by
  have hl : es.length = n := h.1
  obtain ⟨r, lo, hi, vk, vn, vf, vs, A', m, c, rfl, hr, hbr, -⟩ := evs_cells h 0 (by omega)
  refine ⟨r, rfl, hbr, hr, fun p hp => ?_⟩
  obtain ⟨r', lo, hi, vk, vn, vf, vs, A', m, c, hA, hr', -, hlo, hap, hfr, hf, hrep, hhi, -, -, hc⟩ := evs_cells h p (by omega)
  injection hA with hA
  injection hA with hA _ _
  subst hA
  obtain ⟨k, n', f, s, l, A2, cap2, ht, hv, ho, hle, hk⟩ := hrep.open_
  injection hv with hv
  simp at hv
  obtain ⟨-, -, -, -, rfl, rfl, rfl⟩ := hv
  refine ⟨es[p], vk, vn, vf, vs, A', l.length, c, hc, hle, ho.m1, fun hm => ?_⟩
  obtain ⟨b, off, hA', h1, h2, h3⟩ := hk.at_ hm
  have hbl : b < w.heap.size := by omega
  refine ⟨b, off, hA', by omega, by omega, hbl, fun k hk => ?_⟩
  obtain ⟨_, x, _, _, _, _, _, -, -, c1, -⟩ := h3 k hk
  exact ⟨⟨x, c1⟩, hfr (by rw [ht]; exact hm) b off hA' _⟩
end Cm
end Go.Proofs.Ytpnepnhajpmccaa
