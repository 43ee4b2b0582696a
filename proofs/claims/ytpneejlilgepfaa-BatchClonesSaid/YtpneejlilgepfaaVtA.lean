/- Trees of values (the program's api.Value) and how they lie in memory: the word 'Rep', what keeps it, and an argument opened into it. -/
import Derived.Test.YtpneejlilgepfaaNmA
import Derived.ChangeArms
import Derived.Below
import Derived.Deep.Draws
import Derived.ProofKit
import Derived.OpenShut
import Derived.Lib.SmallJoins
namespace Go.Proofs.Ytpneejlilgepfaa
open Go.RowKit
set_option linter.unusedVariables false
namespace Vt
open Nm (bitsW)

/-- A value: its kind, number, bits, text and list. -/
structure VT where mk ::
  k : Int
  n : Int
  f : Nat
  s : ByteArray
  l : List VT

theorem VT.ind {P : VT → Prop} (h : ∀ k n f s l, (∀ (i : Nat) (hi : i < l.length), P l[i]) → P (.mk k n f s l)) (t : VT) : P t :=
  VT.rec (motive_1 := P) (motive_2 := fun l => ∀ (i : Nat) (hi : i < l.length), P l[i]) (fun k n f s l ih => h k n f s l ih) (fun i hi => absurd hi (by simp))
    (fun t l iht ihl i hi => by
      cases i with
      | zero => exact iht
      | succ j => exact ihl j (by simpa using hi)) t

/-- What a tree comes to, from its leaves up. -/
def VT.fold {α : Type} (g : Int → Int → Nat → ByteArray → List α → α) : VT → α
  | ⟨k, n, f, s, l⟩ => g k n f s (l.map (fun t => t.fold g))

/-- What a value's own fields meet. -/
structure HeadOk (k n : Int) (f : Nat) (s : ByteArray) (m : Nat) : Prop where
  k0 : -9223372036854775808 ≤ k
  k1 : k ≤ 9223372036854775807
  n0 : -9223372036854775808 ≤ n
  n1 : n ≤ 9223372036854775807
  f1 : f < 18446744073709551616
  s1 : s.size ≤ maxLen
  m1 : m ≤ maxLen

/-- In the blocks from lo to hi (without it) a value lies as the tree. 'C i': element i as one value. -/
def Rep (w : World) (lo hi : Nat) (t : VT) : Value → Prop := t.fold fun k n f s r v =>
  ∃ (A : Option Addr) (cap : Nat) (C : Nat → Array Value), v = .agg #[.int .i64 k, .int .i64 n, .float .f64 f, .string s, .slice A r.length cap] ∧ HeadOk k n f s cap ∧ r.length ≤ cap ∧
    (0 < r.length → ∃ b off, A = some ⟨b, off, none⟩ ∧ lo ≤ b ∧ b < hi ∧ ∀ i, i < r.length → ∀ j, j < 5 → w.cell? ⟨b, off + i * 5 + j, none⟩ = (C i)[j]?) ∧
    ∀ i (h : i < r.length), r[i] (.agg (C i))

theorem rep_iff {w : World} {lo hi : Nat} {k n : Int} {f : Nat} {s : ByteArray} {l : List VT} {v : Value} : Rep w lo hi (.mk k n f s l) v ↔
  ∃ (A : Option Addr) (cap : Nat) (C : Nat → Array Value), v = .agg #[.int .i64 k, .int .i64 n, .float .f64 f, .string s, .slice A l.length cap] ∧ HeadOk k n f s cap ∧ l.length ≤ cap ∧
    (0 < l.length → ∃ b off, A = some ⟨b, off, none⟩ ∧ lo ≤ b ∧ b < hi ∧ ∀ i, i < l.length → ∀ j, j < 5 → w.cell? ⟨b, off + i * 5 + j, none⟩ = (C i)[j]?) ∧
    ∀ i (h : i < l.length), Rep w lo hi l[i] (.agg (C i)) := by
  unfold Rep
  rw [VT.fold]
  simp only [List.length_map, List.getElem_map]

theorem Rep.mk {w : World} {lo hi : Nat} (k n : Int) (f : Nat) (s : ByteArray) (l : List VT) (A : Option Addr) (cap : Nat) (C : Nat → Array Value) (ho : HeadOk k n f s cap) (hl : l.length ≤ cap)
      (hc : 0 < l.length → ∃ b off, A = some ⟨b, off, none⟩ ∧ lo ≤ b ∧ b < hi ∧ ∀ i, i < l.length → ∀ j, j < 5 → w.cell? ⟨b, off + i * 5 + j, none⟩ = (C i)[j]?)
      (hr : ∀ i (h : i < l.length), Rep w lo hi l[i] (.agg (C i))) :
      Rep w lo hi (.mk k n f s l) (.agg #[.int .i64 k, .int .i64 n, .float .f64 f, .string s, .slice A l.length cap]) := rep_iff.2 ⟨A, cap, C, rfl, ho, hl, hc, hr⟩

section
variable {w w' : World} {lo hi lo' hi' : Nat} {t : VT} {v : Value}

/-- A value's tree is known by its head; the elements by their index. -/
structure KidsAt (w : World) (lo hi : Nat) (l : List VT) (A : Option Addr) : Prop where
  at_ : 0 < l.length → ∃ b off, A = some ⟨b, off, none⟩ ∧ lo ≤ b ∧ b < hi ∧ ∀ i (h : i < l.length), ∃ k n f s L A' cap,
    l[i] = .mk k n f s L ∧ w.cell? ⟨b, off + i * 5, none⟩ = some (.int .i64 k) ∧ w.cell? ⟨b, off + i * 5 + 1, none⟩ = some (.int .i64 n) ∧ w.cell? ⟨b, off + i * 5 + 2, none⟩ = some (.float .f64 f) ∧
    w.cell? ⟨b, off + i * 5 + 3, none⟩ = some (.string s) ∧ w.cell? ⟨b, off + i * 5 + 4, none⟩ = some (.slice A' L.length cap) ∧ Rep w lo hi l[i] (.agg #[.int .i64 k, .int .i64 n, .float .f64 f, .string s, .slice A' L.length cap])

theorem Rep.open_ (h : Rep w lo hi t v) : ∃ k n f s l A cap, t = .mk k n f s l ∧ v = .agg #[.int .i64 k, .int .i64 n, .float .f64 f, .string s, .slice A l.length cap] ∧ HeadOk k n f s cap ∧ l.length ≤ cap ∧ KidsAt w lo hi l A := by
  obtain ⟨k, n, f, s, l⟩ := t
  obtain ⟨A, cap, C, hv, ho, hl, hc, hr⟩ := rep_iff.1 h
  refine ⟨k, n, f, s, l, A, cap, rfl, hv, ho, hl, ⟨fun hp => ?_⟩⟩
  obtain ⟨b, off, hA, h1, h2, h3⟩ := hc hp
  refine ⟨b, off, hA, h1, h2, fun i hi => ?_⟩
  have hk := hr i hi
  have h0 := h3 i hi
  generalize hC : C i = c at hk h0
  generalize hL : l[i] = t' at hk ⊢
  obtain ⟨k', n', f', s', l'⟩ := t'
  obtain ⟨A', cap', C', hv', ho', hl', hc', hr'⟩ := rep_iff.1 hk
  injection hv' with hv'
  subst hv'
  have e0 := h0 0 (by omega); have e1 := h0 1 (by omega); have e2 := h0 2 (by omega); have e3 := h0 3 (by omega); have e4 := h0 4 (by omega)
  exact ⟨k', n', f', s', l', A', cap', rfl, by simpa using e0, by simpa using e1, by simpa using e2, by simpa using e3, by simpa using e4, .mk k' n' f' s' l' A' cap' C' ho' hl' hc' hr'⟩

theorem Rep.head {k n : Int} {f : Nat} {s : ByteArray} {l : List VT} {v : Value} (h : Rep w lo hi (.mk k n f s l) v) :
    ∃ A cap, v = .agg #[.int .i64 k, .int .i64 n, .float .f64 f, .string s, .slice A l.length cap] ∧ HeadOk k n f s cap ∧ l.length ≤ cap ∧ KidsAt w lo hi l A := by
  obtain ⟨k', n', f', s', l', A, cap, ht, hv, ho, hl, hk⟩ := h.open_
  obtain ⟨rfl, rfl, rfl, rfl, rfl⟩ := VT.mk.inj ht
  exact ⟨A, cap, hv, ho, hl, hk⟩

theorem Rep.keep (h : Rep w lo hi t v) (hk : ∀ b o, lo ≤ b → b < hi → w'.cell? ⟨b, o, none⟩ = w.cell? ⟨b, o, none⟩) : Rep w' lo hi t v := by
  induction t using VT.ind generalizing v with
  | _ k n f s l ih =>
    obtain ⟨A, cap, C, rfl, ho, hl, hc, hr⟩ := rep_iff.1 h
    refine .mk k n f s l A cap C ho hl (fun hp => ?_) (fun i hi => ih i hi (hr i hi))
    obtain ⟨b, off, hA, h1, h2, h3⟩ := hc hp
    exact ⟨b, off, hA, h1, h2, fun i hi j hj => (hk _ _ h1 h2).trans (h3 i hi j hj)⟩

theorem Rep.more (h : Rep w lo hi t v) (h1 : lo' ≤ lo) (h2 : hi ≤ hi') : Rep w lo' hi' t v := by
  induction t using VT.ind generalizing v with
  | _ k n f s l ih =>
    obtain ⟨A, cap, C, rfl, ho, hl, hc, hr⟩ := rep_iff.1 h
    refine .mk k n f s l A cap C ho hl (fun hp => ?_) (fun i hi => ih i hi (hr i hi))
    obtain ⟨b, off, hA, h3, h4, h5⟩ := hc hp
    exact ⟨b, off, hA, by omega, by omega, h5⟩

theorem Rep.later (h : Rep w lo hi t v) (hb : Below hi w w') : Rep w' lo hi t v := h.keep fun b o _ h2 => hb.cell (p := ⟨b, o, none⟩) h2
theorem Rep.drewN (h : Rep w lo hi t v) (n : Nat) : Rep (w.drewN n) lo hi t v := h.keep fun b o _ _ => by simp
theorem Rep.drew (h : Rep w lo hi t v) : Rep w.drew lo hi t v := h.keep fun _ _ _ _ => rfl
theorem Rep.alloc (h : Rep w lo hi t v) (hz : hi ≤ w.heap.size) (o : Obj) : Rep (w.alloc o) lo hi t v := h.keep fun b off _ h2 => World.cell?_alloc_lt w o ⟨b, off, none⟩ (by simp only []; omega)
theorem Rep.setCell (h : Rep w lo hi t v) {p : Addr} (hp : p.block < lo ∨ hi ≤ p.block) (u : Value) : Rep (w.setCell p u) lo hi t v :=
  h.keep fun b o h1 h2 => World.cell?_setCell_other w p ⟨b, o, none⟩ u (fun e => by subst e; simp only [] at hp; omega)

/-- A value without a list. -/
theorem Rep.leaf {k n : Int} {f : Nat} {s : ByteArray} (ho : HeadOk k n f s 0) : Rep w lo hi (.mk k n f s []) (.agg #[.int .i64 k, .int .i64 n, .float .f64 f, .string s, .slice none 0 0]) :=
  .mk k n f s [] none 0 (fun _ => #[]) ho (Nat.le_refl _) (fun h => absurd h (by simp)) (fun i h => absurd h (by simp))

theorem KidsAt.keep {l : List VT} {A : Option Addr} (h : KidsAt w lo hi l A) (hk : ∀ b o, lo ≤ b → b < hi → w'.cell? ⟨b, o, none⟩ = w.cell? ⟨b, o, none⟩) : KidsAt w' lo hi l A := ⟨fun hp => by
  obtain ⟨b, off, hA, h1, h2, h3⟩ := h.at_ hp
  refine ⟨b, off, hA, h1, h2, fun i hi => ?_⟩
  obtain ⟨k, n, f, s, L, A', cap, e, c0, c1, c2, c3, c4, hr⟩ := h3 i hi
  exact ⟨k, n, f, s, L, A', cap, e, (hk _ _ h1 h2).trans c0, (hk _ _ h1 h2).trans c1, (hk _ _ h1 h2).trans c2, (hk _ _ h1 h2).trans c3, (hk _ _ h1 h2).trans c4, hr.keep hk⟩⟩
theorem KidsAt.later {l : List VT} {A : Option Addr} (h : KidsAt w lo hi l A) (hb : Below hi w w') : KidsAt w' lo hi l A := h.keep fun b o _ h2 => hb.cell (p := ⟨b, o, none⟩) h2
theorem KidsAt.drew {l : List VT} {A : Option Addr} (h : KidsAt w lo hi l A) : KidsAt w.drew lo hi l A := h.keep fun _ _ _ _ => rfl
theorem below_drew {B : Nat} {a w : World} (h : Below B a w) : Below B a w.drew := ⟨h.os, h.tape, h.output, h.size, h.block⟩
theorem KidsAt.alloc {l : List VT} {A : Option Addr} (h : KidsAt w lo hi l A) (hz : hi ≤ w.heap.size) (o : Obj) : KidsAt (w.alloc o) lo hi l A := h.keep fun b off _ h2 => World.cell?_alloc_lt w o ⟨b, off, none⟩ (by simp only []; omega)

/-- A value built of its head and its kids. -/
theorem Rep.close {k n : Int} {f : Nat} {s : ByteArray} {l : List VT} {A : Option Addr} {cap : Nat} (ho : HeadOk k n f s cap) (hl : l.length ≤ cap) (hk : KidsAt w lo hi l A) :
    Rep w lo hi (.mk k n f s l) (.agg #[.int .i64 k, .int .i64 n, .float .f64 f, .string s, .slice A l.length cap]) := by
  by_cases hp : 0 < l.length
  · obtain ⟨b, off, hA, h1, h2, h3⟩ := hk.at_ hp
    have h4 : ∀ i : Nat, ∃ C : Array Value, ∀ (h : i < l.length), (∀ j, j < 5 → w.cell? ⟨b, off + i * 5 + j, none⟩ = C[j]?) ∧ Rep w lo hi l[i] (.agg C) := fun i => by
      by_cases h : i < l.length
      · obtain ⟨k, n, f, s, L, A', cap, e, c0, c1, c2, c3, c4, hr⟩ := h3 i h
        refine ⟨_, fun _ => ⟨fun j hj => ?_, hr⟩⟩
        rcases (by omega : j = 0 ∨ j = 1 ∨ j = 2 ∨ j = 3 ∨ j = 4) with rfl | rfl | rfl | rfl | rfl
        all_goals simpa
      · exact ⟨#[], fun h' => absurd h' h⟩
    obtain ⟨C, hC⟩ := Classical.axiomOfChoice h4
    exact .mk k n f s l A cap C ho hl (fun _ => ⟨b, off, hA, h1, h2, fun i hi => (hC i hi).1⟩) (fun i hi => (hC i hi).2)
  · exact .mk k n f s l A cap (fun _ => #[]) ho hl (fun h => absurd h hp) (fun i h => absurd h (by omega))
end

section
open Go.ChangeShapes Go.WideShapes Go.ChangeAt Go.Joins Go.Deep
theorem float_cell {H : Type} {enc : TypeId × Value → H} {P : Program} {W : World} {base : Nat} {spare : Nat → Bool} {held : Bool} {t : TypeId} {k : FloatKind} {v : Value} {y : DataW H × List MemPlace} {n : Nat}
    (ht : P.underlying t = some (.float k)) (h : DataW.trod enc P W base spare held n t [v] = some y) : ∃ b, v = .float k b ∧ (Lit.float k b).wf = true := by
  cases n with
  | zero => simp [DataW.trod] at h
  | succ n =>
    cases v <;> simp [DataW.trod, ht] at h
    all_goals first | exact ⟨_, by rw [← h.1.1], by simpa [h.1.1] using h.1⟩ | (rename_i k' b; by_cases hk : k' = k <;> simp_all)

theorem five (cs : List Value) (h : cs.length = 5) : ∃ a b c d e, cs = [a, b, c, d, e] := by
  match cs, h with
  | [a, b, c, d, e], _ => exact ⟨a, b, c, d, e, rfl⟩

/-- WHATEVER READS AS A VALUE IS A TREE. -/
theorem open_vt {H : Type} {enc : TypeId × Value → H} {W : World} {base : Nat} {spare : Nat → Bool} {held : Bool} : ∀ (fuel : Nat) (cs : List Value) (x : DataW H × List MemPlace),
    DataW.trod enc Try.prog W base spare held fuel 33 cs = some x → ∃ t, Rep W base W.heap.size t (.agg cs.toArray) := by
  intro fuel
  induction fuel using Nat.strongRecOn with
  | _ fuel ih =>
    intro cs x h
    have hC : Try.prog.cellsOf 33 = 5 := by kernel_rfl
    obtain ⟨xs, n, hn, hx, hlen, hxl, hg⟩ := DataW.trod_struct Try.underlying33 h
    obtain ⟨c0, c1, c2, c3, c4, rfl⟩ := five cs (hlen.trans hC)
    have hx : ∀ j : Nat, j < 5 → ∃ y, xs[j]? = some y := fun j hj => ⟨_, List.getElem?_eq_getElem (by rw [hxl]; exact hj)⟩
    obtain ⟨y0, z0⟩ := hx 0 (by omega); obtain ⟨y1, z1⟩ := hx 1 (by omega); obtain ⟨y2, z2⟩ := hx 2 (by omega); obtain ⟨y3, z3⟩ := hx 3 (by omega); obtain ⟨y4, z4⟩ := hx 4 (by omega)
    have g0 := (hg 0 _ rfl).trans z0; have g1 := (hg 1 _ rfl).trans z1; have g2 := (hg 2 _ rfl).trans z2; have g3 := (hg 3 _ rfl).trans z3; have g4 := (hg 4 _ rfl).trans z4
    have k1 : Try.prog.cellsOf 3 = 1 := by kernel_rfl
    have k2 : Try.prog.cellsOf 2 = 1 := by kernel_rfl
    have k3 : Try.prog.cellsOf 30 = 1 := by kernel_rfl
    have k4 : Try.prog.cellsOf 9 = 1 := by kernel_rfl
    have k5 : Try.prog.cellsOf 31 = 1 := by kernel_rfl
    simp [k1, k2, k3, k4, k5] at g0 g1 g2 g3 g4
    obtain ⟨k, e0, -, w0⟩ := DataW.trod_int Try.underlying3 g0
    obtain ⟨m, e1, -, w1⟩ := DataW.trod_int Try.underlying2 g1
    obtain ⟨f, e2, w2⟩ := float_cell Try.underlying30 g2
    obtain ⟨s, e3, -, w3⟩ := DataW.trod_string Try.underlying9 g3
    obtain rfl := List.singleton_inj.1 e0
    obtain rfl := List.singleton_inj.1 e1
    obtain rfl := e2
    obtain rfl := List.singleton_inj.1 e3
    simp [Lit.wf, IntKind.min, IntKind.max, IntKind.bits, IntKind.signed] at w0 w1 w2
    have fl : f < 18446744073709551616 := by simpa [FloatKind.format] using w2
    rcases DataW.trod_slice Try.underlying31 g4 with ⟨e4, -⟩ | ⟨a, len, cap, elems, rest, n', hn', e4, -, hb, hl, hm, hel, he, -, -⟩
    · obtain rfl := List.singleton_inj.1 e4
      exact ⟨.mk k m f s [], .leaf ⟨by omega, by omega, by omega, by omega, fl, w3, by unfold maxLen; omega⟩⟩
    · obtain rfl := List.singleton_inj.1 e4
      have h4 : ∀ i : Nat, ∃ tC : VT × Array Value, i < len → (∀ j, j < 5 → W.cell? (a.add (i * 5) |>.add j) = tC.2[j]?) ∧ Rep W base W.heap.size tC.1 (.agg tC.2) := fun i => by
        by_cases hi : i < len
        · have e := he i hi
          rw [List.getElem?_eq_getElem (by omega)] at e
          obtain ⟨cs', q1, q2⟩ := Option.bind_eq_some_iff.1 e
          obtain ⟨t, ht⟩ := ih n' (by omega) cs' _ q2
          rw [hC] at q1
          obtain ⟨_, ql, qc⟩ := World.cells?_some q1
          exact ⟨(t, cs'.toArray), fun _ => ⟨fun j hj => by rw [qc j hj]; simp, ht⟩⟩
        · exact ⟨(.mk 0 0 0 .empty [], #[]), fun h => absurd h hi⟩
      obtain ⟨F, hF⟩ := Classical.axiomOfChoice h4
      have hlen' : ((List.range len).map fun i => (F i).1).length = len := by simp
      refine ⟨.mk k m f s ((List.range len).map fun i => (F i).1), ?_⟩
      have R := Rep.mk (w := W) (lo := base) (hi := W.heap.size) k m f s ((List.range len).map fun i => (F i).1) (some a) cap (fun i => (F i).2) ⟨by omega, by omega, by omega, by omega, fl, w3, hm⟩ (by rw [hlen']; exact hl) ?_ ?_
      · rw [hlen'] at R; exact R
      · intro hp
        rw [hlen'] at hp ⊢
        have h0 := (hF 0 hp).1 0 (by omega)
        obtain ⟨b, off, spot⟩ := a
        have hs : spot = none := by
          have h5 : ∃ u, (F 0).2[0]? = some u := by
            have := (hF 0 hp).2
            generalize F 0 = p at this ⊢
            obtain ⟨p1, p2⟩ := p
            obtain ⟨_, _, _, _, _, _, _, _, hv, -⟩ := this.open_
            injection hv with hv
            subst hv
            exact ⟨_, rfl⟩
          obtain ⟨u, hu⟩ := h5
          rw [hu] at h0
          cases spot with
          | none => rfl
          | some q =>
            simp [Addr.add, World.cell?] at h0
            split at h0 <;> simp at h0
        subst hs
        have hlt : b < W.heap.size := by
          rcases Nat.lt_or_ge b W.heap.size with q | q
          · exact q
          · have h5 : ∃ u, (F 0).2[0]? = some u := by
              have := (hF 0 hp).2
              generalize F 0 = p at this ⊢
              obtain ⟨p1, p2⟩ := p
              obtain ⟨_, _, _, _, _, _, _, _, hv, -⟩ := this.open_
              injection hv with hv
              subst hv
              exact ⟨_, rfl⟩
            obtain ⟨u, hu⟩ := h5
            rw [hu] at h0
            simp [Addr.add, World.cell?, Array.getElem?_eq_none q] at h0
        refine ⟨b, off, rfl, hb, hlt, fun i hi j hj => ?_⟩
        have := (hF i hi).1 j hj
        rw [← this, Go.Deep.add_add, add_plain, Nat.add_assoc]
      · intro i hi
        rw [hlen'] at hi
        simpa using (hF i hi).2
end
end Vt
end Go.Proofs.Ytpneejlilgepfaa
