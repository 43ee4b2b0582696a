/- A scope with two labels; a wheel's Advance. -/
import Derived.Test.YtkjlfoihojfnbaaDoorWhG
import Derived.Test.YtkjlfoihojfnbaaDoorLoV
import Derived.WalkMore
import Derived.ScopeJumps
import Derived.Deep.QuietTactic
import Derived.BigQuiet
namespace Go.Proofs.YtkjlfoihojfnbaaDoor
open Go.RowKit
set_option linter.unusedVariables false
set_option linter.unusedSimpArgs false
namespace Wh
section
variable {P : Program} {a : Act} {w : World} {Q : Exit → Act → World → Prop}
/-- As Q; by a goto to label l1: J1; to label l2: J2. -/
def jump2 (l1 l2 : Nat) (J1 J2 : Act → World → Prop) (Q : Exit → Act → World → Prop) : Exit → Act → World → Prop
  | .goto l, a, w => (l = l1 ∧ J1 a w) ∨ (l = l2 ∧ J2 a w)
  | e, a, w => Q e a w
theorem jump2_mono {l1 l2 : Nat} {J1 J1' J2 : Act → World → Prop} (h : ∀ a w, J1 a w → J1' a w) : ∀ e a w, jump2 l1 l2 J1 J2 Q e a w → jump2 l1 l2 J1' J2 Q e a w := by
  intro e a w hq
  cases e with
  | goto l => exact hq.elim (fun ⟨x, y⟩ => .inl ⟨x, h _ _ y⟩) .inr
  | _ => exact hq
theorem jump2_no {l1 l2 : Nat} {J1 J2 : Act → World → Prop} : ∀ e a w, Exit.noGoto Q e a w → jump2 l1 l2 J1 J2 Q e a w := by
  intro e a w hq
  cases e with
  | goto l => exact hq.elim
  | _ => exact hq
/-- A scope with a label to which the run jumps back and one to which it jumps ahead. -/
theorem wp_scope_two {c r1 r2 : Code} (l1 l2 : Nat) (J1 : Nat → Act → World → Prop) (J2 : Act → World → Prop) (h1 : findLabel c l1 = some (.seq .skip r1)) (h2 : findLabel c l2 = some (.seq .skip r2))
    (last : ∀ a w, J2 a w → r2.wp P (Exit.noGoto Q) a w)
    (pass : (∀ J a w, J2 a w → r2.wp P (jump2 l1 l2 J J2 Q) a w) → ∀ n a w, J1 n a w → r1.wp P (jump2 l1 l2 (fun a' w' => ∃ n', n' < n ∧ J1 n' a' w') J2 Q) a w)
    (first : (∀ n a w, J1 n a w → r1.wp P (jump2 l1 l2 (fun a' w' => ∃ n', J1 n' a' w') J2 Q) a w) → c.wp P (jump2 l1 l2 (fun a' w' => ∃ n', J1 n' a' w') J2 Q) a w) : (Code.scope c).wp P Q a w := by
  have hl : ∀ J a w, J2 a w → r2.wp P (jump2 l1 l2 J J2 Q) a w := fun J a w h => wp_mono (last a w h) jump2_no
  have hp := pass hl
  have hf := first fun n a w h => wp_mono (hp n a w h) (jump2_mono fun a w ⟨n', _, q⟩ => ⟨n', q⟩)
  have hp' : ∀ n a w, J1 n a w → (Code.seq .skip r1).wp P (jump2 l1 l2 (fun a' w' => ∃ n', n' < n ∧ J1 n' a' w') J2 Q) a w := fun n a w h => wp_seq (wp_skip (hp n a w h))
  have hl' : ∀ a w, J2 a w → (Code.seq .skip r2).wp P (Exit.noGoto Q) a w := fun a w h => wp_seq (wp_skip (last a w h))
  intro b k cs
  have g1 : gotoIn l1 (.inScope c :: k) = some (.code (.seq .skip r1) :: .inScope c :: k) := by simp [gotoIn, h1]
  have g2 : gotoIn l2 (.inScope c :: k) = some (.code (.seq .skip r2) :: .inScope c :: k) := by simp [gotoIn, h2]
  have key2 : ∀ a w, J2 a w → ∃ e a' w', Q e a' w' ∧ Arrives P (lone (b.at a (.code (.seq .skip r2) :: .inScope c :: k)) cs w) b k cs e a' w' := by
    intro a w hJ
    obtain ⟨e, a₁, w₁, hq, harr⟩ := hl' a w hJ b (.inScope c :: k) cs
    cases e with
    | normal => exact ⟨.normal, a₁, w₁, hq, Steps.trans harr (.one step_inScope)⟩
    | exit id => exact ⟨.exit id, a₁, w₁, hq, fun k' hk => harr k' (by simp [exitTo, hk])⟩
    | goto l' => exact hq.elim
    | ret => exact ⟨_, a₁, w₁, hq, harr⟩
    | panic ch => exact ⟨_, a₁, w₁, hq, harr⟩
    | outgrown => exact ⟨_, a₁, w₁, hq, harr⟩
  have key : ∀ n a w, J1 n a w → ∃ e a' w', Q e a' w' ∧ Arrives P (lone (b.at a (.code (.seq .skip r1) :: .inScope c :: k)) cs w) b k cs e a' w' := by
    intro n
    induction n using Nat.strongRecOn with
    | _ n ih =>
      intro a w hJ
      obtain ⟨e, a₁, w₁, hq, harr⟩ := hp' n a w hJ b (.inScope c :: k) cs
      cases e with
      | normal => exact ⟨.normal, a₁, w₁, hq, Steps.trans harr (.one step_inScope)⟩
      | exit id => exact ⟨.exit id, a₁, w₁, hq, fun k' hk => harr k' (by simp [exitTo, hk])⟩
      | goto l' =>
        rcases hq with ⟨rfl, n', hn', hJ'⟩ | ⟨rfl, hJ'⟩
        · obtain ⟨e₂, a₂, w₂, hq₂, harr₂⟩ := ih n' hn' a₁ w₁ hJ'
          exact ⟨e₂, a₂, w₂, hq₂, .of_steps (harr _ g1) harr₂⟩
        · obtain ⟨e₂, a₂, w₂, hq₂, harr₂⟩ := key2 a₁ w₁ hJ'
          exact ⟨e₂, a₂, w₂, hq₂, .of_steps (harr _ g2) harr₂⟩
      | ret => exact ⟨_, a₁, w₁, hq, harr⟩
      | panic ch => exact ⟨_, a₁, w₁, hq, harr⟩
      | outgrown => exact ⟨_, a₁, w₁, hq, harr⟩
  obtain ⟨e, a₁, w₁, hq, harr⟩ := hf b (.inScope c :: k) cs
  cases e with
  | normal => exact ⟨.normal, a₁, w₁, hq, .head step_scope (Steps.trans harr (.one step_inScope))⟩
  | exit id => exact ⟨.exit id, a₁, w₁, hq, fun k' hk => .head step_scope (harr k' (by simp [exitTo, hk]))⟩
  | goto l' =>
    rcases hq with ⟨rfl, n', hJ'⟩ | ⟨rfl, hJ'⟩
    · obtain ⟨e₂, a₂, w₂, hq₂, harr₂⟩ := key n' a₁ w₁ hJ'
      exact ⟨e₂, a₂, w₂, hq₂, .of_steps (.head step_scope (harr _ g1)) harr₂⟩
    · obtain ⟨e₂, a₂, w₂, hq₂, harr₂⟩ := key2 a₁ w₁ hJ'
      exact ⟨e₂, a₂, w₂, hq₂, .of_steps (.head step_scope (harr _ g2)) harr₂⟩
  | ret => exact ⟨_, a₁, w₁, hq, .of_steps (.one step_scope) harr⟩
  | panic ch => exact ⟨_, a₁, w₁, hq, .of_steps (.one step_scope) harr⟩
  | outgrown => exact ⟨_, a₁, w₁, hq, .of_steps (.one step_scope) harr⟩
end
open Lv (slotOf slotOf_lt turnOf startOf startOf_lt W64 start_in slot_any)
open Ln (LV upd only_set only_refl)
open Lo (IRow KB St Own updL Lies below_drew Deb IsFirst first_any take_any sortI)
variable {base b now t : Nat} {w w' w1 : World} {V V' V0 : WV} {L : Nat → Nat → List (Nat × Nat)} {D F M : List (Nat × Nat)} {P : Nat × Nat → Prop}
/-- Where the run comes again and again; n: the ticks that are left. -/
def AgSt (base : Nat) (w w' : World) (b t : Nat) (V0 : WV) (M : List (Nat × Nat)) (n : Nat) : Prop :=
  ∃ now V L D F, WW base w' b now V L D F M ∧ Pl now L D F (fun x => x ∈ M) ∧ now ≤ t ∧ n = t - now ∧ Chg w w' (Any b V0) (Any b V)
/-- The frame of Advance at its labels. -/
def Fr (b t : Nat) (a : Act) : Prop := a.tmps.size = 135 ∧ a.tmps[0]? = some (.pointer (some ⟨b, 0, none⟩)) ∧ a.tmps[1]? = some (.int .u64 (t : Nat)) ∧ a.defers = []
theorem range_map (us : Nat → Value) : (List.range 135).map us = [us 0, us 1, us 2, us 3, us 4, us 5, us 6, us 7, us 8, us 9, us 10, us 11, us 12, us 13, us 14, us 15, us 16, us 17, us 18, us 19, us 20, us 21, us 22, us 23, us 24, us 25, us 26, us 27, us 28, us 29, us 30, us 31, us 32, us 33, us 34, us 35, us 36, us 37, us 38, us 39, us 40, us 41, us 42, us 43, us 44, us 45, us 46, us 47, us 48, us 49, us 50, us 51, us 52, us 53, us 54, us 55, us 56, us 57, us 58, us 59, us 60, us 61, us 62, us 63, us 64, us 65, us 66, us 67, us 68, us 69, us 70, us 71, us 72, us 73, us 74, us 75, us 76, us 77, us 78, us 79, us 80, us 81, us 82, us 83, us 84, us 85, us 86, us 87, us 88, us 89, us 90, us 91, us 92, us 93, us 94, us 95, us 96, us 97, us 98, us 99, us 100, us 101, us 102, us 103, us 104, us 105, us 106, us 107, us 108, us 109, us 110, us 111, us 112, us 113, us 114, us 115, us 116, us 117, us 118, us 119, us 120, us 121, us 122, us 123, us 124, us 125, us 126, us 127, us 128, us 129, us 130, us 131, us 132, us 133, us 134] := by kernel_rfl
theorem fr_open {b t : Nat} {a : Act} (h : Fr b t a) : ∃ us : Nat → Value, a = ⟨#[.pointer (some ⟨b, 0, none⟩), .int .u64 (t : Nat), us 2, us 3, us 4, us 5, us 6, us 7, us 8, us 9, us 10, us 11, us 12, us 13, us 14, us 15, us 16, us 17, us 18, us 19, us 20, us 21, us 22, us 23, us 24, us 25, us 26, us 27, us 28, us 29, us 30, us 31, us 32, us 33, us 34, us 35, us 36, us 37, us 38, us 39, us 40, us 41, us 42, us 43, us 44, us 45, us 46, us 47, us 48, us 49, us 50, us 51, us 52, us 53, us 54, us 55, us 56, us 57, us 58, us 59, us 60, us 61, us 62, us 63, us 64, us 65, us 66, us 67, us 68, us 69, us 70, us 71, us 72, us 73, us 74, us 75, us 76, us 77, us 78, us 79, us 80, us 81, us 82, us 83, us 84, us 85, us 86, us 87, us 88, us 89, us 90, us 91, us 92, us 93, us 94, us 95, us 96, us 97, us 98, us 99, us 100, us 101, us 102, us 103, us 104, us 105, us 106, us 107, us 108, us 109, us 110, us 111, us 112, us 113, us 114, us 115, us 116, us 117, us 118, us 119, us 120, us 121, us 122, us 123, us 124, us 125, us 126, us 127, us 128, us 129, us 130, us 131, us 132, us 133, us 134], []⟩ := by
  obtain ⟨h1, h2, h3, h4⟩ := h
  obtain ⟨tm, df⟩ := a
  dsimp only at h1 h2 h3 h4
  subst h4
  refine ⟨fun i => tm.getD i undef, ?_⟩
  have e : tm = ((List.range 135).map fun i => tm.getD i undef).toArray := by
    apply Array.ext
    · simp [h1]
    · intro i hi hi2
      simp [Array.getD, hi]
  have e0 : tm.getD 0 undef = .pointer (some ⟨b, 0, none⟩) := by simp [Array.getD_eq_getD_getElem?, h2]
  have e1 : tm.getD 1 undef = .int .u64 (t : Nat) := by simp [Array.getD_eq_getD_getElem?, h3]
  rw [range_map, e0, e1] at e
  exact congrArg (fun x => (⟨x, []⟩ : Act)) e
/-- Where it ends. -/
def EnSt (base : Nat) (w w' : World) (b t : Nat) (V0 : WV) (M : List (Nat × Nat)) : Prop :=
  ∃ now V L D F, WW base w' b now V L D F M ∧ Pl t L D F (fun x => x ∈ M) ∧ Chg w w' (Any b V0) (Any b V)
/-- The list due is taken out. -/
theorem WW.dropD (h : WW base w b now V L D F M) : WW base (w.setCell ⟨b, 6, none⟩ (.slice none 0 0)) b now { V with vd := .slice none 0 0 } L [] F M ∧ Chg w (w.setCell ⟨b, 6, none⟩ (.slice none 0 0)) (Any b V) (Any b { V with vd := .slice none 0 0 }) ∧
    IRow 34 (w.setCell ⟨b, 6, none⟩ (.slice none 0 0)) base V.vd D ∧ ∀ g, V.vd.ownBlock = some g → ¬ Any b { V with vd := .slice none 0 0 } g := by
  obtain ⟨q1, q2⟩ := h.setD (w1 := w) (v' := .slice none 0 0) (D' := []) ⟨rfl, rfl, rfl, Nat.le_refl _, fun _ _ _ => rfl⟩ (IRow.nil _ _ _) (fun g hg => by cases hg)
  refine ⟨q1, q2, h.due.keepKB (kb_set w b 6 _) fun g hg e => h.apart 4 6 (by omega) (by omega) (by omega) g hg e, ?_⟩
  rintro g hg ⟨p, hp, e⟩
  rcases (by omega : p < 4 ∨ p = 4 ∨ p = 5 ∨ p = 6 ∨ p = 7) with hp4 | rfl | rfl | rfl | rfl
  · rw [partL _ _ p g hp4] at e
    exact h.apart 4 p (by omega) hp (by omega) g hg (by rw [partL b V p g hp4]; exact e)
  · cases e
  · exact h.apart 4 5 (by omega) (by omega) (by omega) g hg e
  · exact h.apart 4 6 (by omega) (by omega) (by omega) g hg e
  · exact h.apart 4 7 (by omega) (by omega) (by omega) g hg e
/-- Those that are far are taken out. -/
theorem WW.dropF (h : WW base w b now V L D F M) : WW base (w.setCell ⟨b, 7, none⟩ (.slice none 0 0)) b now { V with vf := .slice none 0 0 } L D [] M ∧ Chg w (w.setCell ⟨b, 7, none⟩ (.slice none 0 0)) (Any b V) (Any b { V with vf := .slice none 0 0 }) ∧
    IRow 34 (w.setCell ⟨b, 7, none⟩ (.slice none 0 0)) base V.vf F ∧ ∀ g, V.vf.ownBlock = some g → ¬ Any b { V with vf := .slice none 0 0 } g := by
  obtain ⟨q1, q2⟩ := h.setF (w1 := w) (v' := .slice none 0 0) (F' := []) ⟨rfl, rfl, rfl, Nat.le_refl _, fun _ _ _ => rfl⟩ (IRow.nil _ _ _) (fun g hg => by cases hg)
  refine ⟨q1, q2, h.far.keepKB (kb_set w b 7 _) fun g hg e => h.apart 5 6 (by omega) (by omega) (by omega) g hg e, ?_⟩
  rintro g hg ⟨p, hp, e⟩
  rcases (by omega : p < 4 ∨ p = 4 ∨ p = 5 ∨ p = 6 ∨ p = 7) with hp4 | rfl | rfl | rfl | rfl
  · rw [partL _ _ p g hp4] at e
    exact h.apart 5 p (by omega) hp (by omega) g hg (by rw [partL b V p g hp4]; exact e)
  · exact h.apart 5 4 (by omega) (by omega) (by omega) g hg e
  · cases e
  · exact h.apart 5 6 (by omega) (by omega) (by omega) g hg e
  · exact h.apart 5 7 (by omega) (by omega) (by omega) g hg e
theorem sortI_mem {l : List (Nat × Nat)} {x : Nat × Nat} : x ∈ sortI l ↔ x ∈ l := (List.mergeSort_perm _ _).mem_iff
theorem sortI_nodup {l : List (Nat × Nat)} (h : l.Nodup) : (sortI l).Nodup := (List.mergeSort_perm _ _).nodup_iff.2 h
/-- A slot is taken. -/
theorem WW.takeL (h : WW base w b now V L D F M) {i s : Nat} (hi : i < 4) (hs : s < 64) (hl : (L i s).length ≤ 1000) : Calls Tryd.prog 19 #[.pointer (some ⟨V.bl i, 0, none⟩), .int .i64 s] w fun e w' => ∃ v, e = .returned v ∧ Lies w' v (sortI (L i s)) ∧
    ∃ V', WW base w' b now V' (updLL L i (updL (L i) s [])) D F M ∧ Chg w w' (Any b V) (Any b V') ∧ ∀ g, v.ownBlock = some g → ¬ Any b V' g := by
  have st := h.lev i hi
  refine (take_any s hs base (V.m i) st.mlt (L i s) hl (st.rows s hs) (st.nob s hs) st.lv).mono fun e w' ⟨he, hli, lv', kb⟩ => ?_
  obtain ⟨s1, s2, -⟩ := st.take hs lv' kb
  have hown : ∀ g, Own (V.bl i) (upd (V.f i) s (.slice none 0 0)) g → Own (V.bl i) (V.f i) g ∧ ¬ ((V.f i s).ownBlock = some g) := by
    intro g hg
    rcases hg with e | ⟨u, hu, e⟩
    · exact ⟨.inl e, fun e2 => st.nob s hs g e2 e⟩
    · unfold upd at e
      by_cases hus : u = s
      · rw [if_pos hus] at e; cases e
      · rw [if_neg hus] at e
        exact ⟨.inr ⟨u, hu, e⟩, fun e2 => st.dis u s hu hs hus g e e2⟩
  have hs' : ∀ p, p < 8 → ∀ g, Part b { V with f := fun j => if j = i then upd (V.f i) s (.slice none 0 0) else V.f j, m := fun j => if j = i then Lo.marked (V.m i) s 0 else V.m j } p g → Part b V p g ∧ (p = i → ¬ ((V.f i s).ownBlock = some g)) := by
    intro p hp g hg
    rcases (by omega : p < 4 ∨ p = 4 ∨ p = 5 ∨ p = 6 ∨ p = 7) with e | rfl | rfl | rfl | rfl
    · rw [partL _ _ p g e] at hg ⊢
      dsimp only at hg
      by_cases hpi : p = i
      · subst hpi
        rw [if_pos rfl] at hg
        exact ⟨(hown g hg).1, fun _ => (hown g hg).2⟩
      · rw [if_neg hpi] at hg; exact ⟨hg, fun e => absurd e hpi⟩
    · exact ⟨hg, fun e => by omega⟩
    · exact ⟨hg, fun e => by omega⟩
    · exact ⟨hg, fun e => by omega⟩
    · exact ⟨hg, fun e => by omega⟩
  have hS : ∀ g, Own (V.bl i) (V.f i) g → Part b V i g := fun g e => by rw [partL b V i g hi]; exact e
  refine ⟨V.f i s, he, hli, { V with f := fun j => if j = i then upd (V.f i) s (.slice none 0 0) else V.f j, m := fun j => if j = i then Lo.marked (V.m i) s 0 else V.m j }, ⟨?_, fun j hj => ?_, ?_, ?_, ?_, apart_of h.apart h.lt (p0 := 0) (fun p hp g hg => .inl (hs' p hp g hg).1), h.hb, h.hm, h.hl⟩, ⟨⟨s2.os, s2.tape, s2.output, s2.size, fun j hj hn => s2.block j hj (fun e => hn ⟨i, by omega, hS j e⟩)⟩, grow_of (p0 := 0) (fun p hp g hg => .inl (hs' p hp g hg).1)⟩, ?_⟩
  · exact (s2.block b (h.lt b ⟨6, by omega, rfl⟩) (h.off (by omega) hS (p' := 6) (by omega) (by omega) b rfl)).trans h.blk
  · dsimp only
    by_cases e : j = i
    · subst e
      rw [if_pos rfl, if_pos rfl, updLL_same]
      exact s1
    · rw [if_neg e, if_neg e, updLL_other _ e]
      exact (h.lev j hj).keep s2 fun g hg => h.off (by omega) hS (p' := j) (by omega) e g (by rw [partL b V j g hj]; exact hg)
  · exact h.due.keepKB s2 fun g hg => h.off (by omega) hS (p' := 4) (by omega) (by omega) g hg
  · exact h.far.keepKB s2 fun g hg => h.off (by omega) hS (p' := 5) (by omega) (by omega) g hg
  · exact h.map.keep (s2.block _ (h.lt _ ⟨7, by omega, rfl⟩) (h.off (by omega) hS (p' := 7) (by omega) (by omega) _ rfl))
  · rintro g hg ⟨p, hp, e⟩
    obtain ⟨e1, e2⟩ := hs' p hp g e
    have hpi : Part b V i g := hS g (.inr ⟨s, hs, hg⟩)
    by_cases hpp : p = i
    · exact e2 hpp hg
    · exact h.apart p i hp (by omega) hpp g e1 hpi
/-- One slot's timers are placed again at its tick. -/
theorem lvl_take {W : World} (j1 : WW base w b now V L D F M) (j2 : Pl now L D F (fun x => x ∈ M)) {i s : Nat} (hi : i < 4) (hs : s < 64) (hlow : ∀ j u, j < i → u < 64 → L j u = []) (hcur : ∀ u, u < s → L i u = []) (hne : L i s ≠ []) (hM : M.length ≤ 1000) (hsm : ∀ x ∈ M, x.1 < 18446744073709551616 ∧ x.2 < 18446744073709551616) (hbase : base ≤ w.heap.size) (hW : Below w.heap.size w W) :
    Calls Tryd.prog 19 #[.pointer (some ⟨V.bl i, 0, none⟩), .int .i64 s] W fun e w' => ∃ v, e = .returned v ∧
      Calls Tryd.prog 49 #[.pointer (some ⟨b, 0, none⟩), .int .u64 (startOf i now s : Nat), v] w' fun e w2 => (∃ r, e = .returned r) ∧ Placed base w w2 b (startOf i now s) V M (fun x => x ∈ M) := by
  have hlt := (j2.bounds (M := M) (fun y hy => hy)).2.2 i s hi hs
  refine ((j1.later hW).takeL hi hs (by omega)).mono fun e w' ⟨v, he, hli, V', q1, q2, q3⟩ => ⟨v, he, ?_⟩
  have hpl := (j2.take hi hs).jump (t := startOf i now s) hi (by
      obtain ⟨x, hx⟩ := List.exists_mem_of_ne_nil _ hne
      have h1 := (j2.behind hi hs hx).2
      have h2 := (j2.l i s hi hs x hx).1
      rw [h1, ← q_start i now s hs] at h2
      exact Nat.le_of_lt (q_lt h2)) (fun j u hj hu => by rw [updLL_other _ (by omega)]; exact hlow j u hj hu) (q_start1 i now s hs) (fun u hu x hx => by
      rw [updLL_same] at hx
      by_cases e : u = s
      · subst e; rw [updL_same] at hx; simp at hx
      · rw [updL_other _ e] at hx
        rcases Nat.lt_or_ge u s with e2 | e2
        · rw [hcur u e2] at hx; simp at hx
        · rw [q_start i now s hs, (j2.behind hi hu hx).2]; omega)
  refine (move_any (sortI (L i s)) v q1 hpl hli q3 (sortI_nodup (j2.ln i s hi hs)) (fun x hx hn => hn.2 (sortI_mem.1 hx)) (fun x hx => (hsm x ((j2.mem x).2 (.inr (.inr ⟨i, s, hi, hs, sortI_mem.1 hx⟩)))).2) (Nat.le_trans hbase (Nat.le_trans hW.size q2.kb.size)) (N := M) (fun y hy => hy.1) (fun y hy => (j2.mem y).2 (.inr (.inr ⟨i, s, hi, hs, sortI_mem.1 hy⟩))) hM).mono fun e w2 ⟨hr, hp⟩ => ⟨hr, ?_⟩
  obtain ⟨V2, L2, D2, F2, r1, r2, r3⟩ := hp
  refine ⟨V2, L2, D2, F2, r1, r2.iff fun x => ?_, ((Chg.of_below _ hW).trans q2).trans r3⟩
  rw [sortI_mem]
  exact ⟨fun h => h.elim (·.1) (fun h => (j2.mem x).2 (.inr (.inr ⟨i, s, hi, hs, h⟩))), fun h => (Classical.em (x ∈ L i s)).elim .inr (fun e => .inl ⟨h, e⟩)⟩
/-- Those that are far are placed again at the turn of the first of them. -/
theorem far_move {W : World} (j1 : WW base w b now V L D F M) (j2 : Pl now L D F (fun x => x ∈ M)) (hlow : ∀ j u, j < 4 → u < 64 → L j u = []) {m : Nat × Nat} (hm : m ∈ F) (hM : M.length ≤ 1000) (hsm : ∀ x ∈ M, x.1 < 18446744073709551616 ∧ x.2 < 18446744073709551616) (hbase : base ≤ w.heap.size) (hW : Below w.heap.size w W) :
    Calls Tryd.prog 49 #[.pointer (some ⟨b, 0, none⟩), .int .u64 (startOf 3 m.2 0 : Nat), V.vf] (W.setCell ⟨b, 7, none⟩ (.slice none 0 0)) fun e w2 => (∃ r, e = .returned r) ∧ Placed base w w2 b (startOf 3 m.2 0) V M (fun x => x ∈ M) := by
  obtain ⟨q1, q2, q3, q4⟩ := (j1.later hW).dropF
  have hmt := j2.f m hm
  have e0 := q_start 3 m.2 0 (by omega)
  have e1 := q_start1 3 m.2 0 (by omega)
  have hlt : now ≤ startOf 3 m.2 0 := by
    have : q 4 now < q 4 (startOf 3 m.2 0) := by rw [e1]; exact hmt
    exact Nat.le_of_lt (q_lt this)
  have hpl := j2.takeF.jumpF (t := startOf 3 m.2 0) hlt hlow (fun x hx => by simp at hx)
  refine (move_any F V.vf q1 hpl q3.lies q4 j2.fn (fun x hx hn => hn.2 hx) (fun x hx => (hsm x ((j2.mem x).2 (.inr (.inl hx)))).2) (Nat.le_trans hbase (Nat.le_trans hW.size q2.kb.size)) (N := M) (fun y hy => hy.1) (fun y hy => (j2.mem y).2 (.inr (.inl hy))) hM).mono fun e w2 ⟨hr, hp⟩ => ⟨hr, ?_⟩
  obtain ⟨V2, L2, D2, F2, r1, r2, r3⟩ := hp
  refine ⟨V2, L2, D2, F2, r1, r2.iff fun x => ?_, ((Chg.of_below _ hW).trans q2).trans r3⟩
  exact ⟨fun h => h.elim (·.1) (fun h => (j2.mem x).2 (.inr (.inl h))), fun h => (Classical.em (x ∈ F)).elim .inr (fun e => .inl ⟨h, e⟩)⟩
/-- The end comes ahead of a level's first slot. -/
theorem Pl.endL (j2 : Pl now L D F P) {i s : Nat} (hi : i < 4) (hs : s < 64) (hlow : ∀ j u, j < i → u < 64 → L j u = []) (hcur : ∀ u, u < s → L i u = []) (hnt : now ≤ t) (hgt : t < startOf i now s) : Pl t L D F P := by
  have h1 := q_start1 i now s hs
  have h2 := q_mono (i + 1) hnt
  have h3 := q_mono (i + 1) (Nat.le_of_lt hgt)
  have h4 := lt_start hs hgt
  refine j2.jump hi hnt hlow (by omega) fun u hu x hx => ?_
  rcases Nat.lt_or_ge u s with e | e
  · rw [hcur u e] at hx; simp at hx
  · rw [(j2.behind hi hu hx).2]; omega
/-- .. ahead of the first of those that are far. -/
theorem Pl.endF (j2 : Pl now L D F P) (hlow : ∀ j u, j < 4 → u < 64 → L j u = []) {m : Nat × Nat} (hmin : ∀ y ∈ F, m.2 ≤ y.2) (hnt : now ≤ t) (hgt : t < startOf 3 m.2 0) : Pl t L D F P := by
  have h4 := lt_start (by omega) hgt
  have h5 : q 4 t < q 4 m.2 := by
    have e := q_succ 3 t
    have e2 := q_succ 3 m.2
    rw [show (3 : Nat) + 1 = 4 from rfl] at h4 e e2
    omega
  exact j2.jumpF hnt hlow fun x hx => Nat.lt_of_lt_of_le h5 (q_mono 4 (hmin x hx))
theorem far_later (j2 : Pl now L D F P) {m : Nat × Nat} (hm : m ∈ F) : now < startOf 3 m.2 0 := by
  have e1 := q_start1 3 m.2 0 (by omega)
  have : q 4 now < q 4 (startOf 3 m.2 0) := by rw [e1]; exact j2.f m hm
  exact q_lt this
theorem deb_keep {S : Nat → Prop} (hd : Deb w) (kb : KB w w' S) (hS : ∀ g, S g → base ≤ g) (hg : 0 < base) : Deb w' := by
  have hb := kb.block 0 hd.2 (fun e => by have := hS _ e; omega)
  exact ⟨fun j hj => (World.cell?_of_block (a := ⟨0, j, none⟩) hb).trans (hd.1 j hj), Nat.lt_of_lt_of_le hd.2 kb.size⟩
end Wh
end Go.Proofs.YtkjlfoihojfnbaaDoor
