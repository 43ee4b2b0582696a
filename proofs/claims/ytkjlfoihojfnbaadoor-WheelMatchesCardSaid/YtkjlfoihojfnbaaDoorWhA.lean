/- Where a wheel's timers lie: plain lemmas. -/
import Derived.Test.YtkjlfoihojfnbaaDoorLoT
namespace Go.Proofs.YtkjlfoihojfnbaaDoor
open Go.RowKit
set_option linter.unusedVariables false
namespace Wh
open Lv (slotOf slotOf_lt turnOf startOf W64 W64_succ W64_pos)
open Lo (updL wo wo_mem)
/-- How often 64^i goes into a tick. -/
def q (i x : Nat) : Nat := x / W64 i
theorem q0 (x : Nat) : q 0 x = x := Nat.div_one x
theorem q_succ (i x : Nat) : q (i + 1) x = q i x / 64 := by unfold q; rw [W64_succ, Nat.div_div_eq_div_mul]
theorem q_turn (i x : Nat) : turnOf i x = q (i + 1) x := rfl
theorem q_slot (i x : Nat) : slotOf i x = q i x % 64 := rfl
theorem q_mono (i : Nat) {x y : Nat} (h : x ≤ y) : q i x ≤ q i y := Nat.div_le_div_right h
theorem q_split (i x : Nat) : q i x = q (i + 1) x * 64 + slotOf i x := by rw [q_succ, q_slot]; omega
theorem q_coarse {i x y : Nat} (h : q i x = q i y) : ∀ j, i ≤ j → q j x = q j y := by
  intro j hj
  induction j with
  | zero => obtain rfl : i = 0 := by omega
            exact h
  | succ j ih =>
    by_cases e : i = j + 1
    · rw [← e]; exact h
    · rw [q_succ, q_succ, ih (by omega)]
theorem q_lt {i x y : Nat} (h : q i x < q i y) : x < y := by
  rcases Nat.lt_or_ge x y with e | e
  · exact e
  · have := q_mono i e; omega
theorem q_start (i now s : Nat) (hs : s < 64) : q i (startOf i now s) = q (i + 1) now * 64 + s := by
  unfold startOf q
  have e : now / W64 (i + 1) * W64 (i + 1) + s * W64 i = (now / W64 (i + 1) * 64 + s) * W64 i := by
    rw [W64_succ, Nat.add_mul, Nat.mul_assoc (now / (W64 i * 64)), Nat.mul_comm 64 (W64 i)]
  rw [e, Nat.mul_div_cancel _ (W64_pos i)]
theorem q_start1 (i now s : Nat) (hs : s < 64) : q (i + 1) (startOf i now s) = q (i + 1) now := by
  rw [q_succ, q_start i now s hs]; omega
theorem start_mul (i now s : Nat) (hs : s < 64) : startOf i now s = q i (startOf i now s) * W64 i := by
  rw [q_start i now s hs]
  unfold startOf q
  rw [W64_succ, Nat.add_mul, Nat.mul_assoc (now / (W64 i * 64)), Nat.mul_comm 64 (W64 i)]
theorem lt_start {i now s t : Nat} (hs : s < 64) (h : t < startOf i now s) : q i t < q (i + 1) now * 64 + s := by
  rw [start_mul i now s hs, q_start i now s hs] at h
  exact (Nat.div_lt_iff_lt_mul (W64_pos i)).2 h
/-- All timers lie where they belong; P: which ones there are. -/
structure Pl (now : Nat) (L : Nat → Nat → List (Nat × Nat)) (D F : List (Nat × Nat)) (P : Nat × Nat → Prop) : Prop where
  d : ∀ x ∈ D, x.2 ≤ now
  l : ∀ i s, i < 4 → s < 64 → ∀ x ∈ L i s, q i now < q i x.2 ∧ q (i + 1) now = q (i + 1) x.2 ∧ slotOf i x.2 = s
  f : ∀ x ∈ F, q 4 now < q 4 x.2
  mem : ∀ x, P x ↔ x ∈ D ∨ x ∈ F ∨ ∃ i s, i < 4 ∧ s < 64 ∧ x ∈ L i s
  dn : D.Nodup
  fn : F.Nodup
  ln : ∀ i s, i < 4 → s < 64 → (L i s).Nodup
variable {now t : Nat} {L L' : Nat → Nat → List (Nat × Nat)} {D D' F F' : List (Nat × Nat)} {P P' : Nat × Nat → Prop}
theorem Pl.iff (h : Pl now L D F P) (hp : ∀ x, P x ↔ P' x) : Pl now L D F P' := ⟨h.d, h.l, h.f, fun x => (hp x).symm.trans (h.mem x), h.dn, h.fn, h.ln⟩
theorem Pl.empty (now : Nat) : Pl now (fun _ _ => []) [] [] (fun _ => False) :=
  ⟨fun x hx => by simp at hx, fun i s _ _ x hx => by simp at hx, fun x hx => by simp at hx, fun x => by simp, List.nodup_nil, List.nodup_nil, fun _ _ _ _ => List.nodup_nil⟩
/-- Some of them. -/
theorem Pl.sub (h : Pl now L D F P) (hd : ∀ x ∈ D', x ∈ D) (hf : ∀ x ∈ F', x ∈ F) (hl : ∀ i s, i < 4 → s < 64 → ∀ x ∈ L' i s, x ∈ L i s) (dn : D'.Nodup) (fn : F'.Nodup) (ln : ∀ i s, i < 4 → s < 64 → (L' i s).Nodup) :
    Pl now L' D' F' (fun x => x ∈ D' ∨ x ∈ F' ∨ ∃ i s, i < 4 ∧ s < 64 ∧ x ∈ L' i s) :=
  ⟨fun x hx => h.d x (hd x hx), fun i s hi hs x hx => h.l i s hi hs x (hl i s hi hs x hx), fun x hx => h.f x (hf x hx), fun x => Iff.rfl, dn, fn, ln⟩
def updLL (L : Nat → Nat → List (Nat × Nat)) (i : Nat) (g : Nat → List (Nat × Nat)) : Nat → Nat → List (Nat × Nat) := fun j => if j = i then g else L j
theorem updLL_same (i : Nat) (g : Nat → List (Nat × Nat)) : updLL L i g i = g := by unfold updLL; rw [if_pos rfl]
theorem updLL_other {i j : Nat} (g : Nat → List (Nat × Nat)) (h : j ≠ i) : updLL L i g j = L j := by unfold updLL; rw [if_neg h]
theorem updL_same (g : Nat → List (Nat × Nat)) (s : Nat) (l : List (Nat × Nat)) : updL g s l s = l := by unfold updL; rw [if_pos rfl]
theorem updL_other {g : Nat → List (Nat × Nat)} {s t : Nat} (l : List (Nat × Nat)) (h : t ≠ s) : updL g s l t = g t := by unfold updL; rw [if_neg h]
/-- The lists are apart. -/
theorem Pl.dl (h : Pl now L D F P) {x : Nat × Nat} {i s : Nat} (hi : i < 4) (hs : s < 64) (hx : x ∈ L i s) : x ∉ D := fun hd => by
  have h1 := h.d x hd
  have h2 := q_lt (h.l i s hi hs x hx).1
  omega
theorem Pl.fl (h : Pl now L D F P) {x : Nat × Nat} {i s : Nat} (hi : i < 4) (hs : s < 64) (hx : x ∈ L i s) : x ∉ F := fun hf => by
  have h1 := h.f x hf
  have h2 := q_coarse (h.l i s hi hs x hx).2.1 4 (by omega)
  omega
theorem Pl.df (h : Pl now L D F P) {x : Nat × Nat} (hx : x ∈ F) : x ∉ D := fun hd => by
  have h1 := h.d x hd
  have h2 := q_lt (h.f x hx)
  omega
theorem Pl.ll (h : Pl now L D F P) {x : Nat × Nat} {i s j u : Nat} (hi : i < 4) (hs : s < 64) (hj : j < 4) (hu : u < 64) (hx : x ∈ L i s) (hy : x ∈ L j u) : i = j ∧ s = u := by
  obtain ⟨a1, a2, a3⟩ := h.l i s hi hs x hx
  obtain ⟨b1, b2, b3⟩ := h.l j u hj hu x hy
  have : i = j := by
    rcases Nat.lt_trichotomy i j with e | e | e
    · have := q_coarse a2 j (by omega); omega
    · exact e
    · have := q_coarse b2 i (by omega); omega
  subst this
  exact ⟨rfl, a3.symm.trans b3⟩
/-- Taking a slot out. -/
theorem Pl.take (h : Pl now L D F P) {i s : Nat} (hi : i < 4) (hs : s < 64) : Pl now (updLL L i (updL (L i) s [])) D F (fun x => P x ∧ x ∉ L i s) := by
  refine (h.sub (D' := D) (F' := F) (L' := updLL L i (updL (L i) s [])) (fun x hx => hx) (fun x hx => hx) (fun j u hj hu x hx => ?_) h.dn h.fn (fun j u hj hu => ?_)).iff fun x => ?_
  · by_cases e : j = i
    · subst e
      rw [updLL_same] at hx
      by_cases e2 : u = s
      · subst e2; rw [updL_same] at hx; simp at hx
      · rw [updL_other _ e2] at hx; exact hx
    · rw [updLL_other _ e] at hx; exact hx
  · by_cases e : j = i
    · subst e
      rw [updLL_same]
      by_cases e2 : u = s
      · subst e2; rw [updL_same]; exact List.nodup_nil
      · rw [updL_other _ e2]; exact h.ln _ _ hj hu
    · rw [updLL_other _ e]; exact h.ln _ _ hj hu
  · rw [h.mem x]
    constructor
    · rintro (hx | hx | ⟨j, u, hj, hu, hx⟩)
      · exact ⟨.inl hx, fun hl => h.dl hi hs hl hx⟩
      · exact ⟨.inr (.inl hx), fun hl => h.fl hi hs hl hx⟩
      · by_cases e : j = i
        · subst e
          rw [updLL_same] at hx
          by_cases e2 : u = s
          · subst e2; rw [updL_same] at hx; simp at hx
          · rw [updL_other _ e2] at hx
            exact ⟨.inr (.inr ⟨j, u, hj, hu, hx⟩), fun hl => e2 (h.ll hj hu hi hs hx hl).2⟩
        · rw [updLL_other _ e] at hx
          exact ⟨.inr (.inr ⟨j, u, hj, hu, hx⟩), fun hl => e (h.ll hj hu hi hs hx hl).1⟩
    · rintro ⟨hx | hx | ⟨j, u, hj, hu, hx⟩, hn⟩
      · exact .inl hx
      · exact .inr (.inl hx)
      · refine .inr (.inr ⟨j, u, hj, hu, ?_⟩)
        by_cases e : j = i
        · subst e
          rw [updLL_same]
          by_cases e2 : u = s
          · subst e2; exact absurd hx hn
          · rw [updL_other _ e2]; exact hx
        · rw [updLL_other _ e]; exact hx
theorem Pl.takeF (h : Pl now L D F P) : Pl now L D [] (fun x => P x ∧ x ∉ F) := by
  refine (h.sub (D' := D) (F' := []) (L' := L) (fun x hx => hx) (fun x hx => by simp at hx) (fun _ _ _ _ x hx => hx) h.dn List.nodup_nil h.ln).iff fun x => ?_
  rw [h.mem x]
  constructor
  · rintro (hx | hx | ⟨j, u, hj, hu, hx⟩)
    · exact ⟨.inl hx, fun hf => h.df hf hx⟩
    · simp at hx
    · exact ⟨.inr (.inr ⟨j, u, hj, hu, hx⟩), h.fl hj hu hx⟩
  · rintro ⟨hx | hx | hx, hn⟩
    · exact .inl hx
    · exact absurd hx hn
    · exact .inr (.inr hx)
theorem Pl.takeD (h : Pl now L D F P) : Pl now L [] F (fun x => P x ∧ x ∉ D) := by
  refine (h.sub (D' := []) (F' := F) (L' := L) (fun x hx => by simp at hx) (fun x hx => hx) (fun _ _ _ _ x hx => hx) List.nodup_nil h.fn h.ln).iff fun x => ?_
  rw [h.mem x]
  constructor
  · rintro (hx | hx | ⟨j, u, hj, hu, hx⟩)
    · simp at hx
    · exact ⟨.inr (.inl hx), h.df hx⟩
    · exact ⟨.inr (.inr ⟨j, u, hj, hu, hx⟩), h.dl hj hu hx⟩
  · rintro ⟨hx | hx | hx, hn⟩
    · exact absurd hx hn
    · exact .inr (.inl hx)
    · exact .inr (.inr hx)
/-- Time goes on. -/
theorem Pl.jump (h : Pl now L D F P) {i : Nat} (hi : i < 4) (ht : now ≤ t) (hlow : ∀ j s, j < i → s < 64 → L j s = []) (hq : q (i + 1) t = q (i + 1) now) (hcur : ∀ s, s < 64 → ∀ x ∈ L i s, q i t < q i x.2) : Pl t L D F P := by
  refine ⟨fun x hx => Nat.le_trans (h.d x hx) ht, fun j s hj hs x hx => ?_, fun x hx => ?_, h.mem, h.dn, h.fn, h.ln⟩
  · obtain ⟨a1, a2, a3⟩ := h.l j s hj hs x hx
    rcases Nat.lt_trichotomy j i with e | e | e
    · rw [hlow j s e hs] at hx; simp at hx
    · subst e
      exact ⟨hcur s hs x hx, hq.trans a2, a3⟩
    · exact ⟨by rw [q_coarse hq j (by omega)]; exact a1, (q_coarse hq (j + 1) (by omega)).trans a2, a3⟩
  · rw [q_coarse hq 4 (by omega)]; exact h.f x hx
theorem Pl.jumpF (h : Pl now L D F P) (ht : now ≤ t) (hlow : ∀ j s, j < 4 → s < 64 → L j s = []) (hcur : ∀ x ∈ F, q 4 t < q 4 x.2) : Pl t L D F P :=
  ⟨fun x hx => Nat.le_trans (h.d x hx) ht, fun j s hj hs x hx => by rw [hlow j s hj hs] at hx; simp at hx, hcur, h.mem, h.dn, h.fn, h.ln⟩
/-- A timer's slot is behind that of the time. -/
theorem Pl.behind (h : Pl now L D F P) {i s : Nat} (hi : i < 4) (hs : s < 64) {x : Nat × Nat} (hx : x ∈ L i s) : slotOf i now < s ∧ q i x.2 = q (i + 1) now * 64 + s := by
  obtain ⟨a1, a2, a3⟩ := h.l i s hi hs x hx
  have h1 := q_split i now
  have h2 := q_split i x.2
  rw [a3, ← a2] at h2
  omega
/-- Placing one timer. -/
theorem Pl.putD (h : Pl now L D F P) {x : Nat × Nat} (hx : ¬ P x) (hd : x.2 ≤ now) : Pl now L (D ++ [x]) F (fun y => P y ∨ y = x) := by
  have hnd : x ∉ D := fun e => hx ((h.mem x).2 (.inl e))
  refine ⟨fun y hy => ?_, h.l, h.f, fun y => ?_, ?_, h.fn, h.ln⟩
  · rcases List.mem_append.1 hy with e | e
    · exact h.d y e
    · rw [List.mem_singleton.1 e]; exact hd
  · rw [h.mem y, List.mem_append, List.mem_singleton]
    constructor
    · rintro ((a | a | a) | a)
      · exact .inl (.inl a)
      · exact .inr (.inl a)
      · exact .inr (.inr a)
      · exact .inl (.inr a)
    · rintro ((a | a) | a | a)
      · exact .inl (.inl a)
      · exact .inr a
      · exact .inl (.inr (.inl a))
      · exact .inl (.inr (.inr a))
  · rw [List.nodup_append]
    exact ⟨h.dn, by simp, fun a ha b hb e => by rw [List.mem_singleton.1 hb] at e; exact hnd (e ▸ ha)⟩
theorem Pl.putF (h : Pl now L D F P) {x : Nat × Nat} (hx : ¬ P x) (hf : q 4 now < q 4 x.2) : Pl now L D (F ++ [x]) (fun y => P y ∨ y = x) := by
  have hnd : x ∉ F := fun e => hx ((h.mem x).2 (.inr (.inl e)))
  refine ⟨h.d, h.l, fun y hy => ?_, fun y => ?_, h.dn, ?_, h.ln⟩
  · rcases List.mem_append.1 hy with e | e
    · exact h.f y e
    · rw [List.mem_singleton.1 e]; exact hf
  · rw [h.mem y, List.mem_append, List.mem_singleton]
    constructor
    · rintro ((a | a | a) | a)
      · exact .inl a
      · exact .inr (.inl (.inl a))
      · exact .inr (.inr a)
      · exact .inr (.inl (.inr a))
    · rintro (a | (a | a) | a)
      · exact .inl (.inl a)
      · exact .inl (.inr (.inl a))
      · exact .inr a
      · exact .inl (.inr (.inr a))
  · rw [List.nodup_append]
    exact ⟨h.fn, by simp, fun a ha b hb e => by rw [List.mem_singleton.1 hb] at e; exact hnd (e ▸ ha)⟩
theorem Pl.putL (h : Pl now L D F P) {x : Nat × Nat} (hx : ¬ P x) {i : Nat} (hi : i < 4) (h1 : q i now < q i x.2) (h2 : q (i + 1) now = q (i + 1) x.2) :
    x ∉ L i (slotOf i x.2) ∧ Pl now (updLL L i (updL (L i) (slotOf i x.2) (L i (slotOf i x.2) ++ [x]))) D F (fun y => P y ∨ y = x) := by
  have hs := slotOf_lt i x.2
  have hnd : x ∉ L i (slotOf i x.2) := fun e => hx ((h.mem x).2 (.inr (.inr ⟨i, _, hi, hs, e⟩)))
  have hmem : ∀ j u y, y ∈ updLL L i (updL (L i) (slotOf i x.2) (L i (slotOf i x.2) ++ [x])) j u ↔ y ∈ L j u ∨ (j = i ∧ u = slotOf i x.2 ∧ y = x) := by
    intro j u y
    by_cases e : j = i
    · subst e
      rw [updLL_same]
      by_cases e2 : u = slotOf j x.2
      · rw [e2, updL_same, List.mem_append, List.mem_singleton]
        exact ⟨fun a => a.elim .inl (fun a => .inr ⟨rfl, rfl, a⟩), fun a => a.elim .inl (fun a => .inr a.2.2)⟩
      · rw [updL_other _ e2]
        exact ⟨.inl, fun a => a.elim id (fun a => absurd a.2.1 e2)⟩
    · rw [updLL_other _ e]
      exact ⟨.inl, fun a => a.elim id (fun a => absurd a.1 e)⟩
  refine ⟨hnd, ⟨h.d, fun j u hj hu y hy => ?_, h.f, fun y => ?_, h.dn, h.fn, fun j u hj hu => ?_⟩⟩
  · rcases (hmem j u y).1 hy with a | ⟨rfl, rfl, rfl⟩
    · exact h.l j u hj hu y a
    · exact ⟨h1, h2, rfl⟩
  · rw [h.mem y]
    constructor
    · rintro ((a | a | ⟨j, u, hj, hu, a⟩) | a)
      · exact .inl a
      · exact .inr (.inl a)
      · exact .inr (.inr ⟨j, u, hj, hu, (hmem j u y).2 (.inl a)⟩)
      · exact .inr (.inr ⟨i, _, hi, hs, (hmem i _ y).2 (.inr ⟨rfl, rfl, a⟩)⟩)
    · rintro (a | a | ⟨j, u, hj, hu, a⟩)
      · exact .inl (.inl a)
      · exact .inl (.inr (.inl a))
      · rcases (hmem j u y).1 a with a | a
        · exact .inl (.inr (.inr ⟨j, u, hj, hu, a⟩))
        · exact .inr a.2.2
  · by_cases e : j = i
    · subst e
      rw [updLL_same]
      by_cases e2 : u = slotOf j x.2
      · rw [e2, updL_same, List.nodup_append]
        exact ⟨h.ln j _ hj hs, by simp, fun a ha b hb e => by rw [List.mem_singleton.1 hb] at e; exact hnd (e ▸ ha)⟩
      · rw [updL_other _ e2]; exact h.ln j u hj hu
    · rw [updLL_other _ e]; exact h.ln j u hj hu
/-- The level of a timer: that below does not fit. -/
theorem up_lt {now at' i : Nat} (h : now < at') (hn : ∀ j, j < i → q (j + 1) now ≠ q (j + 1) at') : q i now < q i at' := by
  cases i with
  | zero => rw [q0, q0]; exact h
  | succ j =>
    have h1 := hn j (by omega)
    have h2 := q_mono (j + 1) (Nat.le_of_lt h)
    omega
end Wh
end Go.Proofs.YtkjlfoihojfnbaaDoor
