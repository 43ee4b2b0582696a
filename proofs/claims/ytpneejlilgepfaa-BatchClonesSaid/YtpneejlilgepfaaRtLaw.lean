/- A law of the walk for 'for .. := range it' where the iterator keeps state of its own in a cell: the loop is told by predicates on worlds, and the iterator's own stores are taken in. No program in sight. -/
import Derived.RangeFuncNested
import Derived.RangeFuncBound
import Derived.RangeFuncCalls
import Derived.RangeFuncLeaves
import Derived.Below
namespace Go.Proofs.Ytpneejlilgepfaa
open Go.RowKit
namespace Rt
section
variable {F : Fence} {n : Nat} {P : Program}

/-- How the body of a round may be left: where it goes on, A; where it leaves by c, B c. -/
def leftPost (A : World → Prop) (B : Code → World → Prop) (W : World) : Exit → Act → World → Prop
  | .normal, _, W' => KeepsOthers W W' ∧ A W'
  | .ret, _, W' => KeepsOthers W W' ∧ B .ret W'
  | .exit id, _, W' => KeepsOthers W W' ∧ B (.exit id) W'
  | .goto t, _, W' => KeepsOthers W W' ∧ B (.goto t) W'
  | .panic _, _, _ => False
  | .outgrown, _, _ => False

/-- What the law's own book-keeping turns: a block at or beyond m that holds no cells. -/
def Abides (m : Nat) (X : World → Prop) : Prop := ∀ W l o o', X W → m ≤ l → W.heap[l]? = some o → o.isCells = false → X (W.putObj l o')

theorem range_law {σ : Type} {g : Operand} {ps : Array Tmp} {assign body : Code} {Q : Exit → Act → World → Prop} {a : Act} {w : World}
    (hro : F.round = none) (h1 : 1 ≤ n) {gf : Nat} {lb : Array Value} (hg : a.eval g = .func (.func gf) #[] lb) (hFg : F.fn gf) (eg : ∀ args w, (callFunc gf args).run P w = .ok (.enter gf args) w)
    (encs : σ → Array Value) (hps : ∀ s, (encs s).size = ps.size)
    (I A : σ → World → Prop) (B : Code → World → Prop) (Z : World → Prop)
    (tI : ∀ s, Abides w.heap.size (I s)) (tA : ∀ s, Abides w.heap.size (A s)) (tB : ∀ c, Abides w.heap.size (B c)) (tZ : Abides w.heap.size Z)
    (a₁ : σ → Act)
    (hassign : ∀ (l : Nat) (s : σ) (W : World) (K : Act → World → Prop), K (a₁ s) W →
      assign.wpIn (F.inRound l) (n - 1 - 1) P (Exit.then K (fun _ _ _ => False)) { tmps := (ps.zip (encs s)).foldl (fun t (p, v) => t.setIfInBounds p v) a.tmps, defers := [] } W)
    (hbody : ∀ (l : Nat) (s : σ) (W : World), I s W → body.wpIn (F.inRound l) (n - 1 - 1) P (leftPost (A s) B W) (a₁ s) W)
    (hiter : ∀ (l : Nat) (o o' : Obj) (L : World → Prop) (L' : Code → World → Prop), o.isCells = false → o'.isCells = false →
      (∀ W (x : Addr) v, x.block < w.heap.size → L W → L (W.setCell x v)) → (∀ W, L W → L W.drew) →
      (∀ s W, I s W → L W → YieldAt F (n - 1 - 1) P l (encs s) W fun e W' => (e = .returned (.bool true) ∧ A s W' ∧ L W') ∨ (e = .returned (.bool false) ∧ ∃ c, B c W' ∧ L' c W')) →
      L ((w.alloc o).alloc o') →
      CallsIn F (n - 1) P gf (#[.func (.yield l) #[] #[]] ++ lb) ((w.alloc o).alloc o') fun e W' => (∃ v, e = .returned v) ∧ ((Z W' ∧ L W') ∨ ∃ c, B c W' ∧ L' c W'))
    (hdone : ∀ (D : Nat) (W : World), w.heap.size ≤ D → Z W → W.heap[D]? = some (.deferred (some [])) → Q .normal { a with defers := { target := .collected D, args := #[] } :: a.defers } W)
    (hstop : ∀ (D : Nat) (c : Code) (W : World), w.heap.size ≤ D → B c W → W.heap[D]? = some (.deferred (some [])) → c.wpIn F n P Q { a with defers := { target := .collected D, args := #[] } :: a.defers } W) :
    (Code.rangeFunc g ps assign body).wpIn F n P Q a w := by
  refine wpIn_rangeFunc fun fn hfn => ?_
  rw [hro]
  -- the loop's record in each of its states
  let rec' : LoopState → Option Code → Loop := fun st pe => { state := st, pending := pe, fn, tmps := a.tmps, params := ps, assign, body, defers := w.heap.size }
  have nl : ∀ st pe, (Obj.loop (rec' st pe)).isCells = false := fun _ _ => rfl
  let D := w.heap.size
  let l := w.heap.size + 1
  let W1 := (w.alloc (.deferred (some []))).alloc (.loop (rec' .ready none))
  have hl1 : W1.heap[l]? = some (.loop (rec' .ready none)) := by
    have := World.alloc_heap_new (w.alloc (.deferred (some []))) (.loop (rec' .ready none)); rwa [World.size_alloc] at this
  have hd1 : W1.heap[D]? = some (.deferred (some [])) := (Below.heap_alloc _ _ _ (by simp [D])).trans (World.alloc_heap_new w _)
  refine ⟨l, [{ target := .collected D, args := #[] }], W1, { target := .fn (.func gf) lb, args := #[.func (.yield l) #[] #[]] }, W1, gf, #[.func (.yield l) #[] #[]] ++ lb, W1, run_enterLoop_outer _ _ _ _ _, ?_, ?_, ?_, fun _ => h1, ?_⟩
  · simp only [resolve, hg]; simp [go_sem]
  · intro f' hf'; simp [Target.leads] at hf'; subst hf'; exact hFg
  · simp [invoke, go_sem, eg]
  · refine (hiter l (.deferred (some [])) (.loop (rec' .ready none))
      (fun W => W.heap[l]? = some (.loop (rec' .ready none)) ∧ W.heap[D]? = some (.deferred (some [])))
      (fun c W => W.heap[l]? = some (.loop (rec' .done (some c))) ∧ W.heap[D]? = some (.deferred (some [])))
      rfl rfl
      (fun W x v hx h => ⟨(Below.heap_setCell W x v l (by simp only [l]; omega)).trans h.1, (Below.heap_setCell W x v D (by simp only [D]; omega)).trans h.2⟩)
      (fun W h => h) ?_ ⟨hl1, hd1⟩).mono ?_
    · -- one round
      rintro s W hi ⟨hl, hd⟩
      have hy := run_yield (P := P) (args := encs s) hl (hps s)
      refine ⟨fn, _, assign, body, hy, roundIn_of_wpIn hfn (hassign l s W _ ⟨_, run_beginRound hl rfl, ?_⟩)⟩
      have hlt : l < W.heap.size := (Array.getElem?_eq_some_iff.1 hl).1
      have hDl : D ≠ l := by simp only [D, l]; omega
      refine wpIn_mono (hbody l s _ (tI s W l _ _ hi (by simp only [l]; omega) hl (nl _ _))) ?_
      have fin : ∀ (jump : Option Code) (W3 : World), KeepsOthers (W.putObj l (.loop { rec' .ready none with state := .busy })) W3 →
          W3.heap[l]? = some (.loop { rec' .ready none with state := .busy }) ∧
          (Instr.endRound l jump).run P W3 = .ok (.bool jump.isNone) (W3.putObj l (.loop (rec' (if jump.isNone then .ready else .done) jump))) ∧
          (W3.putObj l (.loop (rec' (if jump.isNone then .ready else .done) jump))).heap[l]? = some (.loop (rec' (if jump.isNone then .ready else .done) jump)) ∧
          (W3.putObj l (.loop (rec' (if jump.isNone then .ready else .done) jump))).heap[D]? = some (.deferred (some [])) := fun jump W3 hk => by
        have h3 := hk.same _ _ (World.putObj_heap_same hlt) rfl
        have d3 := hk.same _ _ ((World.putObj_heap_other (o := .loop { rec' .ready none with state := .busy }) hDl).trans hd) rfl
        exact ⟨h3, run_endRound (P := P) jump h3, World.putObj_heap_same (Array.getElem?_eq_some_iff.1 h3).1, (World.putObj_heap_other hDl).trans d3⟩
      rintro e a3 W3 hp
      cases e with
      | normal =>
        obtain ⟨hk, ha⟩ := hp
        obtain ⟨h3, hr, hl4, hd4⟩ := fin none W3 hk
        exact ⟨_, _, hr, .inl ⟨rfl, tA s W3 l _ _ ha (by simp only [l]; omega) h3 rfl, hl4, hd4⟩⟩
      | ret =>
        obtain ⟨hk, hb⟩ := hp
        obtain ⟨h3, hr, hl4, hd4⟩ := fin (some .ret) W3 hk
        exact ⟨_, _, hr, .inr ⟨rfl, .ret, tB _ W3 l _ _ hb (by simp only [l]; omega) h3 rfl, hl4, hd4⟩⟩
      | exit id =>
        obtain ⟨hk, hb⟩ := hp
        obtain ⟨h3, hr, hl4, hd4⟩ := fin (some (.exit id)) W3 hk
        exact ⟨_, _, hr, .inr ⟨rfl, .exit id, tB _ W3 l _ _ hb (by simp only [l]; omega) h3 rfl, hl4, hd4⟩⟩
      | goto t =>
        obtain ⟨hk, hb⟩ := hp
        obtain ⟨h3, hr, hl4, hd4⟩ := fin (some (.goto t)) W3 hk
        exact ⟨_, _, hr, .inr ⟨rfl, .goto t, tB _ W3 l _ _ hb (by simp only [l]; omega) h3 rfl, hl4, hd4⟩⟩
      | panic ch => exact hp.elim
      | outgrown => exact hp.elim
    · -- behind the iterator
      have hDl : D ≠ l := by simp only [D, l]; omega
      rintro e W2 ⟨⟨v, rfl⟩, ⟨hz, hl, hd⟩ | ⟨c, hb, hl, hd⟩⟩
      · exact ⟨none, _, run_endLoop (P := P) hl (by simp [rec']), hdone D _ (Nat.le_refl _) (tZ W2 l _ _ hz (by simp only [l]; omega) hl rfl) ((World.putObj_heap_other hDl).trans hd)⟩
      · exact ⟨some c, _, run_endLoop (P := P) hl (by simp [rec']), hstop D c _ (Nat.le_refl _) (tB c W2 l _ _ hb (by simp only [l]; omega) hl rfl) ((World.putObj_heap_other hDl).trans hd)⟩
end
end Rt
end Go.Proofs.Ytpneejlilgepfaa
