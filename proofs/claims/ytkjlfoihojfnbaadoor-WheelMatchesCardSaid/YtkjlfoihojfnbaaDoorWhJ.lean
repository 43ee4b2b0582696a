/- A wheel's state; Has, Count, Now. -/
import Derived.Test.YtkjlfoihojfnbaaDoorWhI
namespace Go.Proofs.YtkjlfoihojfnbaaDoor
open Go.RowKit
set_option linter.unusedVariables false
set_option linter.unusedSimpArgs false
namespace Wh
open Lv (slotOf slotOf_lt turnOf startOf W64 ret_int)
open Lo (IRow KB St Own updL Lies below_drew Deb sortI sortI_len bef bef_ne bef_asymm sortI_eq eq_of_sorted)
variable {base b now t : Nat} {w w' w1 : World} {V V' V0 : WV} {L : Nat → Nat → List (Nat × Nat)} {D F M T : List (Nat × Nat)} {P : Nat × Nat → Prop} {S S' : Nat → Prop}
/-- A wheel at b with the timers T; its blocks are among S. -/
structure Whl (base : Nat) (w : World) (b now : Nat) (T : List (Nat × Nat)) (S : Nat → Prop) : Prop where
  ex : ∃ V L D F, WW base w b now V L D F T ∧ Pl now L D F (fun x => x ∈ T) ∧ ∀ g, Any b V g → S g
  ids : (T.map Prod.fst).Nodup
  sm : ∀ x ∈ T, x.1 < 18446744073709551616 ∧ x.2 ≤ 9223372036854775807
  nowm : now ≤ 9223372036854775807
  sorted : T.Pairwise bef
theorem Whl.keep (h : Whl base w b now T S) {S0 : Nat → Prop} (kb : KB w w' S0) (hS : ∀ g, S g → ¬ S0 g) : Whl base w' b now T S := by
  obtain ⟨V, L, D, F, h1, h2, h3⟩ := h.ex
  exact ⟨⟨V, L, D, F, h1.keep kb fun g hg => hS g (h3 g hg), h2, h3⟩, h.ids, h.sm, h.nowm, h.sorted⟩
theorem Whl.later (h : Whl base w b now T S) (hb : Below w.heap.size w w') : Whl base w' b now T S := h.keep (KB.of_below (fun _ => False) hb) (fun _ _ e => e)
theorem Whl.more (h : Whl base w b now T S) (hS : ∀ g, S g → S' g) : Whl base w b now T S' := by
  obtain ⟨V, L, D, F, h1, h2, h3⟩ := h.ex
  exact ⟨⟨V, L, D, F, h1, h2, fun g hg => hS g (h3 g hg)⟩, h.ids, h.sm, h.nowm, h.sorted⟩
/-- S and all that is new. -/
def grown (S : Nat → Prop) (w : World) (g : Nat) : Prop := S g ∨ w.heap.size ≤ g
theorem WW.congrM (h : WW base w b now V L D F M) {M' : List (Nat × Nat)} (hm : ∀ x, x ∈ M ↔ x ∈ M') (hl : M.length = M'.length) : WW base w b now V L D F M' :=
  ⟨h.blk, h.lev, h.due, h.far, h.map.congr hm hl, h.apart, h.hb, h.hm, h.hl⟩
theorem nodup_of_ids {M : List (Nat × Nat)} (h : (M.map Prod.fst).Nodup) : M.Nodup := List.Pairwise.of_map Prod.fst (fun a b h e => h (by rw [e])) h
theorem len_eq {l m : List (Nat × Nat)} (hl : l.Nodup) (hm : m.Nodup) (h : ∀ x, x ∈ l ↔ x ∈ m) : l.length = m.length :=
  Nat.le_antisymm (sub_len l m hl fun x hx => (h x).1 hx) (sub_len m l hm fun x hx => (h x).2 hx)
theorem perm_of {l m : List (Nat × Nat)} (hl : l.Nodup) (hm : m.Nodup) (h : ∀ x, x ∈ l ↔ x ∈ m) : l.Perm m := (List.perm_ext_iff_of_nodup hl hm).2 h
/-- A change's state. -/
theorem Whl.changed (h : Whl base w b now T S) {now' : Nat} {T' M' : List (Nat × Nat)} (hx : ∃ V V' L' D' F', (∀ g, Any b V g → S g) ∧ WW base w' b now' V' L' D' F' M' ∧ Pl now' L' D' F' (fun x => x ∈ T') ∧ Chg w w' (Any b V) (Any b V')) (hm : ∀ x, x ∈ M' ↔ x ∈ T') (hn : M'.Nodup) (ids : (T'.map Prod.fst).Nodup)
    (sm : ∀ x ∈ T', x.1 < 18446744073709551616 ∧ x.2 ≤ 9223372036854775807) (hn' : now' ≤ 9223372036854775807) (so : T'.Pairwise bef) : Whl base w' b now' T' (grown S w) ∧ KB w w' S := by
  obtain ⟨V, V', L', D', F', h0, h1, h2, h3⟩ := hx
  refine ⟨⟨⟨V', L', D', F', h1.congrM hm (len_eq hn (nodup_of_ids ids) hm), h2, fun g hg => ?_⟩, ids, sm, hn', so⟩, ⟨h3.kb.os, h3.kb.tape, h3.kb.output, h3.kb.size, fun j hj hn => h3.kb.block j hj (fun e => hn (h0 j e))⟩⟩
  rcases h3.grow g hg with e | e
  · exact .inl (h0 g e)
  · exact .inr e
set_option maxRecDepth 100000 in
set_option maxHeartbeats 1000000 in
theorem has_any (h : Whl base w b now T S) (id : Nat) (hid : id < 18446744073709551616) :
    Calls Tryd.prog 35 #[.pointer (some ⟨b, 0, none⟩), .int .u64 (id : Nat)] w fun e w' => e = .returned (.bool (hasId T id)) ∧ Below w.heap.size w w' := by
  obtain ⟨V, L, D, F, h1, -, -⟩ := h.ex
  obtain ⟨-, c1, -⟩ := h1.cells
  obtain ⟨v, hlk⟩ := h1.map.look id hid
  unfold itemV at hlk
  generalize hasId T id = r at *
  clear h h1
  go_enter Tryd.func35, Tryd.ntmps35
  go_wp2_with fail
  go_ret
  exact ⟨rfl, (Below.refl _ _).alloc (Nat.le_refl _) _⟩
theorem now_any (h : Whl base w b now T S) :
    Calls Tryd.prog 32 #[.pointer (some ⟨b, 0, none⟩)] w fun e w' => e = .returned (.int .u64 (now : Nat)) ∧ w = w' := by
  obtain ⟨V, L, D, F, h1, -, -⟩ := h.ex
  obtain ⟨c0, -⟩ := h1.cells
  clear h h1
  go_enter Tryd.func32, Tryd.ntmps32
  go_wp2_with fail
  go_ret
  exact ⟨rfl, rfl⟩
theorem wcount_any (h : Whl base w b now T S) :
    Calls Tryd.prog 30 #[.pointer (some ⟨b, 0, none⟩)] w fun e w' => e = .returned (.int .i64 (T.length : Nat)) ∧ w = w' := by
  obtain ⟨V, L, D, F, h1, -, -⟩ := h.ex
  obtain ⟨-, c1, -⟩ := h1.cells
  have hln := h1.map.len
  clear h h1
  go_enter Tryd.func30, Tryd.ntmps30
  go_wp2_with fail
  go_ret
  exact ⟨rfl, rfl⟩
end Wh
end Go.Proofs.YtkjlfoihojfnbaaDoor
