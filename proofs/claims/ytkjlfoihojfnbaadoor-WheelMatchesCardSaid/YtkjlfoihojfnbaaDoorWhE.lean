/- A wheel's move. -/
import Derived.Test.YtkjlfoihojfnbaaDoorWhD
namespace Go.Proofs.YtkjlfoihojfnbaaDoor
open Go.RowKit
set_option linter.unusedVariables false
set_option linter.unusedSimpArgs false
namespace Wh
open Lv (slotOf slotOf_lt turnOf startOf W64 fits_any)
open Ln (LV upd only_set only_refl)
open Lo (IRow KB St Own updL Lies below_drew)
variable {base b now t : Nat} {w w' w1 : World} {V V' : WV} {L : Nat → Nat → List (Nat × Nat)} {D F M : List (Nat × Nat)} {P : Nat × Nat → Prop}
theorem sub_len : ∀ (l m : List (Nat × Nat)), l.Nodup → (∀ x ∈ l, x ∈ m) → l.length ≤ m.length
  | [], m, _, _ => Nat.zero_le _
  | a :: l, m, hn, hs => by
    obtain ⟨h1, h2⟩ := List.nodup_cons.1 hn
    have ha := hs a List.mem_cons_self
    have ih := sub_len l (m.erase a) h2 fun x hx => (List.mem_erase_of_ne (fun e => h1 (by rw [← e]; exact hx))).2 (hs x (List.mem_cons_of_mem _ hx))
    rw [List.length_erase_of_mem ha] at ih
    have := List.length_pos_of_mem ha
    simp only [List.length_cons]; omega
theorem Pl.bounds (h : Pl now L D F P) (hP : ∀ y, P y → y ∈ M) : D.length ≤ M.length ∧ F.length ≤ M.length ∧ ∀ i s, i < 4 → s < 64 → (L i s).length ≤ M.length :=
  ⟨sub_len _ _ h.dn fun x hx => hP x ((h.mem x).2 (.inl hx)), sub_len _ _ h.fn fun x hx => hP x ((h.mem x).2 (.inr (.inl hx))), fun i s hi hs => sub_len _ _ (h.ln i s hi hs) fun x hx => hP x ((h.mem x).2 (.inr (.inr ⟨i, s, hi, hs, hx⟩)))⟩
theorem place_any (x : Nat × Nat) (h : WW base w b now V L D F M) (hp : Pl now L D F P) (hx : ¬ P x) (ha : x.2 < 18446744073709551616) (hbase : base ≤ w.heap.size) {N : List (Nat × Nat)} (hP : ∀ y, P y → y ∈ N) (hM : N.length ≤ 1000) :
    Calls Tryd.prog 47 #[.pointer (some ⟨b, 0, none⟩), .agg #[.int .u64 (x.1 : Nat), .int .u64 (x.2 : Nat)]] w fun e w' => (∃ v, e = .returned v) ∧ Placed base w w' b now V M (fun y => P y ∨ y = x) := by
  obtain ⟨b1, b2, b3⟩ := hp.bounds hP
  by_cases hd : x.2 ≤ now
  · exact place_due x h hp hx hd hbase (by omega)
  · exact place_up x h hp hx (by omega) ha hbase (fun i s hi hs => by have := b3 i s hi hs; omega) (by omega)
/-- A list that lies outside these blocks. -/
theorem lies_keep {S : Nat → Prop} {v : Value} {l : List (Nat × Nat)} (h : Lies w v l) (ho : ∀ g, v.ownBlock = some g → ¬ S g) (kb : KB w w' S) : Lies w' v l := by
  obtain ⟨A, cap, h1, h2, h3⟩ := h
  refine ⟨A, cap, h1, h2, fun j hj => ?_⟩
  obtain ⟨g, q1, q3, q4, q5⟩ := h3 j hj
  have hs : ¬ S g := ho g (by rw [h1, q1]; rfl)
  have hb := kb.block g q3 hs
  exact ⟨g, q1, Nat.lt_of_lt_of_le q3 kb.size, (World.cell?_of_block (a := ⟨g, j * 2, none⟩) hb).trans q4, (World.cell?_of_block (a := ⟨g, j * 2 + 1, none⟩) hb).trans q5⟩
theorem Placed.more {wr : World} (h : Placed base w wr b now V M P) (x : Nat × Nat) (hx : ¬ P x) (ha : x.2 < 18446744073709551616) (hbase : base ≤ w.heap.size) {N : List (Nat × Nat)} (hP : ∀ y, P y → y ∈ N) (hM : N.length ≤ 1000) {W : World} (hW : Below wr.heap.size wr W) :
    Calls Tryd.prog 47 #[.pointer (some ⟨b, 0, none⟩), .agg #[.int .u64 (x.1 : Nat), .int .u64 (x.2 : Nat)]] W fun e w' => (∃ v, e = .returned v) ∧ Placed base w w' b now V M (fun y => P y ∨ y = x) := by
  obtain ⟨V1, L1, D1, F1, q1, q2, q3⟩ := h
  have hb : base ≤ W.heap.size := Nat.le_trans hbase (Nat.le_trans q3.kb.size hW.size)
  refine (place_any x (q1.later hW) q2 hx ha hb hP hM).mono fun e w' ⟨he, hpl⟩ => ⟨he, ?_⟩
  obtain ⟨V2, L2, D2, F2, r1, r2, r3⟩ := hpl.begun hW
  exact ⟨V2, L2, D2, F2, r1, r2, q3.trans r3⟩
theorem Placed.iff (h : Placed base w w' b now V M P) {P' : Nat × Nat → Prop} (hp : ∀ x, P x ↔ P' x) : Placed base w w' b now V M P' := by
  obtain ⟨V1, L1, D1, F1, q1, q2, q3⟩ := h
  exact ⟨V1, L1, D1, F1, q1, q2.iff hp, q3⟩
set_option maxRecDepth 100000 in
set_option maxHeartbeats 2000000 in
theorem move_any (l : List (Nat × Nat)) (v : Value) (h : WW base w b now V L D F M) (hp : Pl t L D F P) (lies : Lies w v l) (ho : ∀ g, v.ownBlock = some g → ¬ Any b V g) (hn : l.Nodup) (hnew : ∀ x ∈ l, ¬ P x) (ha : ∀ x ∈ l, x.2 < 18446744073709551616) (hbase : base ≤ w.heap.size)
    {N : List (Nat × Nat)} (hP : ∀ y, P y → y ∈ N) (hl : ∀ y ∈ l, y ∈ N) (hM : N.length ≤ 1000) :
    Calls Tryd.prog 49 #[.pointer (some ⟨b, 0, none⟩), .int .u64 (t : Nat), v] w fun e w' => (∃ r, e = .returned r) ∧ Placed base w w' b t V M (fun y => P y ∨ y ∈ l) := by
  obtain ⟨c0, -, -, -, -, fz⟩ := h.cells
  have fz0 := fz 0
  obtain ⟨W0, hW0⟩ : ∃ W0, W0 = w.setCell ⟨b, 0, none⟩ (.int .u64 (t : Nat)) := ⟨_, rfl⟩
  have HPL0 : Hid (Placed base w W0 b t V M P) := Lib.hid (by
    rw [hW0]
    obtain ⟨q1, q2⟩ := h.setNow t
    exact ⟨V, L, D, F, q1, hp, q2⟩)
  have hll : l.length ≤ N.length := sub_len l N hn hl
  obtain ⟨A, cap, rfl, hcap, hcells⟩ := lies
  have HLI := Lib.hid (⟨A, cap, rfl, hcap, hcells⟩ : Lies w (.slice A l.length cap) l)
  have HO := Lib.hid ho
  have HN := Lib.hid hn
  have HNEW := Lib.hid hnew
  have HA := Lib.hid ha
  have HP := Lib.hid hP
  have HL := Lib.hid hl
  have hl' : (l.length : Int) ≤ 1000 := by omega
  replace hW0 := Lib.hid hW0
  clear h hp hcells ho hn hnew ha hP hl fz
  go_enter Tryd.func49, Tryd.ntmps49
  go_wp2_with fail
  rw [← hW0.out]
  go_loopw [14] (fun vi wr => ∃ i : Nat, vi = .int .i64 (i : Int) ∧ i ≤ l.length ∧ Placed base w wr b t V M (fun y => P y ∨ y ∈ l.take i)) (fun vi _ => l.length + 1 - (intOf vi).toNat)
  case atStart => exact ⟨0, rfl, by omega, HPL0.out.iff fun x => by simp⟩
  case round =>
    obtain ⟨i, rfl, hi, hpl⟩ := hrel
    rename_i wr
    have HPL := Lib.hid hpl
    clear hpl
    by_cases hin : i < l.length
    · have hin' : (i : Int) < l.length := by omega
      have hkb : KB w wr (Any b V) := by obtain ⟨_, _, _, _, _, _, q⟩ := HPL.out; exact q.kb
      obtain ⟨A2, cap2, e2, -, hce⟩ := lies_keep HLI.out HO.out hkb
      injection e2 with e2 _ e3
      subst e2
      subst e3
      obtain ⟨g, rfl, hg1, hg2, hg3⟩ := hce i hin
      have HTT : Hid (∀ y, (P y ∨ y ∈ l.take (i + 1)) ↔ ((P y ∨ y ∈ l.take i) ∨ y = l[i])) := Lib.hid fun y => by
        rw [List.take_succ_eq_append_getElem hin, List.mem_append, List.mem_singleton, or_assoc]
      have HYN : Hid (¬ (P l[i] ∨ l[i] ∈ l.take i)) := Lib.hid (by
        rintro (e | e)
        · exact HNEW.out _ (List.getElem_mem hin) e
        · obtain ⟨j, hj, e⟩ := List.getElem_of_mem e
          rw [List.getElem_take] at e
          rw [List.length_take] at hj
          have := (List.nodup_iff_pairwise_ne.1 HN.out)
          have := List.pairwise_iff_getElem.1 this j i (by omega) hin (by omega)
          exact this e)
      have HYA := Lib.hid (HA.out _ (List.getElem_mem hin))
      have HPN : Hid (∀ y, (P y ∨ y ∈ l.take i) → y ∈ N) := Lib.hid fun y hy => hy.elim (HP.out y) (fun e => HL.out y (List.mem_of_mem_take e))
      clear hce hkb
      generalize l[i] = y at *
      obtain ⟨wb, hwb⟩ : ∃ wb, wb = wr.alloc (.cells #[.int .u64 (y.1 : Nat), .int .u64 (y.2 : Nat)] 34) := ⟨_, rfl⟩
      have hbb : Below wr.heap.size wr wb := by rw [hwb]; exact (Below.refl _ _).alloc (Nat.le_refl _) _
      have hhb : wb.heap[wr.heap.size]? = some (.cells #[.int .u64 (y.1 : Nat), .int .u64 (y.2 : Nat)] 34 (0, 0)) := by rw [hwb]; exact heap_alloc_new wr _
      have y0 : wb.cell? ⟨wr.heap.size, 0, none⟩ = some (.int .u64 (y.1 : Nat)) := by simp [World.cell?, hhb]
      have y1 : wb.cell? ⟨wr.heap.size, 1, none⟩ = some (.int .u64 (y.2 : Nat)) := by simp [World.cell?, hhb]
      have HPC := Lib.hid (HPL.out.more y HYN.out HYA.out hbase HPN.out hM hbb)
      replace hwb := Lib.hid hwb
      clear hbb hhb
      go_upto_region 4 with fail
      rw [← hwb.out]
      go_wp2_with fail
      refine HPC.out.mono ?_
      rintro e w2 ⟨⟨r, rfl⟩, hpl2⟩
      have HPL2 := Lib.hid (hpl2.iff fun y => (HTT.out y).symm)
      clear hpl2
      go_wp2_with fail
      exact ⟨⟨i + 1, rfl, by omega, HPL2.out⟩, by simp [intOf]; omega⟩
    · have hin' : ¬ ((i : Int) < l.length) := by omega
      go_wp2_with fail
      refine bodyPost_end (results_none rfl _ _ _) rfl ?_
      refine ⟨⟨_, rfl⟩, HPL.out.iff fun y => ?_⟩
      rw [List.take_of_length_le (by omega)]
end Wh
end Go.Proofs.YtkjlfoihojfnbaaDoor
