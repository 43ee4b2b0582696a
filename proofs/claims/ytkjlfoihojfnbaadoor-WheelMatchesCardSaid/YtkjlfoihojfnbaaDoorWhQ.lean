/- The reference's Advance. -/
import Derived.Test.YtkjlfoihojfnbaaDoorWhP
import Derived.Lib.SliceRun
namespace Go.Proofs.YtkjlfoihojfnbaaDoor
open Go.RowKit
set_option linter.unusedVariables false
set_option linter.unusedSimpArgs false
namespace Wh
open Lo (IRow KB Lies LiesO below_drew bef bef_iff itcs run_append_itemsO row_empty)
variable {base b now t : Nat} {w w' w1 : World} {T : List (Nat × Nat)} {S S' : Nat → Prop}
theorem wpList_append_itemsO {ops : Array Oper} {rest : List Oper} {o : Oper} {a : Act} {Q : Exit → Act → World → Prop} (W : World) (hgd : o.guard = none) (s x : Operand)
    (ho : o.op = .call { callee := .builtin .append, args := #[s, x], argTypes := #[26, 26] }) (base : Nat) (v u : Value) (l l' : List (Nat × Nat)) (hv : a.eval s = v) (hx : a.eval x = u) (row : IRow 29 W base v l) (lies : LiesO W u l') (hl : l.length + l'.length ≤ 100000) (hbase : base ≤ W.heap.size)
    (h : ∀ v' W', IRow 29 W' base v' (l ++ l') → W.grownBy W' v.ownBlock → (v'.ownBlock = v.ownBlock ∨ v'.ownBlock = some W.heap.size) → wpList Tryd.prog ops Q rest (a.put o.dst v') W') : wpList Tryd.prog ops Q (o :: rest) a W := by
  obtain ⟨v', W', hr, q1, q2, q3⟩ := run_append_itemsO W o.type base v u l l' row lies hl hbase
  exact Lib.wpList_append_run W hgd s x _ _ ho _ _ hv hx _ W' hr (h v' W' q1 q2 q3)
theorem due_take {T : List (Nat × Nat)} (so : T.Pairwise bef) (t n : Nat) (hn : n ≤ T.length) (h1 : ∀ (j : Nat) (hj : j < T.length), j < n → T[j].2 ≤ t) (h2 : ∀ (h : n < T.length), t < T[n].2) : T.take n = dueT T t ∧ T.drop n = restT T t := by
  have hd : ∀ y ∈ T.take n, y.2 ≤ t := fun y hy => by
    obtain ⟨i, hi, rfl⟩ := List.getElem_of_mem hy
    rw [List.length_take] at hi
    rw [List.getElem_take]
    exact h1 i (by omega) (by omega)
  have hr : ∀ y ∈ T.drop n, t < y.2 := fun y hy => by
    obtain ⟨i, hi, rfl⟩ := List.getElem_of_mem hy
    rw [List.length_drop] at hi
    rw [List.getElem_drop]
    have hn2 : n < T.length := by omega
    have := h2 hn2
    by_cases e : i = 0
    · subst e; exact this
    · have hb := List.pairwise_iff_getElem.1 so n (n + i) hn2 (by omega) (by omega)
      rw [bef_iff] at hb; omega
  have e : T = T.take n ++ T.drop n := (List.take_append_drop n T).symm
  unfold dueT restT
  constructor
  · conv => rhs; rw [e]
    rw [List.filter_append, List.filter_eq_self.2 (fun y hy => decide_eq_true (hd y hy)), List.filter_eq_nil_iff.2 (fun y hy => by have := hr y hy; simp; omega), List.append_nil]
  · conv => rhs; rw [e]
    rw [List.filter_append, List.filter_eq_nil_iff.2 (fun y hy => by have := hd y hy; simp; omega), List.filter_eq_self.2 (fun y hy => decide_eq_true (hr y hy)), List.nil_append]
theorem lies_take {w : World} {A : Option Addr} {cap : Nat} {T : List (Nat × Nat)} (h : Lies w (.slice A T.length cap) T) (i : Nat) (hi : i ≤ T.length) : Lies w (.slice A i cap) (T.take i) := by
  obtain ⟨A', cap', e, hc, h3⟩ := h
  injection e with e1 _ e3
  subst e1 e3
  have hl : (T.take i).length = i := by rw [List.length_take]; omega
  refine ⟨A, cap, by rw [hl], by omega, fun j hj => ?_⟩
  rw [hl] at hj
  obtain ⟨g, q1, q2, q3, q4⟩ := h3 j (by omega)
  exact ⟨g, q1, q2, by rw [List.getElem_take]; exact q3, by rw [List.getElem_take]; exact q4⟩
theorem liesO_drop {w : World} {g cap : Nat} {T : List (Nat × Nat)} (h : Lies w (.slice (some ⟨g, 0, none⟩) T.length cap) T) (i : Nat) (hi : i ≤ T.length) {A' : Addr} (hA : (if cap = i then (some ⟨g, 0, none⟩ : Option Addr) else some ⟨g, i * 2, none⟩) = some A') :
    LiesO w (.slice (some A') (T.length - i) (cap - i)) (T.drop i) := by
  obtain ⟨A0, cap', e, hc, h3⟩ := h
  injection e with e1 _ e3
  subst e1 e3
  refine ⟨some A', cap - i, by rw [List.length_drop], by rw [List.length_drop]; omega, fun j hj => ?_⟩
  rw [List.length_drop] at hj
  obtain ⟨g', q1, q2, q3, q4⟩ := h3 (i + j) (by omega)
  injection q1 with q1
  injection q1 with q1
  subst q1
  rw [if_neg (by omega)] at hA
  injection hA with hA
  refine ⟨g, i * 2, by rw [hA], ?_, ?_⟩
  · rw [List.getElem_drop, ← q3]; congr 2; omega
  · rw [List.getElem_drop, ← q4]; congr 2; omega
theorem own_slice (A : Option Addr) (i j c : Nat) : (Value.slice A i c).ownBlock = (Value.slice A j c).ownBlock := by cases A <;> rfl
theorem grown_cell {W W' : World} {o : Option Nat} {g off : Nat} (hg : W.grownBy W' o) (hlt : g < W.heap.size) (hne : some g ≠ o) : W'.heap[g]? = W.heap[g]? := hg.block g hlt hne
/-- What Advance gives. -/
def RAdv (w : World) (now t : Nat) (v : Value) (T : List (Nat × Nat)) (e : Ending) (w' : World) : Prop :=
  ((9223372036854775807 < t ∧ e = .returned (.tuple #[.agg #[.int .u64 (now : Nat), v], .slice none 0 0, .int .i64 2])) ∨ (t ≤ 9223372036854775807 ∧ t < now ∧ e = .returned (.tuple #[.agg #[.int .u64 (now : Nat), v], .slice none 0 0, .int .i64 12])) ∨
    (t ≤ 9223372036854775807 ∧ now ≤ t ∧ ∃ u v', e = .returned (.tuple #[.agg #[.int .u64 (t : Nat), v'], u, .int .i64 0]) ∧ Lies w' u (dueT T t) ∧ (∀ g, u.ownBlock = some g → v.ownBlock = some g) ∧ IRow 29 w' w.heap.size v' (restT T t))) ∧ Below w.heap.size w w'
set_option maxRecDepth 100000 in
set_option maxHeartbeats 2000000 in
theorem radv_any (hT : T.length ≤ 1000) (so : T.Pairwise bef) (v : Value) (row : IRow 29 w base v T) :
    Calls Tryd.prog 29 #[.agg #[.int .u64 (now : Nat), v], .int .u64 (t : Nat)] w (RAdv w now t v T) := by
  obtain ⟨A, cap, rfl, hcap, -⟩ := row.opened
  obtain ⟨W0, hW0⟩ : ∃ W0, W0 = (w.alloc (.cells #[.int .u64 (now : Nat), .slice A T.length cap] 49)).alloc (.cells #[.int .u64 0, .slice none 0 0] 49) := ⟨_, rfl⟩
  have hb0 : Below w.heap.size w W0 := by rw [hW0]; exact ((Below.refl _ _).alloc (Nat.le_refl _) _).alloc (by simp) _
  have hx0 : W0.heap[w.heap.size]? = some (.cells #[.int .u64 (now : Nat), .slice A T.length cap] 49 (0, 0)) := by rw [hW0]; exact (heap_alloc_old _ _ (by simp)).trans (heap_alloc_new w _)
  have hr0 : W0.heap[w.heap.size + 1]? = some (.cells #[.int .u64 (0 : Nat), .slice none 0 0] 49 (0, 0)) := by
    rw [hW0]
    have e := heap_alloc_new (w.alloc (.cells #[.int .u64 (now : Nat), .slice A T.length cap] 49)) (.cells #[.int .u64 0, .slice none 0 0] 49)
    rw [World.size_alloc] at e
    exact e
  have hzw : w.heap.size + 2 = W0.heap.size := by rw [hW0]; simp
  obtain ⟨x0, x1, xf⟩ := cellsW hx0
  obtain ⟨r0, r1, rf⟩ := cellsW hr0
  have rf0 := rf 0
  have rf1 := rf 1
  have HB0 := Lib.hid hb0
  have HR0 := Lib.hid hr0
  have ROW := Lib.hid (row.later hb0)
  have SO := Lib.hid so
  replace hW0 := Lib.hid hW0
  clear hb0 hx0 hr0 xf rf so
  by_cases ha : 9223372036854775807 < t
  · have ha' : (9223372036854775807 : Int) < t := by omega
    go_enter Tryd.func29, Tryd.ntmps29
    go_upto_region 1 with fail
    rw [← hW0.out]
    go_wp2_with fail
    refine bodyPost_ret (v := .tuple #[.agg #[.int .u64 (now : Nat), .slice A T.length cap], .slice none 0 0, .int .i64 2]) (by simp [results, Tryd.results29, go_sem, r0, r1]) rfl ⟨.inl ⟨ha, rfl⟩, ?_⟩
    exact (HB0.out.setCell (by simp) _).setCell (by simp) _
  · have ha' : ¬ ((9223372036854775807 : Int) < t) := by omega
    by_cases hb : t < now
    · have hb' : (t : Int) < now := by omega
      go_enter Tryd.func29, Tryd.ntmps29
      go_upto_region 1 with fail
      rw [← hW0.out]
      go_wp2_with fail
      refine bodyPost_ret (v := .tuple #[.agg #[.int .u64 (now : Nat), .slice A T.length cap], .slice none 0 0, .int .i64 12]) (by simp [results, Tryd.results29, go_sem, r0, r1]) rfl ⟨.inr (.inl ⟨by omega, hb, rfl⟩), ?_⟩
      exact (HB0.out.setCell (by simp) _).setCell (by simp) _
    · have hb' : ¬ ((t : Int) < now) := by omega
      have hT' : (T.length : Int) ≤ 1000 := by omega
      have HCE := Lib.hid ROW.out.opened
      go_enter Tryd.func29, Tryd.ntmps29
      go_upto_region 1 with fail
      rw [← hW0.out]
      go_wp2_with fail
      go_loop [7] (fun vi => ∃ i : Nat, vi = .int .i64 (i : Int) ∧ i ≤ T.length ∧ Hid (∀ (j : Nat) (hj : j < T.length), j < i → T[j].2 ≤ t)) (fun vi => T.length + 1 - (intOf vi).toNat)
      case atStart => exact ⟨0, rfl, by omega, Lib.hid (fun j _ h => by omega)⟩
      case round =>
        obtain ⟨i, rfl, hi, HN⟩ := hrel
        have hi0 : (0 : Int) ≤ i := by omega
        by_cases hin : i < T.length ∧ T[i]!.2 ≤ t
        · obtain ⟨hin, hle⟩ := hin
          obtain ⟨A', cap', e1, -, hce⟩ := HCE.out
          injection e1 with e1 _ e3
          subst e1
          subst e3
          obtain ⟨g, rfl, hg0, hg1, hg2, hg3⟩ := hce i hin
          have hin' : (i : Int) < T.length := by omega
          rw [List.getElem!_eq_getElem?_getD, List.getElem?_eq_getElem hin] at hle
          have hle2 : T[i].2 ≤ t := hle
          have HN2 : Hid (∀ (j : Nat) (hj : j < T.length), j < i + 1 → T[j].2 ≤ t) := Lib.hid fun j hj h => by
            by_cases e : j = i
            · subst e; exact hle2
            · exact HN.out j hj (by omega)
          have hle' : (T[i].2 : Int) ≤ t := by omega
          clear hce hle hle2
          generalize T[i] = y at *
          go_wp2_with fail
          exact ⟨⟨i + 1, rfl, by omega, HN2⟩, by simp [intOf]; omega⟩
        · have hend : ∀ (h : i < T.length), t < T[i].2 := fun h => by
            rcases Nat.lt_or_ge t T[i].2 with e | e
            · exact e
            · exact absurd ⟨h, by rw [List.getElem!_eq_getElem?_getD, List.getElem?_eq_getElem h]; exact e⟩ hin
          obtain ⟨hdue, hrest⟩ := due_take SO.out t i hi HN.out hend
          have HDUE := Lib.hid hdue
          have HREST := Lib.hid hrest
          obtain ⟨W1, hW1⟩ : ∃ W1, W1 = W0.alloc (.cells #[] 29) := ⟨_, rfl⟩
          have hb1 : Below W0.heap.size W0 W1 := by rw [hW1]; exact (Below.refl _ _).alloc (Nat.le_refl _) _
          have ROWE : Hid (IRow 29 W1 W0.heap.size (.slice (some ⟨W0.heap.size, 0, none⟩) 0 0) []) := Lib.hid (by rw [hW1]; exact row_empty W0 _ _ (Nat.le_refl _))
          have hz1 : W0.heap.size ≤ W1.heap.size := hb1.size
          have HB1 := Lib.hid hb1
          have LT := Lib.hid (lies_take ROW.out.lies i hi)
          have LIE := Lib.hid (ROW.out.lies.later hb1)
          replace hW1 := Lib.hid hW1
          have FIN : Hid (∀ (w3 : World) (v3 : Value), IRow 29 w3 W0.heap.size v3 ([] ++ T.drop i) → W1.grownBy w3 (some W0.heap.size) → ∃ A3 cap3, v3 = .slice A3 (restT T t).length cap3 ∧ w3.heap[w.heap.size + 1]? = some (.cells #[.int .u64 (0 : Nat), .slice none 0 0] 49 (0, 0)) ∧
              RAdv w now t (.slice A T.length cap) T (.returned (.tuple #[.agg #[.int .u64 (t : Nat), .slice A3 (restT T t).length cap3], .slice A i cap, .int .i64 0])) ((w3.setCell ⟨w.heap.size + 1, 0, none⟩ (.int .u64 (t : Nat))).setCell ⟨w.heap.size + 1, 1, none⟩ (.slice A3 (restT T t).length cap3))) := Lib.hid fun w3 v3 row3 hg3 => by
            rw [List.nil_append, HREST.out] at row3
            obtain ⟨A3, cap3, rfl, -, -⟩ := row3.opened
            have hz0 : w.heap.size + 2 = W0.heap.size := hzw
            have hbl : Below W0.heap.size W0 w3 := HB1.out.grown hg3 hz1 (fun k hk => by cases hk; exact Nat.le_refl _)
            refine ⟨A3, cap3, rfl, (hbl.block _ (by omega)).trans HR0.out, .inr (.inr ⟨by omega, by omega, _, _, rfl, ?_, fun g hg => by rw [own_slice A T.length i cap]; exact hg, ?_⟩), ?_⟩
            · rw [← HDUE.out]
              have hl3 := LT.out.later hbl
              refine lies_keep (lies_keep (S := fun g => g = w.heap.size + 1) hl3 ?_ (kb_set w3 _ 0 _)) ?_ (kb_set _ _ 1 _)
              all_goals
                intro g hg e
                rw [own_slice A i T.length cap] at hg
                have := (row.lt g hg).2
                omega
            · refine (row3.keep fun g hg => ?_).base_le (by omega)
              have := (row3.lt g hg).1
              rw [Below.heap_setCell _ _ _ _ (by simp; omega), Below.heap_setCell _ _ _ _ (by simp; omega)]
            · exact ((HB0.out.trans (hbl.mono HB0.out.size)).setCell (by simp) _).setCell (by simp) _
          clear hdue hrest hin hb1
          have hic : i ≤ cap := Nat.le_trans hi hcap
          have hzl : w.heap.size < W0.heap.size := by omega
          clear hzw
          have ROW2 := Lib.hid row
          clear row
          rcases ROW2.out.2 with ⟨e1, e2⟩ | ⟨g, cap', cur, e1, q2, q3, q4, q5, q6, q7⟩
          · obtain rfl : T = [] := List.eq_nil_of_length_eq_zero e2
            injection e1 with e1 _ e3
            subst e1
            subst e3
            obtain rfl : i = 0 := by simpa using hi
            have LO := Lib.hid LIE.out.toO
            go_wp2_with (at_builtin; rw [← hW1.out]; refine wpList_append_itemsO _ rfl _ _ rfl W0.heap.size _ _ [] [] rfl rfl ROWE.out LO.out (by simp) hz1 ?_; intro v3 w3 hrow3 hg3 ho3; obtain ⟨A3, cap3, rfl, hr3, hfin⟩ := FIN.out w3 v3 hrow3 hg3; have HFIN := Lib.hid hfin; obtain ⟨r0, r1, rf⟩ := cellsW hr3; have rf0 := rf 0; have rf1 := rf 1; clear rf hr3 hfin hrow3 hg3 ho3)
            refine bodyPost_ret (v := .tuple #[.agg #[.int .u64 (t : Nat), .slice A3 (restT [] t).length cap3], .slice none 0 0, .int .i64 0]) (by simp [results, Tryd.results29, go_sem, r0, r1]) rfl HFIN.out
          · injection e1 with e1 _ e3
            subst e1
            subst e3
            obtain ⟨A', hA⟩ : ∃ A' : Addr, (if cap = i then (some ⟨g, 0, none⟩ : Option Addr) else some ⟨g, i * 2, none⟩) = some A' := by
              by_cases e : cap = i
              · exact ⟨_, if_pos e⟩
              · exact ⟨_, if_neg e⟩
            have LO := Lib.hid (liesO_drop LIE.out i hi hA)
            have hcx : cap ≤ 9223372036854775807 := q5
            by_cases hin : i < T.length
            · have hin' : (i : Int) < T.length := by omega
              obtain ⟨A9, cap2, e1, e9, hce⟩ := ROW.out.opened
              injection e1 with e1 _ e3
              subst e1
              subst e3
              obtain ⟨g2, e4, hg0, hg1, hg2, hg3⟩ := hce i hin
              have hlt := hend hin
              have hlt' : ¬ ((T[i].2 : Int) ≤ t) := by omega
              injection e4 with e4
              injection e4 with e4
              subst e4
              clear q2 q3 q4 q6 q7 hend hlt hce
              generalize T[i] = y at *
              rw [if_neg (by omega)] at hA
              injection hA with hA
              subst hA
              go_wp2_with (at_builtin; rw [← hW1.out]; refine wpList_append_itemsO _ rfl _ _ rfl W0.heap.size _ _ [] (T.drop i) rfl rfl ROWE.out LO.out (by rw [List.length_drop]; simp; omega) hz1 ?_; intro v3 w3 hrow3 hg3 ho3; obtain ⟨A3, cap3, rfl, hr3, hfin⟩ := FIN.out w3 v3 hrow3 hg3; have HFIN := Lib.hid hfin; obtain ⟨r0, r1, rf⟩ := cellsW hr3; have rf0 := rf 0; have rf1 := rf 1; clear rf hr3 hfin hrow3 hg3 ho3)
              refine bodyPost_ret (v := .tuple #[.agg #[.int .u64 (t : Nat), .slice A3 (restT T t).length cap3], .slice (some ⟨g, 0, none⟩) i cap, .int .i64 0]) (by simp [results, Tryd.results29, go_sem, r0, r1]) rfl HFIN.out
            · have hin' : ¬ ((i : Int) < T.length) := by omega
              clear q2 q3 q4 q6 q7 hend
              go_wp2_with (at_builtin; rw [← hW1.out]; refine wpList_append_itemsO _ rfl _ _ rfl W0.heap.size _ _ [] (T.drop i) rfl rfl ROWE.out LO.out (by rw [List.length_drop]; simp; omega) hz1 ?_; intro v3 w3 hrow3 hg3 ho3; obtain ⟨A3, cap3, rfl, hr3, hfin⟩ := FIN.out w3 v3 hrow3 hg3; have HFIN := Lib.hid hfin; obtain ⟨r0, r1, rf⟩ := cellsW hr3; have rf0 := rf 0; have rf1 := rf 1; clear rf hr3 hfin hrow3 hg3 ho3)
              refine bodyPost_ret (v := .tuple #[.agg #[.int .u64 (t : Nat), .slice A3 (restT T t).length cap3], .slice (some ⟨g, 0, none⟩) i cap, .int .i64 0]) (by simp [results, Tryd.results29, go_sem, r0, r1]) rfl HFIN.out
end Wh
end Go.Proofs.YtkjlfoihojfnbaaDoor
