/- batch.Text of any valid batch of small events. -/
/- Forms and texts of batches tell the batches: no program in sight. -/
/- Small events, bytes that are equal, the form of an invalid event. -/
/- batch.Bytes: the walk. -/
import Derived.Test.YtpneejlilgepfaaGreatDoorMbaw
import Derived.Test.YtpneejlilgepfaaGreatDoorMban
import Derived.Test.YtpneejlilgepfaaGreatDoorMbam
import Derived.Test.YtpneejlilgepfaaGreatDoorMbau
import Derived.Test.YtpneejlilgepfaaGreatDoorMbac
import Derived.BigQuiet
import Derived.StillTailTactics
namespace Go.Proofs.YtpneejlilgepfaaGreatDoor
open Go.RowKit Go.Shelf
set_option linter.unusedVariables false
set_option linter.unusedSimpArgs false
namespace Bs
open _root_.Go.Proofs.YtpneejlilgepfaaGreatDoor.Nm (bitsW ret_int ret_bool)
open Vt (VT Rep BoxAt below_drew)
open Ev (EV FieldsOk evCells vCells EBox ERep take_drop cons_drop)
open Cm (EvsIn)
open Cn (BB bvalid bvalid_any box_ev)
open Bt (SOwn)
open Pf (stext)
open Vf (TB sown_nil sown_lt quoted_any)

def strB (l : List UInt8) : ByteArray := ⟨l.toArray⟩
/-- The texts of events, as contracts. -/
def EvTexts (es : List EV) (ts : List (List UInt8)) : Prop := ts.length = es.length ∧ ∀ i (h : i < es.length) (h' : i < ts.length) (lo hi : Nat) (vk vn : Int) (vf : Nat) (vs : ByteArray) (A : Option Addr) (m c : Nat) (w : World), FieldsOk es[i] → Rep w lo hi es[i].v (vCells vk vn vf vs A m c) → hi ≤ w.heap.size → TB w →
  Calls Tryz.prog 27 #[.agg (evCells es[i] vk vn vf vs A m c)] w fun r w' => r = .returned (.string (strB ts[i])) ∧ Below w.heap.size w w'

/-- Strings onto a row. -/
theorem run_append_strs {W : World} {base : Nat} (ty : TypeId) {v : Value} {l l2 : List ByteArray} (a : Addr) (c : Nat) (hx : ∀ j x, l2[j]? = some x → W.cell? (a.add j) = some (.string x)) (hown : SOwn W base v l) (hlen : l.length + l2.length ≤ 4194304) (hbase : base ≤ W.heap.size) :
    ∃ v' W', (Builtin.append_ #[74, 74] ty #[v, .slice (some a) l2.length c]).run Tryz.prog W = .ok v' W' ∧ SOwn W' base v' (l ++ l2) ∧ W.grownBy W' v.ownBlock := by
  obtain ⟨i0, hi, hz0, hz1, hz2⟩ := info_parts Bt.Tryz.infoS
  obtain ⟨v', W', hr, ho, hg, -, -⟩ := run_append_own_at (P := Tryz.prog) W base 74 ty 9 i0 (.string ⟨#[]⟩) 1 16 Tryz.underlying74 hi hz0 hz1 hz2 rfl (by decide) v l.length _ hown a l2.length c (l2.map Value.string) (by simp) (fun j u hu => by
    rw [List.getElem?_map] at hu
    obtain ⟨x, hx1, rfl⟩ := Option.map_eq_some_iff.1 hu
    exact hx j x hx1) (by intro u hu; obtain ⟨x, -, rfl⟩ := List.mem_map.1 hu; rfl) (by simp only [maxLen]; omega) (by omega) hbase
  refine ⟨v', W', hr, ?_, hg⟩
  unfold SOwn
  rw [List.length_append, List.map_append]
  exact ho
theorem wpList_append_strs {ops : Array Oper} {rest : List Oper} {o : Oper} {a : Act} {Q : Exit → Act → World → Prop} (W : World) (hgd : o.guard = none) (s y : Operand)
    (ho : o.op = .call { callee := .builtin .append, args := #[s, y], argTypes := #[74, 74] }) (base : Nat) (v : Value) (ad : Addr) (c : Nat) (l l2 : List ByteArray) (n : Nat) (hn : n = l2.length) (hv : a.eval s = v) (hy : a.eval y = .slice (some ad) n c) (hx : ∀ j x, l2[j]? = some x → W.cell? (ad.add j) = some (.string x)) (hown : SOwn W base v l) (hlen : l.length + l2.length ≤ 4194304) (hbase : base ≤ W.heap.size)
    (h : ∀ v' W', SOwn W' base v' (l ++ l2) → W.grownBy W' v.ownBlock → Below base W W' → wpList Tryz.prog ops Q rest (a.put o.dst v') W') : wpList Tryz.prog ops Q (o :: rest) a W := by
  subst hn
  obtain ⟨v', W', hr, h1, h2⟩ := run_append_strs o.type ad c hx hown hlen hbase
  exact Lib.wpList_append_run W hgd s y _ _ ho v _ hv hy v' W' hr (h v' W' h1 h2 ((Below.refl base W).grown h2 hbase hown.row_ge))
/-- The strings of a row, by their places. -/
theorem SOwn.at_ {w : World} {base : Nat} {v : Value} {l : List ByteArray} (h : SOwn w base v l) (h0 : l ≠ []) : ∃ g cap, v = .slice (some ⟨g, 0, none⟩) l.length cap ∧ base ≤ g ∧ g < w.heap.size ∧ l.length ≤ cap ∧ ∀ j x, l[j]? = some x → w.cell? ((⟨g, 0, none⟩ : Addr).add j) = some (.string x) := by
  rcases h.2 with ⟨h1, h2⟩ | ⟨g, cap, cur, rfl, q2, q3, q4, q5, q6, q7⟩
  · exact absurd (List.eq_nil_of_length_eq_zero h2) h0
  · refine ⟨g, cap, rfl, q2, (Array.getElem?_eq_some_iff.1 q3).1, q4, fun j x hj => ?_⟩
    have hlt := (List.getElem?_eq_some_iff.1 hj).1
    have hc : cur[j]? = some (.string x) := by
      have h3 : (l.map Value.string)[j]? = some (.string x) := by rw [List.getElem?_map, hj]; rfl
      rw [← q7, List.getElem?_take_of_lt (by omega)] at h3
      rw [← Array.getElem?_toList]; exact h3
    have e : (⟨g, 0, none⟩ : Addr).add j = ⟨g, j, none⟩ := by by_cases h : j = 0 <;> simp [Addr.add, h]
    rw [e]
    simp [World.cell?, q3, hc]
/-- Strings joined by whatever. -/
theorem join_sep (sep : ByteArray) (l : List ByteArray) (v : Value) (base : Nat) (w : World) (hown : SOwn w base v l) (h0 : l ≠ []) (hn : l.length ≤ 4194304) (hlen : (Lib.join (l.map (·.data.toList)) sep.data.toList).length ≤ 140737488355328) :
    Calls Tryz.prog 49 #[v, .string sep] w fun e w' => e = .returned (.string ⟨(Lib.join (l.map (·.data.toList)) sep.data.toList).toArray⟩) ∧ Below w.heap.size w w' := by
  obtain ⟨g, cap, rfl, -, h2, h3, h4⟩ := SOwn.at_ hown h0
  exact Any.strings_Join Tryz.laysJoin Tryz.extraJoin g 0 cap l sep w (fun j x hj => by have := h4 j x hj; rw [show (⟨g, 0, none⟩ : Addr).add j = ⟨g, 0 + j, none⟩ from by by_cases h : j = 0 <;> simp [Addr.add, h]] at this; exact this) h2 (by omega) h3 hlen

set_option maxRecDepth 100000 in
set_option maxHeartbeats 2000000 in
theorem mappeds_any (es : List EV) (hl2 : es.length ≤ 2097152) (ts : List (List UInt8)) (hET : EvTexts es ts) (A : Option Addr) (cap : Nat) (w : World) (h : EvsIn w A cap es) (ht : TB w) :
    Calls Tryz.prog 50 #[.slice A es.length cap, .func (.func 27) #[] #[]] w fun r w' => ∃ A2 cap2, r = .returned (.slice A2 es.length cap2) ∧ Below w.heap.size w w' ∧ SOwn w' w.heap.size (.slice A2 es.length cap2) (ts.map strB) := by
  have hl := h.le
  have hc := h.cap_le
  simp only [maxLen] at hc
  have HK := Lib.hid h; clear h
  have hbl := hET.1
  have HE := Lib.hid hET.2
  have HTB := Lib.hid ht
  clear hET ht
  go_enter Tryz.func50, Tryz.ntmps50
  go_wp2_with fail
  go_loopw [5, 10] (fun out i wr => ∃ (j : Nat) (A2 : Option Addr) (cap2 : Nat), j ≤ es.length ∧ i = .int .i64 j ∧ out = .slice A2 j cap2 ∧ SOwn wr w.heap.size (.slice A2 j cap2) ((ts.take j).map strB) ∧ Below w.heap.size w wr) (fun _ i _ => es.length - (intOf i).toNat)
  case atStart => exact ⟨0, none, 0, by omega, rfl, rfl, by simpa using sown_nil w w.heap.size, Below.refl _ _⟩
  case round =>
    obtain ⟨j, A2, cap2, hj, rfl, rfl, hrow, hb⟩ := hrel
    by_cases hlt : j < es.length
    · obtain ⟨b, off, lo, hi, vk, vn, vf, vs, A', m, c, rfl, hbl', hf, hv0, hhi0, e0, e1, e2, e3, e4, e5, e6, e7, e8, e9, e10⟩ := HK.out.get j hlt
      have HB := Lib.hid hb
      have hbs := hb.size
      have hcw : ∀ o, wr.cell? ⟨b, o, none⟩ = w.cell? ⟨b, o, none⟩ := fun o => HB.out.cell (p := ⟨b, o, none⟩) hbl'
      have d0 := (hcw _).trans e0; have d1 := (hcw _).trans e1; have d2 := (hcw _).trans e2; have d3 := (hcw _).trans e3; have d4 := (hcw _).trans e4; have d5 := (hcw _).trans e5; have d6 := (hcw _).trans e6; have d7 := (hcw _).trans e7; have d8 := (hcw _).trans e8; have d9 := (hcw _).trans e9; have d10 := (hcw _).trans e10
      have hv := hv0.later (HB.out.mono hhi0)
      have hhi : hi ≤ wr.heap.size := Nat.le_trans hhi0 hbs
      clear e0 e1 e2 e3 e4 e5 e6 e7 e8 e9 e10 hcw hv0 hb
      obtain ⟨W1, hW1⟩ : ∃ W1, W1 = wr.alloc (.cells (evCells es[j] vk vn vf vs A' m c) 43) := ⟨_, rfl⟩
      have hb1 : Below wr.heap.size wr W1 := by rw [hW1]; exact (Below.refl _ _).alloc (Nat.le_refl _) _
      have hx1 : EBox W1 wr.heap.size (evCells es[j] vk vn vf vs A' m c) := by rw [hW1]; exact box_ev ..
      obtain ⟨g0, g1, g2, g3, g4, g5, g6, g7, g8, g9, g10⟩ := EBox.cells hx1
      have hjb : j < ts.length := by omega
      have HC := Lib.hid (HE.out j hlt hjb lo hi vk vn vf vs A' m c W1 hf (hv.later (hb1.mono hhi)) (Nat.le_trans hhi hb1.size) (HTB.out.later (HB.out.trans (hb1.mono HB.out.size))))
      have HB1 := Lib.hid (HB.out.trans (hb1.mono HB.out.size))
      have HO1 := Lib.hid (hrow.later hb1)
      have HJ : Hid (((ts.take j).map strB).length = j) := Lib.hid (by rw [List.length_map, List.length_take]; omega)
      obtain ⟨tx, htx⟩ : ∃ tx, tx = strB ts[j] := ⟨_, rfl⟩
      rw [← htx] at HC
      have HTX := Lib.hid htx
      unfold evCells at HC hW1
      replace hW1 := Lib.hid hW1
      clear hf hv hx1 hb1 hrow htx
      go_upto_region 5 with fail
      rw [← hW1.out]
      clear d0 d1 d2 d3 d4 d5 d6 d7 d8 d9 d10
      go_wp2_with fail
      refine HC.out.mono ?_
      rintro x w2 ⟨rfl, hb2⟩
      obtain ⟨W4, hW4⟩ : ∃ W4, W4 = w2.alloc (.cells #[.string tx] 9) := ⟨_, rfl⟩
      have hb4 : Below w2.heap.size w2 W4 := by rw [hW4]; exact (Below.refl _ _).alloc (Nat.le_refl _) _
      have hcell : W4.cell? ⟨w2.heap.size, 0, none⟩ = some (.string tx) := by rw [hW4]; have e := heap_alloc_new w2 (.cells #[.string tx] 9); simp only [World.cell?, e]; rfl
      have HCE : Hid (∀ (k : Nat) x, [tx][k]? = some x → W4.cell? ((⟨w2.heap.size, 0, none⟩ : Addr).add k) = some (.string x)) := Lib.hid fun k x hx => by
        rcases k with _ | k
        · have e : tx = x := by simpa using hx
          rw [← e]; exact hcell
        · simp at hx
      have HO4 := Lib.hid ((HO1.out.later hb2).later hb4)
      have HB4 := Lib.hid ((HB1.out.trans (hb2.mono HB1.out.size)).trans (hb4.mono (Nat.le_trans HB1.out.size hb2.size)))
      clear hb2 hb4 hcell g0 g1 g2 g3 g4 g5 g6 g7 g8 g9 g10
      replace hW4 := Lib.hid hW4
      go_wp2_with (at_builtin; rw [← hW4.out]; refine wpList_append_strs _ rfl _ _ rfl w.heap.size _ ⟨w2.heap.size, 0, none⟩ 1 _ [tx] 1 rfl rfl rfl HCE.out HO4.out (by rw [HJ.out]; simp only [List.length_singleton]; omega) HB4.out.size ?_; intro v5 w5 hown5 hg5 hb5; have HO5 := Lib.hid hown5; have HB5 := Lib.hid (HB4.out.trans hb5); clear hown5 hg5 hb5)
      have hz5 : (((ts.take j).map strB) ++ [tx]).length = j + 1 := by rw [List.length_append, HJ.out]; rfl
      obtain ⟨A5, cap5, rfl⟩ : ∃ A5 cap5, v5 = .slice A5 (j + 1) cap5 := by
        rcases HO5.out.2 with ⟨-, h2⟩ | ⟨g, cp, cur, q1, -⟩
        · omega
        · exact ⟨_, _, by rw [q1, hz5]⟩
      have HO6 : Hid (SOwn w5 w.heap.size (.slice A5 (j + 1) cap5) ((ts.take (j + 1)).map strB)) := Lib.hid (by
        have := HO5.out
        rw [HTX.out] at this
        rw [List.take_succ_eq_append_getElem hjb, List.map_append]
        exact this)
      clear HO5 hz5
      go_wp2_with fail
      exact ⟨⟨j + 1, A5, cap5, by omega, by go_num, rfl, HO6.out, HB5.out⟩, by simp [intOf]; omega⟩
    · have hj' : j = es.length := by omega
      subst hj'
      rw [List.take_of_length_le (by omega)] at hrow
      have HE := Lib.hid hrow; have HB := Lib.hid hb
      clear hrow hb
      go_wp2_with fail
      go_ret
      exact ⟨A2, cap2, rfl, HB.out, HE.out⟩

/-- The text of a batch. -/
def bfront (f : ByteArray) (at' : Nat) : List UInt8 := stext f ++ (32 :: Lib.decDigits at')
def btext (f : ByteArray) (at' : Nat) (ts : List (List UInt8)) : List UInt8 := Lib.join (bfront f at' :: ts) [59, 32]

set_option maxRecDepth 100000 in
set_option maxHeartbeats 2000000 in
theorem btextb_any (es : List EV) (hl2 : es.length ≤ 2097152) (ts : List (List UInt8)) (hET : EvTexts es ts) (f : ByteArray) (at' : Nat) (hat : at' < 18446744073709551616) (hlen : (btext f at' ts).length ≤ 140737488355328) (A : Option Addr) (cap : Nat) (w : World) (h : EvsIn w A cap es) (hval : bvalid f at' es = true) (ht : TB w) :
    Calls Tryz.prog 16 #[.agg #[.string f, .int .u64 at', .slice A es.length cap]] w fun r w' => r = .returned (.string (strB (btext f at' ts))) ∧ Below w.heap.size w w' := by
  have hfz : f.size ≤ 1000 := by
    unfold bvalid at hval
    simp only [Bool.and_eq_true, decide_eq_true_iff] at hval
    exact hval.1.1.1.2
  have h0 : 0 < es.length := by
    unfold bvalid at hval
    simp only [Bool.and_eq_true, decide_eq_true_iff] at hval
    exact hval.1.2
  obtain ⟨W0, hW0⟩ : ∃ W0, W0 = w.alloc (.cells #[.string f, .int .u64 at', .slice A es.length cap] 25) := ⟨_, rfl⟩
  have hx0 : BB W0 w.heap.size f at' A es.length cap := by rw [hW0]; exact heap_alloc_new w _
  have hb0 : Below w.heap.size w W0 := by rw [hW0]; exact (Below.refl _ _).alloc (Nat.le_refl _) _
  have hz0 : W0.heap.size = w.heap.size + 1 := by rw [hW0]; simp
  have HV := Lib.hid (bvalid_any es f (by simp only [maxLen]; omega) at' hat A cap W0 (h.later hb0))
  rw [hval] at HV
  have HM := Lib.hid fun W (hW : Below W0.heap.size W0 W) => mappeds_any es hl2 ts hET A cap W ((h.later hb0).later hW) ((ht.later hb0).later hW)
  have hbl := hET.1
  obtain ⟨c0, c1, c2, -⟩ := hx0.cells
  have HX0 := Lib.hid hx0; have HBW := Lib.hid hb0
  have HTB0 := Lib.hid (ht.later hb0)
  obtain ⟨xf, hxf⟩ : ∃ xf : ByteArray, xf = strB (stext f) := ⟨_, rfl⟩
  obtain ⟨xa, hxa⟩ : ∃ xa : ByteArray, xa = strB (Lib.decDigits at') := ⟨_, rfl⟩
  have hsf : xf.size ≤ 3000 := by rw [hxf]; show (stext f).length ≤ 3000; rw [Vf.stext_len]; omega
  have hsa : xa.size ≤ 30 := by rw [hxa]; show (Lib.decDigits at').length ≤ 30; have := Vf.dec_len at' hat; omega
  have HXF := Lib.hid hxf; have HXA := Lib.hid hxa
  have HLEN := Lib.hid hlen
  clear hx0 hb0 hval h ht hET hxf hxa hlen
  replace hW0 := Lib.hid hW0
  go_enter Tryz.func16, Tryz.ntmps16
  go_upto_region 1 with fail
  rw [← hW0.out]
  go_wp2_with fail
  refine HV.out.mono ?_
  rintro x w1 ⟨rfl, hb1⟩
  have HB1 := Lib.hid hb1
  clear hb1 c0 c1 c2
  have KS : Hid (∀ W' : World, Below w1.heap.size w1 W' → (W'.cell? ⟨w.heap.size, 0, none⟩ = some (.string f) ∧ W'.cell? ⟨w.heap.size, 1, none⟩ = some (.int .u64 at') ∧ W'.cell? ⟨w.heap.size, 2, none⟩ = some (.slice A es.length cap))) := Lib.hid fun W' hW => by
    obtain ⟨c0, c1, c2, -⟩ := (HX0.out.later (HB1.out.trans (hW.mono HB1.out.size)) (by omega)).cells
    exact ⟨c0, c1, c2⟩
  have HQ : Hid (∀ W, Below w1.heap.size w1 W → Calls Tryz.prog 47 #[.agg #[.int .i64 3, .int .i64 0, .float .f64 0, .string f, .slice none 0 0]] W fun e w' => e = .returned (.string (strB (stext f))) ∧ Below W.heap.size W w') := Lib.hid fun W hW => by
    have h := Vf.vtext_any (.mk 3 0 0 f []) (by rw [Vf.text_of, Vf.stext_len]; omega) (Vf.text_slim f (by omega)) 0 0 3 0 0 f none 0 0 W (Rep.leaf ⟨by omega, by omega, by omega, by omega, by omega, by simp only [maxLen]; omega, by decide⟩) (Nat.zero_le _) (Vf.text_valid f) ((HTB0.out.later HB1.out).later hW)
    unfold Vf.textB at h
    rw [Vf.text_of] at h
    exact h
  have HN : Hid (∀ W, Below w1.heap.size w1 W → Calls Tryz.prog 48 #[.int .u64 at', .int .i64 10] W fun e w' => e = .returned (.string (strB (Lib.decDigits at'))) ∧ Below W.heap.size W w') := Lib.hid fun W hW => Fu.fmtu_any at' hat W ((HTB0.out.later HB1.out).later hW).pow
  have hk1 : ¬ (9223372036854775807 < xf.size + 1) := by omega
  have hk2 : ¬ (9223372036854775807 < xf.size + 1 + xa.size) := by omega
  go_upto_region 3 with fail
  refine wp_region_noPanic ?_
  refine wp_region_held_drew (S := (fun W' : World => W'.cell? ⟨w.heap.size, 0, none⟩ = some (.string f) ∧ W'.cell? ⟨w.heap.size, 1, none⟩ = some (.int .u64 at') ∧ W'.cell? ⟨w.heap.size, 2, none⟩ = some (.slice A es.length cap))) (by kernel_rfl) ?_ (fun hHeld => ?_)
  · exact KS.out _ (below_drew (Below.refl _ _))
  first
    | (refine take_drop (i := 0) (v := ?_) rfl (by kernel_rfl) (by kernel_rfl) (by kernel_rfl) (fun _ _ _ h => h) (Or.inl ⟨by rfl, ?_⟩) (by assumption) ?_; rotate_left 1; (focus (intro w hSw; (try dsimp only at hSw); go_simp; try with_reducible rfl)); try simp only [Act.put, List.setIfInBounds_toArray, List.set_cons_zero, List.set_cons_succ])
    | (refine take_drop (i := 0) (v := undef) rfl (by kernel_rfl) (by kernel_rfl) (by kernel_rfl) (fun _ _ _ h => h) (Or.inr ⟨by rfl, rfl⟩) (by assumption) ?_; try simp only [Act.put, List.setIfInBounds_toArray, List.set_cons_zero, List.set_cons_succ])
  first
    | (refine take_drop (i := 1) (v := ?_) rfl (by kernel_rfl) (by kernel_rfl) (by kernel_rfl) (fun _ _ _ h => h) (Or.inl ⟨by rfl, ?_⟩) (by assumption) ?_; rotate_left 1; (focus (intro w hSw; (try dsimp only at hSw); go_simp; try with_reducible rfl)); try simp only [Act.put, List.setIfInBounds_toArray, List.set_cons_zero, List.set_cons_succ])
    | (refine take_drop (i := 1) (v := undef) rfl (by kernel_rfl) (by kernel_rfl) (by kernel_rfl) (fun _ _ _ h => h) (Or.inr ⟨by rfl, rfl⟩) (by assumption) ?_; try simp only [Act.put, List.setIfInBounds_toArray, List.set_cons_zero, List.set_cons_succ])
  first
    | (refine take_drop (i := 2) (v := ?_) rfl (by kernel_rfl) (by kernel_rfl) (by kernel_rfl) (fun _ _ _ h => h) (Or.inl ⟨by rfl, ?_⟩) (by assumption) ?_; rotate_left 1; (focus (intro w hSw; (try dsimp only at hSw); go_simp; try with_reducible rfl)); try simp only [Act.put, List.setIfInBounds_toArray, List.set_cons_zero, List.set_cons_succ])
    | (refine take_drop (i := 2) (v := undef) rfl (by kernel_rfl) (by kernel_rfl) (by kernel_rfl) (fun _ _ _ h => h) (Or.inr ⟨by rfl, rfl⟩) (by assumption) ?_; try simp only [Act.put, List.setIfInBounds_toArray, List.set_cons_zero, List.set_cons_succ])
  first
    | (refine take_drop (i := 5) (v := ?_) rfl (by kernel_rfl) (by kernel_rfl) (by kernel_rfl) (fun _ _ _ h => h) (Or.inl ⟨by rfl, ?_⟩) (by assumption) ?_; rotate_left 1; (focus (intro w hSw; (try dsimp only at hSw); go_simp; try with_reducible rfl)); try simp only [Act.put, List.setIfInBounds_toArray, List.set_cons_zero, List.set_cons_succ])
    | (refine take_drop (i := 5) (v := undef) rfl (by kernel_rfl) (by kernel_rfl) (by kernel_rfl) (fun _ _ _ h => h) (Or.inr ⟨by rfl, rfl⟩) (by assumption) ?_; try simp only [Act.put, List.setIfInBounds_toArray, List.set_cons_zero, List.set_cons_succ])
  first
    | (refine take_drop (i := 6) (v := ?_) rfl (by kernel_rfl) (by kernel_rfl) (by kernel_rfl) (fun _ _ _ h => h) (Or.inl ⟨by rfl, ?_⟩) (by assumption) ?_; rotate_left 1; (focus (intro w hSw; (try dsimp only at hSw); go_simp; try with_reducible rfl)); try simp only [Act.put, List.setIfInBounds_toArray, List.set_cons_zero, List.set_cons_succ])
    | (refine take_drop (i := 6) (v := undef) rfl (by kernel_rfl) (by kernel_rfl) (by kernel_rfl) (fun _ _ _ h => h) (Or.inr ⟨by rfl, rfl⟩) (by assumption) ?_; try simp only [Act.put, List.setIfInBounds_toArray, List.set_cons_zero, List.set_cons_succ])
  refine wpAnyH_ready (rs := [3]) (by kernel_rfl) (by simp) ?_
  refine cons_drop rfl (fun K hK => ?_) AllReadyH.nil
  go_simp
  refine (HQ.out _ (below_drew (Below.refl _ _))).mono ?_
  rintro e w2 ⟨rfl, hb2⟩
  have HB2 : Hid (Below w1.heap.size w1 w2) := Lib.hid ((below_drew (Below.refl _ _)).trans hb2)
  clear hb2
  rw [← HXF.out]
  go_wp2_with fail
  refine hK.out _ _ (KS.out _ HB2.out) (fun hHeld2 => ?_)
  clear hK K hHeld
  try simp only [Act.put, List.setIfInBounds_toArray, List.set_cons_zero, List.set_cons_succ]
  first
    | (refine take_drop (i := 4) (v := ?_) rfl (by kernel_rfl) (by kernel_rfl) (by kernel_rfl) (fun _ _ _ h => h) (Or.inl ⟨by rfl, ?_⟩) (by assumption) ?_; rotate_left 1; (focus (intro w hSw; (try dsimp only at hSw); go_simp; try with_reducible rfl)); try simp only [Act.put, List.setIfInBounds_toArray, List.set_cons_zero, List.set_cons_succ])
    | (refine take_drop (i := 4) (v := undef) rfl (by kernel_rfl) (by kernel_rfl) (by kernel_rfl) (fun _ _ _ h => h) (Or.inr ⟨by rfl, rfl⟩) (by assumption) ?_; try simp only [Act.put, List.setIfInBounds_toArray, List.set_cons_zero, List.set_cons_succ])
  refine wpAnyH_ready (rs := [7]) (by kernel_rfl) (by simp) ?_
  refine cons_drop rfl (fun K hK => ?_) AllReadyH.nil
  go_simp
  refine (HN.out _ HB2.out).mono ?_
  rintro e w3 ⟨rfl, hb2⟩
  have HB3 : Hid (Below w1.heap.size w1 w3) := Lib.hid (HB2.out.trans (hb2.mono HB2.out.size))
  clear hb2
  rw [← HXA.out]
  go_wp2_with fail
  refine hK.out _ _ (KS.out _ HB3.out) (fun hHeld3 => ?_)
  clear hK K hHeld2
  try simp only [Act.put, List.setIfInBounds_toArray, List.set_cons_zero, List.set_cons_succ]
  first
    | (refine take_drop (i := 8) (v := ?_) rfl (by kernel_rfl) (by kernel_rfl) (by kernel_rfl) (fun _ _ _ h => h) (Or.inl ⟨by rfl, ?_⟩) (by assumption) ?_; rotate_left 1; (focus (intro w hSw; (try dsimp only at hSw); go_simp; try with_reducible rfl)); try simp only [Act.put, List.setIfInBounds_toArray, List.set_cons_zero, List.set_cons_succ])
    | (refine take_drop (i := 8) (v := undef) rfl (by kernel_rfl) (by kernel_rfl) (by kernel_rfl) (fun _ _ _ h => h) (Or.inr ⟨by rfl, rfl⟩) (by assumption) ?_; try simp only [Act.put, List.setIfInBounds_toArray, List.set_cons_zero, List.set_cons_succ])
  first
    | (refine take_drop (i := 9) (v := ?_) rfl (by kernel_rfl) (by kernel_rfl) (by kernel_rfl) (fun _ _ _ h => h) (Or.inl ⟨by rfl, ?_⟩) (by assumption) ?_; rotate_left 1; (focus (intro w hSw; (try dsimp only at hSw); go_simp; try with_reducible rfl)); try simp only [Act.put, List.setIfInBounds_toArray, List.set_cons_zero, List.set_cons_succ])
    | (refine take_drop (i := 9) (v := undef) rfl (by kernel_rfl) (by kernel_rfl) (by kernel_rfl) (fun _ _ _ h => h) (Or.inr ⟨by rfl, rfl⟩) (by assumption) ?_; try simp only [Act.put, List.setIfInBounds_toArray, List.set_cons_zero, List.set_cons_succ])
  refine wpAnyH_done (by kernel_rfl) ?_ _
  refine NoPanic.normal ?_
  obtain ⟨k0, k1, k2⟩ := KS.out _ HB3.out
  obtain ⟨fr, hfr⟩ : ∃ fr : ByteArray, fr = xf ++ ⟨#[32]⟩ ++ xa := ⟨_, rfl⟩
  have HFR : Hid (fr = strB (bfront f at')) := Lib.hid (by
    rw [hfr, HXF.out, HXA.out]
    apply Fu.bytes_ext
    simp [strB, bfront])
  rw [← hfr]
  clear hfr
  obtain ⟨W4, hW4⟩ : ∃ W4, W4 = w3.alloc (.cells #[.string fr] 9) := ⟨_, rfl⟩
  have hb4 : Below w3.heap.size w3 W4 := by rw [hW4]; exact (Below.refl _ _).alloc (Nat.le_refl _) _
  have HB4 := Lib.hid (HB3.out.trans (hb4.mono HB3.out.size))
  have HZ4 := Lib.hid hb4.size
  have hblk : W4.heap[w3.heap.size]? = some (.cells #[.string fr] 9 (0, 0)) := by rw [hW4]; exact heap_alloc_new w3 _
  have HO4 : Hid (SOwn W4 w3.heap.size (.slice (some ⟨w3.heap.size, 0, none⟩) 1 1) [fr]) := Lib.hid ⟨rfl, .inr ⟨w3.heap.size, 1, #[.string fr], rfl, Nat.le_refl _, hblk, by simp, by simp only [maxLen]; omega, rfl, rfl⟩⟩
  replace hW4 := Lib.hid hW4
  obtain ⟨l0, l1, l2⟩ := KS.out _ HB4.out
  have hzw : w.heap.size < w3.heap.size := by have := HB1.out.size; have := HB3.out.size; omega
  clear hb4 hblk k0 k1 l0 l1 l2
  have hn5 : (ts.map strB).length = es.length := by rw [List.length_map, hbl]
  have hne5 : ts.map strB ≠ [] := fun e => by rw [e] at hn5; simp at hn5; omega
  have HN5 := Lib.hid hn5; have HE5 := Lib.hid hne5
  have e9 : (fr :: ts.map strB).map (·.data.toList) = bfront f at' :: ts := by
    rw [List.map_cons, List.map_map, HFR.out]
    congr 1
    have : ((fun x : ByteArray => x.data.toList) ∘ strB) = id := by funext x; simp [strB]
    rw [this, List.map_id]
  have HJ9 : Hid ((Lib.join ((fr :: ts.map strB).map (·.data.toList)) (⟨#[59, 32]⟩ : ByteArray).data.toList) = btext f at' ts) := Lib.hid (by rw [e9]; rfl)
  clear hn5 hne5 e9
  go_wp2_with (first | (go_at_call 50; rw [← hW4.out]; refine (HM.out _ (HB1.out.trans (HB4.out.mono HB1.out.size))).mono ?_; rintro x w5 ⟨A2, cap2, rfl, hb5, hown5⟩; obtain ⟨g5, c5, e5, hg5, hl5, -, hx5⟩ := SOwn.at_ hown5 HE5.out; rw [HN5.out] at e5; injection e5 with e5 _ e6; subst e5 e6; have HB5 := Lib.hid (HB4.out.trans (hb5.mono HB4.out.size)); have HZ5 := Lib.hid (Nat.le_trans HZ4.out hb5.size); have HX5 : Hid (∀ j x, (ts.map strB)[j]? = some x → w5.cell? ((⟨g5, 0, none⟩ : Addr).add j) = some (.string x)) := Lib.hid hx5; have HO4b := Lib.hid (HO4.out.later hb5); clear hb5 hown5 hx5 hg5 hl5) | (at_builtin; go_loud (refine wpList_append_strs _ rfl _ _ rfl w3.heap.size _ ⟨g5, 0, none⟩ _ [fr] (ts.map strB) es.length HN5.out.symm rfl rfl HX5.out HO4b.out (by rw [HN5.out]; simp only [List.length_singleton]; omega) HZ5.out ?_; intro v6 w6 hown6 hg6 hb6; have HO6 := Lib.hid hown6; have HB6 := Lib.hid (hb6); clear hown6 hg6 hb6)))
  have HJC := join_sep ⟨#[59, 32]⟩ (fr :: ts.map strB) v6 w3.heap.size w6 HO6.out (by simp) (by rw [List.length_cons, HN5.out]; omega) (by rw [HJ9.out]; exact HLEN.out)
  rw [HJ9.out] at HJC
  change Calls Tryz.prog _ _ _ fun e w' => e = .returned (.string (strB (btext f at' ts))) ∧ _ at HJC
  obtain ⟨tx, htx⟩ : ∃ tx, tx = strB (btext f at' ts) := ⟨_, rfl⟩
  rw [← htx] at HJC
  have HTX := Lib.hid htx
  clear htx
  refine HJC.mono ?_
  rintro x w7 ⟨rfl, hb7⟩
  have HB7 := Lib.hid hb7
  clear hb7
  go_wp2_with fail
  go_ret
  have H6 := HB5.out.trans (HB6.out.mono HB3.out.size)
  have H7 := H6.trans (HB7.out.mono H6.size)
  exact ⟨congrArg (fun b => Ending.returned (Value.string b)) HTX.out, HBW.out.trans ((HB1.out.trans (H7.mono HB1.out.size)).mono HBW.out.size)⟩
end Bs
end Go.Proofs.YtpneejlilgepfaaGreatDoor
namespace Go.Proofs.YtpneejlilgepfaaGreatDoor
open Go.RowKit
set_option linter.unusedVariables false
set_option linter.unusedSimpArgs false
namespace Bs
open Vt (VT Rep)
open Ev (EV FieldsOk)
open Cm (EvsIn evsSame evSame)
open Cn (bform bsame bvalid wrongE)
open Bt (ubytes sb)
open Pf (sform sform_split ub_split stext Stops word_split stext_word stext_inj dec_word)
open Vf (VE ve_of eform eform_split eform_same etext etext_split_at etext_same stops_nil)

/-- What is known of a valid event that came in. -/
def Good (e : EV) : Prop := VE e ∧ FieldsOk e ∧ Pf.VT.fine e.v
theorem evs_cons (a b : EV) (l l' : List EV) : evsSame (a :: l) (b :: l') = (evSame a b && evsSame l l') := by
  unfold evsSame
  simp only [List.length_cons, List.zip_cons_cons, List.all_cons, Nat.add_right_cancel_iff]
  have : (l.length + 1 == l'.length + 1) = (l.length == l'.length) := by
    by_cases h : l.length = l'.length <;> simp [h]
  rw [this]
  cases evSame a b <;> cases (l.length == l'.length) <;> simp
theorem evs_nil : evsSame [] [] = true := rfl
theorem forms_split (l : List EV) : ∀ (l' : List EV) (_ : ∀ e ∈ l, Good e) (_ : ∀ e ∈ l', Good e), l.length = l'.length → (l.map eform).flatten = (l'.map eform).flatten → evsSame l l' = true := by
  induction l with
  | nil => intro l' _ _ hl _; cases l' with
    | nil => rfl
    | cons _ _ => simp at hl
  | cons a l ih => intro l' h h' hl he; cases l' with
    | nil => simp at hl
    | cons b l' =>
      obtain ⟨h1, h2, h3⟩ := h a (by simp)
      obtain ⟨h1', h2', h3'⟩ := h' b (by simp)
      simp only [List.map_cons, List.flatten_cons] at he
      obtain ⟨e1, e2⟩ := eform_split h1 h1' h2 h2' h3 h3' he
      rw [evs_cons, e1, ih l' (fun e he => h e (List.mem_cons_of_mem _ he)) (fun e he => h' e (List.mem_cons_of_mem _ he)) (by simpa using hl) e2]
      rfl
theorem forms_same (l : List EV) : ∀ (l' : List EV), evsSame l l' = true → l.map eform = l'.map eform ∧ l.map etext = l'.map etext ∧ l.length = l'.length := by
  induction l with
  | nil => intro l' h; cases l' with
    | nil => exact ⟨rfl, rfl, rfl⟩
    | cons _ _ => simp [evsSame] at h
  | cons a l ih => intro l' h; cases l' with
    | nil => simp [evsSame] at h
    | cons b l' =>
      rw [evs_cons, Bool.and_eq_true] at h
      obtain ⟨h1, h2⟩ := h
      obtain ⟨i1, i2, i3⟩ := ih l' h2
      exact ⟨by rw [List.map_cons, List.map_cons, i1, eform_same h1], by rw [List.map_cons, List.map_cons, i2, etext_same h1], by simp [i3]⟩
theorem bsame_iff (f f' : ByteArray) (a a' : Nat) (es es' : List EV) : bsame f f' a a' es es' = true ↔ f = f' ∧ a = a' ∧ evsSame es es' = true := by
  unfold bsame
  simp only [Bool.and_eq_true, decide_eq_true_iff, and_assoc]
theorem bform_iff {f f' : ByteArray} {a a' : Nat} {es es' : List EV} (hf : f.size ≤ 1000) (hf' : f'.size ≤ 1000) (ha : a < 18446744073709551616) (ha' : a' < 18446744073709551616) (hn : es.length ≤ 2097152) (hn' : es'.length ≤ 2097152) (g : ∀ e ∈ es, Good e) (g' : ∀ e ∈ es', Good e) :
    decide (bform f a es.length (es.map eform) = bform f' a' es'.length (es'.map eform)) = bsame f f' a a' es es' := by
  by_cases h : bsame f f' a a' es es' = true
  · obtain ⟨rfl, rfl, h3⟩ := (bsame_iff ..).1 h
    obtain ⟨i1, -, i3⟩ := forms_same es es' h3
    rw [h, decide_eq_true]
    rw [i1, i3]
  · rw [Bool.eq_false_iff.2 h]
    refine decide_eq_false fun e => h ?_
    unfold bform at e
    obtain ⟨e1, e⟩ := sform_split (s := f) (s' := f') (by omega) (by omega) e
    obtain ⟨e2, e⟩ := ub_split ha ha' e
    obtain ⟨e3, e⟩ := ub_split (by omega) (by omega) e
    exact (bsame_iff ..).2 ⟨e1, e2, forms_split es es' g g' e3 e⟩

theorem tail_stop (l : List (List UInt8)) : Stops (Lib.joinTail [59, 32] l) := by
  cases l with
  | nil => exact stops_nil
  | cons x l => exact .inr ⟨59, _, rfl, by decide⟩
theorem texts_split (l : List EV) : ∀ (l' : List EV) (_ : ∀ e ∈ l, Good e) (_ : ∀ e ∈ l', Good e), Lib.joinTail [59, 32] (l.map etext) = Lib.joinTail [59, 32] (l'.map etext) → evsSame l l' = true := by
  induction l with
  | nil => intro l' _ _ he; cases l' with
    | nil => rfl
    | cons _ _ => simp [Lib.joinTail] at he
  | cons a l ih => intro l' h h' he; cases l' with
    | nil => simp [Lib.joinTail] at he
    | cons b l' =>
      obtain ⟨h1, h2, h3⟩ := h a (by simp)
      obtain ⟨h1', h2', h3'⟩ := h' b (by simp)
      have e : ∀ (x : EV) (m : List EV), Lib.joinTail [59, 32] ((x :: m).map etext) = 59 :: 32 :: (etext x ++ Lib.joinTail [59, 32] (m.map etext)) := fun x m => by simp [Lib.joinTail]
      rw [e, e] at he
      obtain ⟨e1, e2⟩ := etext_split_at h1 h1' h3 h3' (tail_stop _) (tail_stop _) (List.cons.inj (List.cons.inj he).2).2
      rw [evs_cons, e1, ih l' (fun e he => h e (List.mem_cons_of_mem _ he)) (fun e he => h' e (List.mem_cons_of_mem _ he)) e2]
      rfl
theorem btext_split {f f' : ByteArray} {a a' : Nat} {es es' : List EV} (g : ∀ e ∈ es, Good e) (g' : ∀ e ∈ es', Good e) (h : btext f a (es.map etext) = btext f' a' (es'.map etext)) : bsame f f' a a' es es' = true := by
  unfold btext bfront at h
  rw [Lib.join_cons, Lib.join_cons, List.append_assoc, List.append_assoc, List.cons_append, List.cons_append] at h
  obtain ⟨e1, h⟩ := word_split (stext_word f) (stext_word f') (.inr ⟨32, _, rfl, by decide⟩) (.inr ⟨32, _, rfl, by decide⟩) h
  obtain ⟨e2, h⟩ := word_split (dec_word a) (dec_word a') (tail_stop _) (tail_stop _) (List.cons.inj h).2
  exact (bsame_iff ..).2 ⟨stext_inj e1, Fu.dec_inj _ _ e2, texts_split es es' g g' h⟩
def btextB (f : ByteArray) (a : Nat) (es : List EV) : ByteArray := strB (btext f a (es.map etext))
theorem btext_iff {f f' : ByteArray} {a a' : Nat} {es es' : List EV} (g : ∀ e ∈ es, Good e) (g' : ∀ e ∈ es', Good e) : decide (btextB f a es = btextB f' a' es') = bsame f f' a a' es es' := by
  unfold btextB strB
  by_cases h : bsame f f' a a' es es' = true
  · obtain ⟨rfl, rfl, h3⟩ := (bsame_iff ..).1 h
    obtain ⟨-, i2, -⟩ := forms_same es es' h3
    rw [h, decide_eq_true]
    rw [i2]
  · rw [Bool.eq_false_iff.2 h]
    refine decide_eq_false fun e => h (btext_split g g' ?_)
    have := congrArg (fun s : ByteArray => s.data.toList) e
    simpa using this
end Bs
end Go.Proofs.YtpneejlilgepfaaGreatDoor
namespace Go.Proofs.YtpneejlilgepfaaGreatDoor
open Go.RowKit
set_option linter.unusedVariables false
set_option linter.unusedSimpArgs false
namespace Vf
open _root_.Go.Proofs.YtpneejlilgepfaaGreatDoor.Nm (bitsW ret_int ret_bool)
open Vt (VT Rep BoxAt below_drew KidsAt HeadOk)
open Ev (EV FieldsOk evCells vCells EBox ERep zeroT take_drop cons_drop nameOf fieldsOf of_in evalid_any)
open Cm (evsSame evSame)
open Bt (BOwn BIn PIn ubytes sb bv)

theorem box_ev (w : World) (e : EV) (vk vn : Int) (vf : Nat) (vs : ByteArray) (A : Option Addr) (m c : Nat) : EBox (w.alloc (.cells (evCells e vk vn vf vs A m c) 43)) w.heap.size (evCells e vk vn vf vs A m c) := heap_alloc_new w _
/-- Bytes that are read by their places. -/
def BRd (w : World) (v : Value) (l : List Nat) : Prop := (v = .slice none 0 0 ∧ l = []) ∨ ∃ b off cap, v = .slice (some ⟨b, off, none⟩) l.length cap ∧ l.length ≤ cap ∧ cap ≤ maxLen ∧ b < w.heap.size ∧ ∀ j (h : j < l.length), w.cell? ⟨b, off + j, none⟩ = some (.int .u8 (l[j] : Nat))
theorem below_drewN {B n : Nat} {a w : World} (h : Below B a w) : Below B a (w.drewN n) := ⟨h.os, h.tape, h.output, h.size, h.block⟩
theorem BRd.later {w w' : World} {v : Value} {l : List Nat} (h : BRd w v l) (hb : Below w.heap.size w w') : BRd w' v l := by
  rcases h with h | ⟨b, off, cap, h1, h2, h3, h4, h5⟩
  · exact .inl h
  · exact .inr ⟨b, off, cap, h1, h2, h3, Nat.lt_of_lt_of_le h4 hb.size, fun j hj => (hb.cell (p := ⟨b, off + j, none⟩) h4).trans (h5 j hj)⟩
theorem brd_own {w : World} {base : Nat} {v : Value} {l : List Nat} (h : BOwn w base v l) : BRd w v l := by
  rcases h.2 with ⟨h1, h2⟩ | ⟨g, cap, cur, q1, q2, q3, q4, q5, q6, q7⟩
  · exact .inl ⟨h1, List.eq_nil_of_length_eq_zero h2⟩
  · refine .inr ⟨g, 0, cap, q1, q4, q5, (Array.getElem?_eq_some_iff.1 q3).1, fun j hj => ?_⟩
    have e : cur[j]? = some (.int .u8 (l[j] : Nat)) := by
      have e1 : (l.map fun (b : Nat) => Value.int .u8 (b : Int))[j]? = some (.int .u8 (l[j] : Nat)) := by simp [List.getElem?_eq_getElem hj]
      rw [← e1, ← q7, List.getElem?_take_of_lt (by omega), Array.getElem?_toList]
    rw [Nat.zero_add]
    simp [World.cell?, q3, e]
theorem BRd.form {w : World} {v : Value} {l : List Nat} (h : BRd w v l) : ∃ A cap, v = .slice A l.length cap := by
  rcases h with ⟨rfl, rfl⟩ | ⟨b, off, cap, rfl, -⟩
  · exact ⟨none, 0, rfl⟩
  · exact ⟨_, cap, rfl⟩

set_option maxRecDepth 100000 in
set_option maxHeartbeats 1000000 in
theorem bequal_same (l m : List Nat) (hlm : l.length = m.length) (x y : Value) (w : World) (hx : BRd w x l) (hy : BRd w y m) :
    Calls Tryz.prog 15 #[x, y] w fun r w' => r = .returned (.bool (decide (l = m))) ∧ Below w.heap.size w w' := by
  obtain ⟨A, cap, rfl⟩ := hx.form
  obtain ⟨A', cap', rfl⟩ := hy.form
  have hll : l.length ≤ 9223372036854775807 := by
    rcases hx with ⟨-, rfl⟩ | ⟨b, off, cap, -, h1, h2, -⟩
    · simp
    · simp only [maxLen] at h2; omega
  have HX := Lib.hid fun W (hW : Below w.heap.size w W) => hx.later hW
  have HY := Lib.hid fun W (hW : Below w.heap.size w W) => hy.later hW
  have HLM := Lib.hid hlm
  rw [← hlm] at HY ⊢
  clear hx hy hlm
  generalize hn : l.length = n at *
  have HN := Lib.hid hn; clear hn
  go_enter Tryz.func15, Tryz.ntmps15
  go_wp2_with fail
  go_loopw [4, 13] (fun r i wr => ∃ (j : Nat), j ≤ n ∧ i = .int .i64 j ∧ r = .bool false ∧ l.take j = m.take j ∧ Below w.heap.size w wr) (fun _ i _ => n - (intOf i).toNat)
  case atStart => exact ⟨0, by omega, rfl, rfl, by simp, Below.refl _ _⟩
  case round =>
    obtain ⟨j, hj, rfl, rfl, hy, hb⟩ := hrel
    have HYT := Lib.hid hy; have HB := Lib.hid hb
    clear hy hb
    by_cases hlt : j < n
    · have hjl : j < l.length := by have := HN.out; omega
      have hjm : j < m.length := by have := HLM.out; have := HN.out; omega
      obtain ⟨b, off, cp, e1, h2, h3, h4, h5⟩ := (HX.out wr HB.out).resolve_left (fun h => by rw [h.2] at hjl; simp at hjl)
      obtain ⟨b', off', cp', e1', h2', h3', h4', h5'⟩ := (HY.out wr HB.out).resolve_left (fun h => by rw [h.2] at hjm; simp at hjm)
      injection e1 with e1 _ _
      injection e1' with e1' _ _
      subst e1 e1'
      have c1 := h5 j hjl
      have c2 := h5' j hjm
      obtain ⟨a, ha⟩ : ∃ a, a = l[j] := ⟨_, rfl⟩
      obtain ⟨a', ha'⟩ : ∃ a, a = m[j] := ⟨_, rfl⟩
      rw [← ha] at c1
      rw [← ha'] at c2
      have HA := Lib.hid ha; have HA' := Lib.hid ha'
      have HT : Hid (a = a' → l.take (j + 1) = m.take (j + 1)) := Lib.hid fun e => by rw [List.take_succ_eq_append_getElem hjl, List.take_succ_eq_append_getElem hjm, HYT.out, ← HA.out, ← HA'.out, e]
      have HF : Hid (a ≠ a' → decide (l = m) = false) := Lib.hid fun e => decide_eq_false (fun h => e (by rw [HA.out, HA'.out]; simp [h]))
      clear ha ha' h2 h3 h4 h5 h2' h3' h4' h5'
      by_cases haa : a = a'
      · subst haa
        go_upto_region 6 with fail
        go_quiet (fail)
        go_wp2_with fail
        go_roundw
        case rel => exact ⟨j + 1, by omega, by go_num, rfl, HT.out rfl, below_drewN HB.out⟩
        case measure => simp [intOf]; omega
      · have hne : ((a : Int) != (a' : Int)) = true := by simp; omega
        have HNE := Lib.hid haa
        go_upto_region 6 with fail
        go_quiet (fail)
        go_wp2_with fail
        go_ret
        exact ⟨ret_bool (by rw [HF.out HNE.out]), below_drewN HB.out⟩
    · have hj' : j = n := by omega
      subst hj'
      go_wp2_with fail
      go_ret
      have he : l = m := by
        have := HYT.out
        rw [List.take_of_length_le (by have := HN.out; omega), List.take_of_length_le (by have := HN.out; have := HLM.out; omega)] at this
        exact this
      exact ⟨ret_bool (by rw [decide_eq_true he]), HB.out⟩

set_option maxRecDepth 100000 in
theorem bequal_any (l m : List Nat) (x y : Value) (w : World) (hx : BRd w x l) (hy : BRd w y m) :
    Calls Tryz.prog 15 #[x, y] w fun r w' => r = .returned (.bool (decide (l = m))) ∧ Below w.heap.size w w' := by
  by_cases hlm : l.length = m.length
  · exact bequal_same l m hlm x y w hx hy
  · obtain ⟨A, cap, rfl⟩ := hx.form
    obtain ⟨A', cap', rfl⟩ := hy.form
    have hd : decide (l = m) = false := decide_eq_false (fun h => hlm (by rw [h]))
    rw [hd]
    generalize l.length = n at *
    generalize m.length = k at *
    have hne : ((n : Int) != (k : Int)) = true := by simp; omega
    clear hx hy hd
    go_enter Tryz.func15, Tryz.ntmps15
    go_wp2_with fail
    go_ret
    exact ⟨rfl, Below.refl _ _⟩

/-- Is an event small? -/
def efew (e : EV) : Bool := e.v.few && decide (e.name.size ≤ 1100) && decide (e.text.size ≤ 1100)

set_option maxRecDepth 100000 in
theorem efew_any (e : EV) (hf : FieldsOk e) (lo hi : Nat) (vk vn : Int) (vf : Nat) (vs : ByteArray) (A : Option Addr) (m c : Nat) (w : World) (hv : Rep w lo hi e.v (vCells vk vn vf vs A m c)) (hz : hi ≤ w.heap.size) :
    Calls Tryz.prog 24 #[.agg (evCells e vk vn vf vs A m c)] w fun r w' => r = .returned (.bool (efew e)) ∧ Below w.heap.size w w' := by
  obtain ⟨W0, hW0⟩ : ∃ W0, W0 = w.alloc (.cells (evCells e vk vn vf vs A m c) 43) := ⟨_, rfl⟩
  have hb0 : Below w.heap.size w W0 := by rw [hW0]; exact (Below.refl _ _).alloc (Nat.le_refl _) _
  have hx0 : EBox W0 w.heap.size (evCells e vk vn vf vs A m c) := by rw [hW0]; exact box_ev ..
  have HV := Lib.hid (Vt.few_any e.v W0 lo hi _ (hv.later (hb0.mono hz)) (Nat.le_trans hz hb0.size))
  obtain ⟨g0, g1, g2, g3, g4, g5, g6, g7, g8, g9, g10⟩ := EBox.cells hx0
  have HX0 := Lib.hid hx0
  have HB0 := Lib.hid hb0
  have hsn := hf.s1
  have hst := hf.t1
  simp only [maxLen] at hsn hst
  clear hv hf hx0 hb0
  unfold evCells at hW0 ⊢
  unfold vCells at HV
  replace hW0 := Lib.hid hW0
  go_enter Tryz.func24, Tryz.ntmps24
  go_upto_region 1 with fail
  rw [← hW0.out]
  generalize hfw : e.v.few = fw at *
  have HFW := Lib.hid hfw; clear hfw
  cases fw with
  | false =>
    go_wp2_with (go_at_call 73; refine HV.out.mono ?_; rintro x w1 ⟨rfl, hb1⟩; have HB1 := Lib.hid (HB0.out.trans (hb1.mono HB0.out.size)); clear hb1)
    go_ret
    exact ⟨ret_bool (by unfold efew; rw [HFW.out]; rfl), HB1.out⟩
  | true =>
    by_cases h1 : e.name.size ≤ 1100
    · have k1 : decide ((e.name.size : Int) ≤ 1100) = true := decide_eq_true (by omega)
      by_cases h2 : e.text.size ≤ 1100
      · have k2 : decide ((e.text.size : Int) ≤ 1100) = true := decide_eq_true (by omega)
        go_wp2_with (go_at_call 73; refine HV.out.mono ?_; rintro x w1 ⟨rfl, hb1⟩; have HB1 := Lib.hid (HB0.out.trans (hb1.mono HB0.out.size)); obtain ⟨q0, q1, q2, q3, q4, q5, q6, q7, q8, q9, q10⟩ := EBox.cells (HX0.out.later hb1 HX0.out.lt); clear hb1)
        go_ret
        exact ⟨ret_bool (by unfold efew; rw [HFW.out]; simp; omega), HB1.out⟩
      · have k2 : decide ((e.text.size : Int) ≤ 1100) = false := decide_eq_false (by omega)
        go_wp2_with (go_at_call 73; refine HV.out.mono ?_; rintro x w1 ⟨rfl, hb1⟩; have HB1 := Lib.hid (HB0.out.trans (hb1.mono HB0.out.size)); obtain ⟨q0, q1, q2, q3, q4, q5, q6, q7, q8, q9, q10⟩ := EBox.cells (HX0.out.later hb1 HX0.out.lt); clear hb1)
        go_ret
        exact ⟨ret_bool (by unfold efew; rw [HFW.out]; simp; omega), HB1.out⟩
    · have k1 : decide ((e.name.size : Int) ≤ 1100) = false := decide_eq_false (by omega)
      go_wp2_with (go_at_call 73; refine HV.out.mono ?_; rintro x w1 ⟨rfl, hb1⟩; have HB1 := Lib.hid (HB0.out.trans (hb1.mono HB0.out.size)); obtain ⟨q0, q1, q2, q3, q4, q5, q6, q7, q8, q9, q10⟩ := EBox.cells (HX0.out.later hb1 HX0.out.lt); clear hb1)
      go_ret
      exact ⟨ret_bool (by unfold efew; rw [HFW.out]; simp; omega), HB1.out⟩


set_option maxRecDepth 100000 in
theorem ebytes_no (e : EV) (hval : e.valid = false) (hf : FieldsOk e) (lo hi : Nat) (vk vn : Int) (vf : Nat) (vs : ByteArray) (A : Option Addr) (m c : Nat) (w : World) (hv : Rep w lo hi e.v (vCells vk vn vf vs A m c)) (hz : hi ≤ w.heap.size) :
    Calls Tryz.prog 25 #[.agg (evCells e vk vn vf vs A m c)] w fun r w' => r = .returned (.tuple #[.slice none 0 0, .bool false]) ∧ Below w.heap.size w w' := by
  obtain ⟨W0, hW0⟩ : ∃ W0, W0 = w.alloc (.cells (evCells e vk vn vf vs A m c) 43) := ⟨_, rfl⟩
  have hb0 : Below w.heap.size w W0 := by rw [hW0]; exact (Below.refl _ _).alloc (Nat.le_refl _) _
  have hx0 : EBox W0 w.heap.size (evCells e vk vn vf vs A m c) := by rw [hW0]; exact box_ev ..
  have HV := Lib.hid (evalid_any e W0 lo hi _ ⟨hf, vk, vn, vf, vs, A, m, c, rfl, hv.later (hb0.mono hz)⟩ (Nat.le_trans hz hb0.size))
  rw [hval] at HV
  obtain ⟨g0, g1, g2, g3, g4, g5, g6, g7, g8, g9, g10⟩ := EBox.cells hx0
  have HB0 := Lib.hid hb0
  clear hv hf hx0 hb0 hval
  unfold evCells at hW0 HV ⊢
  replace hW0 := Lib.hid hW0
  go_enter Tryz.func25, Tryz.ntmps25
  go_upto_region 1 with fail
  rw [← hW0.out]
  go_wp2_with fail
  refine HV.out.mono ?_
  rintro x w1 ⟨rfl, hb1⟩
  have HB1 := Lib.hid (HB0.out.trans (hb1.mono HB0.out.size))
  clear hb1
  go_wp2_with fail
  exact bodyPost_ret (v := .tuple #[.slice none 0 0, .bool false]) (by simp [results, Tryz.results25, go_sem]) rfl ⟨rfl, HB1.out⟩
set_option maxRecDepth 100000 in
theorem etext_no (e : EV) (hval : e.valid = false) (hf : FieldsOk e) (lo hi : Nat) (vk vn : Int) (vf : Nat) (vs : ByteArray) (A : Option Addr) (m c : Nat) (w : World) (hv : Rep w lo hi e.v (vCells vk vn vf vs A m c)) (hz : hi ≤ w.heap.size) :
    Calls Tryz.prog 27 #[.agg (evCells e vk vn vf vs A m c)] w fun r w' => r = .returned (.string ⟨#[]⟩) ∧ Below w.heap.size w w' := by
  obtain ⟨W0, hW0⟩ : ∃ W0, W0 = w.alloc (.cells (evCells e vk vn vf vs A m c) 43) := ⟨_, rfl⟩
  have hb0 : Below w.heap.size w W0 := by rw [hW0]; exact (Below.refl _ _).alloc (Nat.le_refl _) _
  have hx0 : EBox W0 w.heap.size (evCells e vk vn vf vs A m c) := by rw [hW0]; exact box_ev ..
  have HV := Lib.hid (evalid_any e W0 lo hi _ ⟨hf, vk, vn, vf, vs, A, m, c, rfl, hv.later (hb0.mono hz)⟩ (Nat.le_trans hz hb0.size))
  rw [hval] at HV
  obtain ⟨g0, g1, g2, g3, g4, g5, g6, g7, g8, g9, g10⟩ := EBox.cells hx0
  have HB0 := Lib.hid hb0
  clear hv hf hx0 hb0 hval
  unfold evCells at hW0 HV ⊢
  replace hW0 := Lib.hid hW0
  go_enter Tryz.func27, Tryz.ntmps27
  go_upto_region 1 with fail
  rw [← hW0.out]
  go_wp2_with fail
  refine HV.out.mono ?_
  rintro x w1 ⟨rfl, hb1⟩
  have HB1 := Lib.hid (HB0.out.trans (hb1.mono HB0.out.size))
  clear hb1
  go_wp2_with fail
  go_ret
  exact ⟨rfl, HB1.out⟩
end Vf
end Go.Proofs.YtpneejlilgepfaaGreatDoor
namespace Go.Proofs.YtpneejlilgepfaaGreatDoor
open Go.RowKit
set_option linter.unusedVariables false
set_option linter.unusedSimpArgs false
namespace Cn
open _root_.Go.Proofs.YtpneejlilgepfaaGreatDoor.Nm (bitsW ret_int ret_bool)
open Vt (VT Rep BoxAt below_drew Cloned put5 KidsAt HeadOk)
open Ev (EV FieldsOk evCells vCells EBox ERep zeroT take_drop cons_drop)
open Cm (rowOf EvsIn EvsAt EvNew evsSame evSame)
open Bt (BOwn BIn PIn ubytes sb bv concat_any btext_any uint_any)

theorem slice_form {w : World} {base : Nat} {v : Value} {l : List Nat} (h : BOwn w base v l) : ∃ A n cap, v = .slice A n cap := by
  obtain ⟨A, cap, e⟩ := h.read.form
  exact ⟨A, _, cap, e⟩

set_option maxRecDepth 100000 in
set_option maxHeartbeats 4000000 in
theorem bbytes_any (es : List EV) (hl40 : es.length ≤ 1099511627775) (bs : List (List Nat)) (hEB : EvBytes es bs) (hflat : bs.flatten.length ≤ 17592186044416) (f : ByteArray) (at' : Nat) (hat : at' < 18446744073709551616) (A : Option Addr) (cap : Nat) (w : World) (h : EvsIn w A cap es) (hval : bvalid f at' es = true) :
    Calls Tryz.prog 14 #[.agg #[.string f, .int .u64 at', .slice A es.length cap]] w fun r w' => ∃ v, r = .returned (.tuple #[v, .bool true]) ∧ BOwn w' w.heap.size v (bform f at' es.length bs) ∧ Below w.heap.size w w' := by
  have hfz : f.size ≤ 1000 := by
    unfold bvalid at hval
    simp only [Bool.and_eq_true, decide_eq_true_iff] at hval
    exact hval.1.1.1.2
  obtain ⟨W0, hW0⟩ : ∃ W0, W0 = w.alloc (.cells #[.string f, .int .u64 at', .slice A es.length cap] 25) := ⟨_, rfl⟩
  have hx0 : BB W0 w.heap.size f at' A es.length cap := by rw [hW0]; exact heap_alloc_new w _
  have hb0 : Below w.heap.size w W0 := by rw [hW0]; exact (Below.refl _ _).alloc (Nat.le_refl _) _
  have hz0 : W0.heap.size = w.heap.size + 1 := by rw [hW0]; simp
  have HV := Lib.hid (bvalid_any es f (by simp only [maxLen]; omega) at' hat A cap W0 (h.later hb0))
  rw [hval] at HV
  have HM := Lib.hid fun W (hW : Below W0.heap.size W0 W) => mappedb_any es hl40 bs hEB A cap W ((h.later hb0).later hW)
  have hbl := hEB.1
  obtain ⟨c0, c1, c2, -⟩ := hx0.cells
  have HX0 := Lib.hid hx0; have HB0 := Lib.hid hb0
  have HT := Lib.hid fun W => btext_any f (by omega) W
  have HU := Lib.hid fun W x hx => uint_any x hx W
  have hn64 : es.length < 18446744073709551616 := by omega
  have HWR : Hid (IntKind.u64.wrap (es.length : Int) = (es.length : Int)) := Lib.hid (IntWalk.u64_in _ (by omega))
  have hsum : ([ubytes 10 f.size ++ sb f, ubytes 10 at', ubytes 10 es.length, bs.flatten] : List (List Nat)).flatten.length ≤ 35184372088832 := by
    have h1 := Bt.ubytes_len 10 f.size
    have h2 := Bt.ubytes_len 10 at'
    have h3 := Bt.ubytes_len 10 es.length
    have h4 := Bt.sb_len f
    simp only [List.flatten_cons, List.flatten_nil, List.length_append, List.length_nil]
    omega
  have hlen4 : ([ubytes 10 f.size ++ sb f, ubytes 10 at', ubytes 10 es.length, bs.flatten] : List (List Nat)).length ≤ 35184372088832 := by simp
  have HFL : Hid (([ubytes 10 f.size ++ sb f, ubytes 10 at', ubytes 10 es.length, bs.flatten] : List (List Nat)).flatten = bform f at' es.length bs) := Lib.hid (by simp [bform])
  replace hW0 := Lib.hid hW0
  have HSUM := Lib.hid hsum; have HLEN4 := Lib.hid hlen4; have HFLAT := Lib.hid hflat
  clear h hx0 hb0 hEB hval hsum hlen4 hflat
  go_enter Tryz.func14, Tryz.ntmps14
  go_upto_region 1 with fail
  rw [← hW0.out]
  go_wp2_with fail
  refine HV.out.mono ?_
  rintro x w1 ⟨rfl, hb1⟩
  have HB1 := Lib.hid hb1
  obtain ⟨d0, d1, d2, -⟩ := (HX0.out.later hb1 (by omega)).cells
  clear hb1 c0 c1 c2
  go_wp2_with fail
  refine (HM.out _ HB1.out).mono ?_
  rintro x w2 ⟨A2, cap2, rfl, hb2, hrow⟩
  have hb02 : Below W0.heap.size W0 w2 := HB1.out.trans (hb2.mono HB1.out.size)
  have HBW : Hid (Below w.heap.size w w2) := Lib.hid (HB0.out.trans (hb02.mono (by omega)))
  have KS : Hid (∀ W', Below w2.heap.size w2 W' → W'.cell? ⟨w.heap.size, 0, none⟩ = some (.string f) ∧ W'.cell? ⟨w.heap.size, 1, none⟩ = some (.int .u64 at')) := Lib.hid fun W' hW => by
    obtain ⟨z0, z1, -⟩ := (HX0.out.later (hb02.trans (hW.mono hb02.size)) (by omega)).cells
    exact ⟨z0, z1⟩
  have HCC : Hid (∀ W', Below w2.heap.size w2 W' → Calls Tryz.prog 44 #[.slice A2 es.length cap2] W' fun e w' => ∃ v, e = .returned v ∧ BOwn w' W'.heap.size v bs.flatten ∧ Below W'.heap.size W' w') := Lib.hid fun W' hW => by
    have := concat_any bs A2 cap2 W' (hrow.pin.later hW) (by have := HFLAT.out; omega) (by omega)
    rwa [hbl] at this
  clear hb2 hb02 hrow d0 d1 d2
  go_upto_region 4 with fail
  refine wp_region_noPanic ?_
  refine wp_region_held_drew (S := fun W' : World => W'.cell? ⟨w.heap.size, 0, none⟩ = some (.string f) ∧ W'.cell? ⟨w.heap.size, 1, none⟩ = some (.int .u64 at')) (by kernel_rfl) ?_ (fun hHeld => ?_)
  · exact KS.out _ (below_drew (Below.refl _ _))
  first
    | (refine take_drop (i := 0) (v := ?_) rfl (by kernel_rfl) (by kernel_rfl) (by kernel_rfl) (fun _ _ _ h => h) (Or.inl ⟨by rfl, ?_⟩) (by assumption) ?_; rotate_left 1; (focus (intro w hSw; (try dsimp only at hSw); go_simp; try with_reducible rfl)); try simp only [Act.put, List.setIfInBounds_toArray, List.set_cons_zero, List.set_cons_succ])
    | (refine take_drop (i := 0) (v := undef) rfl (by kernel_rfl) (by kernel_rfl) (by kernel_rfl) (fun _ _ _ h => h) (Or.inr ⟨by rfl, rfl⟩) (by assumption) ?_; try simp only [Act.put, List.setIfInBounds_toArray, List.set_cons_zero, List.set_cons_succ])
  first
    | (refine take_drop (i := 1) (v := ?_) rfl (by kernel_rfl) (by kernel_rfl) (by kernel_rfl) (fun _ _ _ h => h) (Or.inl ⟨by rfl, ?_⟩) (by assumption) ?_; rotate_left 1; (focus (intro w hSw; (try dsimp only at hSw); go_simp; try with_reducible rfl)); try simp only [Act.put, List.setIfInBounds_toArray, List.set_cons_zero, List.set_cons_succ])
    | (refine take_drop (i := 1) (v := undef) rfl (by kernel_rfl) (by kernel_rfl) (by kernel_rfl) (fun _ _ _ h => h) (Or.inr ⟨by rfl, rfl⟩) (by assumption) ?_; try simp only [Act.put, List.setIfInBounds_toArray, List.set_cons_zero, List.set_cons_succ])
  first
    | (refine take_drop (i := 3) (v := ?_) rfl (by kernel_rfl) (by kernel_rfl) (by kernel_rfl) (fun _ _ _ h => h) (Or.inl ⟨by rfl, ?_⟩) (by assumption) ?_; rotate_left 1; (focus (intro w hSw; (try dsimp only at hSw); go_simp; try with_reducible rfl)); try simp only [Act.put, List.setIfInBounds_toArray, List.set_cons_zero, List.set_cons_succ])
    | (refine take_drop (i := 3) (v := undef) rfl (by kernel_rfl) (by kernel_rfl) (by kernel_rfl) (fun _ _ _ h => h) (Or.inr ⟨by rfl, rfl⟩) (by assumption) ?_; try simp only [Act.put, List.setIfInBounds_toArray, List.set_cons_zero, List.set_cons_succ])
  first
    | (refine take_drop (i := 4) (v := ?_) rfl (by kernel_rfl) (by kernel_rfl) (by kernel_rfl) (fun _ _ _ h => h) (Or.inl ⟨by rfl, ?_⟩) (by assumption) ?_; rotate_left 1; (focus (intro w hSw; (try dsimp only at hSw); go_simp; try with_reducible rfl)); try simp only [Act.put, List.setIfInBounds_toArray, List.set_cons_zero, List.set_cons_succ])
    | (refine take_drop (i := 4) (v := undef) rfl (by kernel_rfl) (by kernel_rfl) (by kernel_rfl) (fun _ _ _ h => h) (Or.inr ⟨by rfl, rfl⟩) (by assumption) ?_; try simp only [Act.put, List.setIfInBounds_toArray, List.set_cons_zero, List.set_cons_succ])
  first
    | (refine take_drop (i := 6) (v := ?_) rfl (by kernel_rfl) (by kernel_rfl) (by kernel_rfl) (fun _ _ _ h => h) (Or.inl ⟨by rfl, ?_⟩) (by assumption) ?_; rotate_left 1; (focus (intro w hSw; (try dsimp only at hSw); go_simp; try with_reducible rfl)); try simp only [Act.put, List.setIfInBounds_toArray, List.set_cons_zero, List.set_cons_succ])
    | (refine take_drop (i := 6) (v := undef) rfl (by kernel_rfl) (by kernel_rfl) (by kernel_rfl) (fun _ _ _ h => h) (Or.inr ⟨by rfl, rfl⟩) (by assumption) ?_; try simp only [Act.put, List.setIfInBounds_toArray, List.set_cons_zero, List.set_cons_succ])
  first
    | (refine take_drop (i := 7) (v := ?_) rfl (by kernel_rfl) (by kernel_rfl) (by kernel_rfl) (fun _ _ _ h => h) (Or.inl ⟨by rfl, ?_⟩) (by assumption) ?_; rotate_left 1; (focus (intro w hSw; (try dsimp only at hSw); go_simp; try with_reducible rfl)); try simp only [Act.put, List.setIfInBounds_toArray, List.set_cons_zero, List.set_cons_succ])
    | (refine take_drop (i := 7) (v := undef) rfl (by kernel_rfl) (by kernel_rfl) (by kernel_rfl) (fun _ _ _ h => h) (Or.inr ⟨by rfl, rfl⟩) (by assumption) ?_; try simp only [Act.put, List.setIfInBounds_toArray, List.set_cons_zero, List.set_cons_succ])
  first
    | (refine take_drop (i := 8) (v := ?_) rfl (by kernel_rfl) (by kernel_rfl) (by kernel_rfl) (fun _ _ _ h => h) (Or.inl ⟨by rfl, ?_⟩) (by assumption) ?_; rotate_left 1; (focus (intro w hSw; (try dsimp only at hSw); go_simp; try with_reducible rfl)); try simp only [Act.put, List.setIfInBounds_toArray, List.set_cons_zero, List.set_cons_succ])
    | (refine take_drop (i := 8) (v := undef) rfl (by kernel_rfl) (by kernel_rfl) (by kernel_rfl) (fun _ _ _ h => h) (Or.inr ⟨by rfl, rfl⟩) (by assumption) ?_; try simp only [Act.put, List.setIfInBounds_toArray, List.set_cons_zero, List.set_cons_succ])
  first
    | (refine take_drop (i := 10) (v := ?_) rfl (by kernel_rfl) (by kernel_rfl) (by kernel_rfl) (fun _ _ _ h => h) (Or.inl ⟨by rfl, ?_⟩) (by assumption) ?_; rotate_left 1; (focus (intro w hSw; (try dsimp only at hSw); go_simp; try with_reducible rfl)); try simp only [Act.put, List.setIfInBounds_toArray, List.set_cons_zero, List.set_cons_succ])
    | (refine take_drop (i := 10) (v := undef) rfl (by kernel_rfl) (by kernel_rfl) (by kernel_rfl) (fun _ _ _ h => h) (Or.inr ⟨by rfl, rfl⟩) (by assumption) ?_; try simp only [Act.put, List.setIfInBounds_toArray, List.set_cons_zero, List.set_cons_succ])
  refine wpAnyH_ready (rs := [2]) (by kernel_rfl) (by simp) ?_
  refine cons_drop rfl (fun K hK => ?_) AllReadyH.nil
  go_simp
  refine (HT.out _).mono ?_
  rintro x v1 ⟨b1, rfl, hown, hb⟩
  obtain ⟨A10, n10, c10, rfl⟩ := slice_form hown
  have HB1 : Hid (Below w2.heap.size w2 v1) := Lib.hid (Below.trans (below_drew (Below.refl _ _)) hb)
  have HO1 := Lib.hid hown
  clear hown hb
  go_wp2_with fail
  refine hK.out _ _ (KS.out _ HB1.out) (fun hHeld2 => ?_)
  clear hK K
  try simp only [Act.put, List.setIfInBounds_toArray, List.set_cons_zero, List.set_cons_succ]
  refine wpAnyH_ready (rs := [5]) (by kernel_rfl) (by simp) ?_
  refine cons_drop rfl (fun K hK => ?_) AllReadyH.nil
  go_simp
  refine (HU.out _ _ hat).mono ?_
  rintro x v2 ⟨b2, rfl, hown, hb⟩
  obtain ⟨A20, n20, c20, rfl⟩ := slice_form hown
  have HB2 : Hid (Below w2.heap.size w2 v2) := Lib.hid (HB1.out.trans (hb.mono HB1.out.size))
  have HO2 := Lib.hid hown
  have HI1 := Lib.hid (HO1.out.read.later hb)
  clear hown hb
  go_wp2_with fail
  refine hK.out _ _ (KS.out _ HB2.out) (fun hHeld2 => ?_)
  clear hK K
  try simp only [Act.put, List.setIfInBounds_toArray, List.set_cons_zero, List.set_cons_succ]
  refine wpAnyH_ready (rs := [9]) (by kernel_rfl) (by simp) ?_
  refine cons_drop rfl (fun K hK => ?_) AllReadyH.nil
  go_simp
  rw [HWR.out]
  refine (HU.out _ _ hn64).mono ?_
  rintro x v3 ⟨b3, rfl, hown, hb⟩
  obtain ⟨A30, n30, c30, rfl⟩ := slice_form hown
  have HB3 : Hid (Below w2.heap.size w2 v3) := Lib.hid (HB2.out.trans (hb.mono HB2.out.size))
  have HO3 := Lib.hid hown
  have HJ1 := Lib.hid (HI1.out.later hb)
  have HI2 := Lib.hid (HO2.out.read.later hb)
  clear hown hb
  go_wp2_with fail
  refine hK.out _ _ (KS.out _ HB3.out) (fun hHeld2 => ?_)
  clear hK K
  try simp only [Act.put, List.setIfInBounds_toArray, List.set_cons_zero, List.set_cons_succ]
  refine wpAnyH_ready (rs := [11]) (by kernel_rfl) (by simp) ?_
  refine cons_drop rfl (fun K hK => ?_) AllReadyH.nil
  go_simp
  refine (HCC.out _ HB3.out).mono ?_
  rintro x v4 ⟨b4, rfl, hown, hb⟩
  obtain ⟨A40, n40, c40, rfl⟩ := slice_form hown
  have HB4 : Hid (Below w2.heap.size w2 v4) := Lib.hid (HB3.out.trans (hb.mono HB3.out.size))
  have HO4 := Lib.hid hown
  have HK1 := Lib.hid (HJ1.out.later hb)
  have HK2 := Lib.hid (HI2.out.later hb)
  have HK3 := Lib.hid (HO3.out.read.later hb)
  clear hown hb
  go_wp2_with fail
  refine hK.out _ _ (KS.out _ HB4.out) (fun hHeld2 => ?_)
  clear hK K
  try simp only [Act.put, List.setIfInBounds_toArray, List.set_cons_zero, List.set_cons_succ]
  refine wpAnyH_ready (rs := [12]) (by kernel_rfl) (by simp) ?_
  refine cons_drop rfl (fun K hK => ?_) AllReadyH.nil
  go_simp
  obtain ⟨v5, hv5⟩ : ∃ x, x = v4.alloc (.cells #[.slice A10 n10 c10, .slice A20 n20 c20, .slice A30 n30 c30, .slice A40 n40 c40] 31) := ⟨_, rfl⟩
  rw [← hv5]
  have hb : Below v4.heap.size v4 v5 := by rw [hv5]; exact (Below.refl _ _).alloc (Nat.le_refl _) _
  have hblk : v5.heap[v4.heap.size]? = some (.cells #[.slice A10 n10 c10, .slice A20 n20 c20, .slice A30 n30 c30, .slice A40 n40 c40] 31 (0, 0)) := by rw [hv5]; exact heap_alloc_new v4 _
  have HPI : Hid (PIn v5 (some ⟨v4.heap.size, 0, none⟩) 4 [ubytes 10 f.size ++ sb f, ubytes 10 at', ubytes 10 es.length, bs.flatten]) := Lib.hid ⟨by simp, by simp only [maxLen]; omega, fun _ => ⟨v4.heap.size, 0, rfl, (Array.getElem?_eq_some_iff.1 hblk).1, fun i hi => by
    simp only [List.length_cons, List.length_nil] at hi
    rcases (by omega : i = 0 ∨ i = 1 ∨ i = 2 ∨ i = 3) with rfl | rfl | rfl | rfl
    · exact ⟨.slice A10 n10 c10, by simp [World.cell?, hblk], HK1.out.later hb⟩
    · exact ⟨.slice A20 n20 c20, by simp [World.cell?, hblk], HK2.out.later hb⟩
    · exact ⟨.slice A30 n30 c30, by simp [World.cell?, hblk], HK3.out.later hb⟩
    · exact ⟨.slice A40 n40 c40, by simp [World.cell?, hblk], HO4.out.read.later hb⟩⟩⟩
  have HB5 : Hid (Below w2.heap.size w2 v5) := Lib.hid (HB4.out.trans (hb.mono HB4.out.size))
  have HC5 := Lib.hid (concat_any _ _ _ v5 HPI.out HSUM.out HLEN4.out)
  clear hb hblk
  replace hv5 := Lib.hid hv5
  refine hK.out _ _ (KS.out _ HB5.out) (fun hHeld2 => ?_)
  clear hK K
  try simp only [Act.put, List.setIfInBounds_toArray, List.set_cons_zero, List.set_cons_succ]
  refine wpAnyH_ready (rs := [13]) (by kernel_rfl) (by simp) ?_
  refine cons_drop rfl (fun K hK => ?_) AllReadyH.nil
  go_simp
  refine HC5.out.mono ?_
  rintro x v6 ⟨b6, rfl, hown, hb⟩
  have HB6 : Hid (Below w2.heap.size w2 v6) := Lib.hid (HB5.out.trans (hb.mono HB5.out.size))
  have HO6 := Lib.hid hown
  clear hown hb
  go_wp2_with fail
  refine hK.out _ _ (KS.out _ HB6.out) (fun hHeld2 => ?_)
  clear hK K
  try simp only [Act.put, List.setIfInBounds_toArray, List.set_cons_zero, List.set_cons_succ]
  first
    | (refine take_drop (i := 14) (v := ?_) rfl (by kernel_rfl) (by kernel_rfl) (by kernel_rfl) (fun _ _ _ h => h) (Or.inl ⟨by rfl, ?_⟩) (by assumption) ?_; rotate_left 1; (focus (intro w hSw; (try dsimp only at hSw); go_simp; try with_reducible rfl)); try simp only [Act.put, List.setIfInBounds_toArray, List.set_cons_zero, List.set_cons_succ])
    | (refine take_drop (i := 14) (v := undef) rfl (by kernel_rfl) (by kernel_rfl) (by kernel_rfl) (fun _ _ _ h => h) (Or.inr ⟨by rfl, rfl⟩) (by assumption) ?_; try simp only [Act.put, List.setIfInBounds_toArray, List.set_cons_zero, List.set_cons_succ])
  first
    | (refine take_drop (i := 15) (v := ?_) rfl (by kernel_rfl) (by kernel_rfl) (by kernel_rfl) (fun _ _ _ h => h) (Or.inl ⟨by rfl, ?_⟩) (by assumption) ?_; rotate_left 1; (focus (intro w hSw; (try dsimp only at hSw); go_simp; try with_reducible rfl)); try simp only [Act.put, List.setIfInBounds_toArray, List.set_cons_zero, List.set_cons_succ])
    | (refine take_drop (i := 15) (v := undef) rfl (by kernel_rfl) (by kernel_rfl) (by kernel_rfl) (fun _ _ _ h => h) (Or.inr ⟨by rfl, rfl⟩) (by assumption) ?_; try simp only [Act.put, List.setIfInBounds_toArray, List.set_cons_zero, List.set_cons_succ])
  refine wpAnyH_done (by kernel_rfl) ?_ _
  refine NoPanic.normal ?_
  go_wp2_with fail
  refine bodyPost_ret (v := .tuple #[b6, .bool true]) (by simp [results, Tryz.results14, go_sem]) rfl ?_
  refine ⟨b6, rfl, ?_, HBW.out.trans (HB6.out.mono HBW.out.size)⟩
  have h6 := HO6.out
  rw [HFL.out] at h6
  exact h6.base (by have := HBW.out.size; have := HB5.out.size; omega)
end Cn
end Go.Proofs.YtpneejlilgepfaaGreatDoor
