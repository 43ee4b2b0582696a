/- batch.Bytes: rows of byte slices; the walk. -/
/- batch.Bytes: the walk. -/
/- slices.Equal of bytes; clockworklaw13's alive. -/
import Derived.Test.YtcbddebmmaflgaaGreatMpal
import Derived.Test.YtcbddebmmaflgaaGreatMpaq
import Derived.BigQuiet
namespace Go.Proofs.YtcbddebmmaflgaaGreat
open Go.RowKit
set_option linter.unusedVariables false
set_option linter.unusedSimpArgs false
namespace Cn
open _root_.Go.Proofs.YtcbddebmmaflgaaGreat.Nm (bitsW ret_int ret_bool)
open Vt (VT Rep BoxAt below_drew put5 KidsAt HeadOk)
open Ev (EV FieldsOk evCells vCells EBox ERep zeroT take_drop cons_drop)
open Cm (rowOf EvsIn EvsAt EvNew evsSame evSame)
open Bt (BOwn BIn PIn ubytes sb bv concat_any btext_any uint_any)

/-- The forms of events, as contracts. -/
def EvBytes (es : List EV) (bs : List (List Nat)) : Prop := bs.length = es.length ∧ ∀ i (h : i < es.length) (h' : i < bs.length) (lo hi : Nat) (vk vn : Int) (vf : Nat) (vs : ByteArray) (A : Option Addr) (m c : Nat) (w : World), FieldsOk es[i] → Rep w lo hi es[i].v (vCells vk vn vf vs A m c) → hi ≤ w.heap.size →
  Calls Tryz.prog 27 #[.agg (evCells es[i] vk vn vf vs A m c)] w fun r w' => ∃ v, r = .returned (.tuple #[v, .bool true]) ∧ BOwn w' w.heap.size v bs[i] ∧ Below w.heap.size w w'

set_option maxRecDepth 100000 in
theorem bfn_any (e : EV) (l : List Nat) (vk vn : Int) (vf : Nat) (vs : ByteArray) (A : Option Addr) (m c : Nat) (w : World) (hB : ∀ W, Below w.heap.size w W → Calls Tryz.prog 27 #[.agg (evCells e vk vn vf vs A m c)] W fun r w' => ∃ v, r = .returned (.tuple #[v, .bool true]) ∧ BOwn w' W.heap.size v l ∧ Below W.heap.size W w') :
    Calls Tryz.prog 26 #[.agg (evCells e vk vn vf vs A m c)] w fun r w' => ∃ v, r = .returned v ∧ BOwn w' w.heap.size v l ∧ Below w.heap.size w w' := by
  obtain ⟨W0, hW0⟩ : ∃ W0, W0 = w.alloc (.cells (evCells e vk vn vf vs A m c) 44) := ⟨_, rfl⟩
  have hb0 : Below w.heap.size w W0 := by rw [hW0]; exact (Below.refl _ _).alloc (Nat.le_refl _) _
  have hx0 : EBox W0 w.heap.size (evCells e vk vn vf vs A m c) := by rw [hW0]; exact box_ev ..
  have HV := Lib.hid (hB W0 hb0)
  obtain ⟨g0, g1, g2, g3, g4, g5, g6, g7, g8, g9, g10⟩ := EBox.cells hx0
  have HB0 := Lib.hid hb0
  clear hB hx0 hb0
  unfold evCells at HV hW0 ⊢
  replace hW0 := Lib.hid hW0
  go_enter Tryz.func26, Tryz.ntmps26
  go_upto_region 1 with fail
  rw [← hW0.out]
  go_wp2_with fail
  refine HV.out.mono ?_
  rintro x w1 ⟨v, rfl, ho, hb1⟩
  have HO := Lib.hid (ho.base HB0.out.size)
  have HB1 := Lib.hid (HB0.out.trans (hb1.mono HB0.out.size))
  clear hb1 ho g0 g1 g2 g3 g4 g5 g6 g7 g8 g9 g10
  go_wp2_with fail
  go_ret
  exact ⟨v, rfl, HO.out, HB1.out⟩

/-- A row of byte slices of the call's own; each slice lies apart from the row. -/
def PRow (w : World) (base : Nat) (A : Option Addr) (cap n : Nat) (ls : List (List Nat)) : Prop := ls.length = n ∧ ∃ xs, w.ownsRow base 22 1 (.slice A n cap) n xs ∧ ∀ i (h : i < ls.length), ∃ v, xs[i]? = some v ∧ BIn w v ls[i] ∧ ∀ k, v.ownBlock = some k → rowOf A ≠ some k

theorem prow_nil (w : World) (base : Nat) : PRow w base none 0 0 [] := ⟨rfl, [], ⟨rfl, .inl ⟨rfl, rfl⟩⟩, fun i h => absurd h (by simp)⟩
theorem bin_block {w : World} {v : Value} {l : List Nat} (h : BIn w v l) : ∀ k, v.ownBlock = some k → k < w.heap.size := by
  intro k hk
  rcases h with ⟨rfl, -⟩ | ⟨ad, cap, rfl, h1, h2, h3, h4⟩
  · cases hk
  · cases hk; exact h3
theorem bin_keep {w w' : World} {v : Value} {l : List Nat} (h : BIn w v l) (hz : w.heap.size ≤ w'.heap.size) (hk : ∀ k, v.ownBlock = some k → w'.heap[k]? = w.heap[k]?) : BIn w' v l := by
  rcases h with h | ⟨ad, cap, rfl, h1, h2, h3, h4⟩
  · exact .inl h
  · exact .inr ⟨ad, cap, rfl, h1, h2, Nat.lt_of_lt_of_le h3 hz, fun j u hu => (World.cell?_of_block (a := ad.add j) (by rw [Bt.block_add]; exact hk _ rfl)).trans (h4 j u hu)⟩
theorem PRow.pin {w : World} {base : Nat} {A : Option Addr} {cap n : Nat} {ls : List (List Nat)} (h : PRow w base A cap n ls) : PIn w A cap ls := by
  obtain ⟨rfl, xs, h1, h3⟩ := h
  rcases h1.2 with ⟨hv, h0⟩ | ⟨r, cp, cur, q1, q2, q3, q4, q5, q6, q7⟩
  · injection hv with hA hn hc
    exact ⟨by omega, by rw [hc]; exact Nat.zero_le _, fun hp => absurd hp (by omega)⟩
  · injection q1 with hA hn hc
    subst hc
    refine ⟨q4, q5, fun hp => ⟨r, 0, hA, (Array.getElem?_eq_some_iff.1 q3).1, fun i hi => ?_⟩⟩
    obtain ⟨v, k1, k2, -⟩ := h3 i hi
    refine ⟨v, ?_, k2⟩
    rw [← k1, ← q7, List.getElem?_take_of_lt (by omega), Array.getElem?_toList]
    simp [World.cell?, q3]
theorem PRow.push {W w' : World} {base r H : Nat} {A : Option Addr} {cap cap' n : Nat} {ls : List (List Nat)} {l : List Nat} {xs : List Value} {v : Value}
    (hlen : ls.length = n) (hlx : xs.length = n) (hx : ∀ i (h : i < ls.length), ∃ v, xs[i]? = some v ∧ BIn W v ls[i] ∧ ∀ k, v.ownBlock = some k → rowOf A ≠ some k) (hv : BIn W v l) (hrr : ∀ k, v.ownBlock = some k → rowOf A ≠ some k)
    (hown : w'.ownsRow base 22 1 (.slice (some ⟨r, 0, none⟩) (n + 1) cap') (n + 1) (xs ++ [v])) (hgrow : W.grownBy w' (rowOf A)) (hat : rowOf A = some r ∨ r = H) (hH : W.heap.size ≤ H) :
    PRow w' base (some ⟨r, 0, none⟩) cap' (n + 1) (ls ++ [l]) := by
  have key : ∀ (v : Value) (l : List Nat), BIn W v l → (∀ k, v.ownBlock = some k → rowOf A ≠ some k) → BIn w' v l ∧ ∀ k, v.ownBlock = some k → rowOf (some ⟨r, 0, none⟩) ≠ some k := fun v l h1 h2 => by
    refine ⟨bin_keep h1 hgrow.size (fun k hk => hgrow.block k (bin_block h1 k hk) (fun e => h2 k hk e.symm)), fun k hk e => ?_⟩
    obtain rfl : r = k := Option.some.inj e
    rcases hat with h | h
    · exact h2 r hk h
    · have := bin_block h1 r hk; omega
  refine ⟨by simp [hlen], _, hown, fun i hil => ?_⟩
  simp at hil
  by_cases hlt : i < ls.length
  · rw [List.getElem_append_left hlt]
    obtain ⟨u, k1, k2, k3⟩ := hx i hlt
    obtain ⟨z1, z2⟩ := key u _ k2 k3
    exact ⟨u, (List.getElem?_append_left (by omega)).trans k1, z1, z2⟩
  · obtain rfl : i = ls.length := by omega
    rw [List.getElem_append_right (Nat.le_refl _)]
    simp only [Nat.sub_self, List.getElem_cons_zero]
    obtain ⟨z1, z2⟩ := key v _ hv hrr
    exact ⟨v, by rw [List.getElem?_append_right (by omega), hlx, hlen, Nat.sub_self]; rfl, z1, z2⟩

theorem Tryz.infoY : (Tryz.prog.info? 22).map (fun i => (i.zero, i.size, i.bytes)) = some (some (.slice none 0 0), 1, 24) := by kernel_rfl

theorem slice_one {w : World} {v : Value} {l : List Nat} (h : BIn w v l) : v.oneCell' = true := by
  rcases h with ⟨rfl, -⟩ | ⟨ad, cap, rfl, -⟩ <;> rfl

set_option maxRecDepth 100000 in
set_option maxHeartbeats 2000000 in
theorem mappedb_any (es : List EV) (hl40 : es.length ≤ 1099511627775) (bs : List (List Nat)) (hEB : EvBytes es bs) (A : Option Addr) (cap : Nat) (w : World) (h : EvsIn w A cap es) :
    Calls Tryz.prog 25 #[.slice A es.length cap, .func (.func 26) #[] #[]] w fun r w' => ∃ A2 cap2, r = .returned (.slice A2 es.length cap2) ∧ Below w.heap.size w w' ∧ PRow w' w.heap.size A2 cap2 es.length bs := by
  have hl := h.le
  have hc := h.cap_le
  simp only [maxLen] at hc
  obtain ⟨i0, hi0, hz0, hz1, hz2⟩ := info_parts Tryz.infoY
  have HK := Lib.hid h; clear h
  have hbl := hEB.1
  have HE := Lib.hid hEB.2
  clear hEB
  go_enter Tryz.func25, Tryz.ntmps25
  go_wp2_with fail
  go_loopw [5, 10] (fun out i wr => ∃ (j : Nat) (A2 : Option Addr) (cap2 : Nat), j ≤ es.length ∧ i = .int .i64 j ∧ out = .slice A2 j cap2 ∧ PRow wr w.heap.size A2 cap2 j (bs.take j) ∧ Below w.heap.size w wr) (fun _ i _ => es.length - (intOf i).toNat)
  case atStart => exact ⟨0, none, 0, by omega, rfl, rfl, by simpa using prow_nil w w.heap.size, Below.refl _ _⟩
  case round =>
    obtain ⟨j, A2, cap2, hj, rfl, rfl, hrow, hb⟩ := hrel
    by_cases hlt : j < es.length
    · obtain ⟨b, off, lo, hi, vk, vn, vf, vs, A', m, c, rfl, hbl', hf, hv0, hhi0, e0, e1, e2, e3, e4, e5, e6, e7, e8, e9, e10⟩ := HK.out.get j hlt
      have HB := Lib.hid hb
      have hbs := hb.size
      have hcw : ∀ o, wr.cell? ⟨b, o, none⟩ = w.cell? ⟨b, o, none⟩ := fun o => HB.out.cell (p := ⟨b, o, none⟩) hbl'
      have d0 := (hcw _).trans e0; have d1 := (hcw _).trans e1; have d2 := (hcw _).trans e2; have d3 := (hcw _).trans e3; have d4 := (hcw _).trans e4; have d5 := (hcw _).trans e5; have d6 := (hcw _).trans e6; have d7 := (hcw _).trans e7; have d8 := (hcw _).trans e8; have d9 := (hcw _).trans e9; have d10 := (hcw _).trans e10
      have hv := hv0.later (HB.out.mono hhi0)
      have hhi : hi ≤ wr.heap.size := Nat.le_trans hhi0 hbs
      clear e0 e1 e2 e3 e4 e5 e6 e7 e8 e9 e10 hcw hv0 hb
      obtain ⟨W1, hW1⟩ : ∃ W1, W1 = wr.alloc (.cells (evCells es[j] vk vn vf vs A' m c) 44) := ⟨_, rfl⟩
      have hb1 : Below wr.heap.size wr W1 := by rw [hW1]; exact (Below.refl _ _).alloc (Nat.le_refl _) _
      have hx1 : EBox W1 wr.heap.size (evCells es[j] vk vn vf vs A' m c) := by rw [hW1]; exact box_ev ..
      obtain ⟨g0, g1, g2, g3, g4, g5, g6, g7, g8, g9, g10⟩ := EBox.cells hx1
      have hjb : j < bs.length := by omega
      have HC := Lib.hid (bfn_any es[j] bs[j] vk vn vf vs A' m c W1 (fun W hW => HE.out j hlt hjb lo hi vk vn vf vs A' m c W hf ((hv.later (hb1.mono hhi)).later (hW.mono (Nat.le_trans hhi hb1.size))) (Nat.le_trans hhi (Nat.le_trans hb1.size hW.size))))
      have HF := Lib.hid hf; have HB1 := Lib.hid hb1
      obtain ⟨hlen, xs, hxo, hxe⟩ := hrow
      have hlx : xs.length = j := by have := hxo.1; omega
      have HOWN : Hid (∀ W, Below wr.heap.size wr W → W.ownsRow w.heap.size 22 1 (.slice A2 j cap2) j xs) := Lib.hid fun W hW => own_keep hxo hW
      have HRO := Lib.hid (own_lt hxo)
      have HXE := Lib.hid hxe
      unfold evCells at HC hW1
      replace hW1 := Lib.hid hW1
      clear hxe hxo hf hv hx1 hb1
      go_upto_region 5 with fail
      rw [← hW1.out]
      clear d0 d1 d2 d3 d4 d5 d6 d7 d8 d9 d10
      go_wp2_with fail
      refine HC.out.mono ?_
      rintro x w2 ⟨v, rfl, ho, hb2⟩
      obtain ⟨Av, cv, rfl⟩ := ho.read.form
      generalize hnb : bs[j].length = nb at *
      obtain ⟨v, hv⟩ : ∃ v, v = Value.slice Av nb cv := ⟨_, rfl⟩
      rw [← hv] at ho
      have HVV := Lib.hid hv
      clear hnb
      have HB2 : Hid (Below wr.heap.size wr w2) := Lib.hid (HB1.out.trans (hb2.mono HB1.out.size))
      have h1c := slice_one ho.read
      obtain ⟨W4, hW4⟩ : ∃ W4, W4 = w2.alloc (.cells #[v] 22) := ⟨_, rfl⟩
      have hW4' := hW4
      rw [hv] at hW4'
      have K1 : Hid (Below wr.heap.size wr W4) := Lib.hid (by rw [hW4]; exact HB2.out.alloc HB2.out.size _)
      have K2 : Hid (∀ q u, [v][q]? = some u → W4.cell? ((⟨w2.heap.size, 0, none⟩ : Addr).add q) = some u) := Lib.hid (World.news_of_block (cs := #[v]) (t := 22) (fr := (0, 0)) (by rw [hW4]; exact heap_alloc_new w2 _))
      have K3 : Hid (BIn W4 v bs[j]) := Lib.hid (by rw [hW4]; exact ho.read.later ((Below.refl _ _).alloc (Nat.le_refl _) _))
      have K4 : Hid (∀ k, v.ownBlock = some k → rowOf A2 ≠ some k) := Lib.hid fun k hk e => by
        have h1 := ho.row_ge k hk
        have h2 := (HRO.out k e).1
        have h3 := HB1.out.size
        omega
      have KO := Lib.hid (HOWN.out _ K1.out)
      have hbs4 := Nat.le_trans hbs K1.out.size
      have hw1s := HB1.out.size
      replace hW4 := Lib.hid hW4'
      rw [hv] at K2 h1c
      clear hW4' hv
      clear ho hb2 g0 g1 g2 g3 g4 g5 g6 g7 g8 g9 g10
      go_wp2_with (at_builtin; rw [← hW4.out]; refine wpList_append_lies _ rfl _ _ 60 rfl w.heap.size 22 i0 _ 1 24 Tryz.underlying60 hi0 hz0 hz1 hz2 rfl (by decide) (.slice A2 j cap2) j xs rfl KO.out ⟨w2.heap.size, 0, none⟩ 1 1 [.slice Av nb cv] rfl rfl K2.out (by intro u hu; rw [List.mem_singleton.1 hu]; exact h1c) (by decide) (by simp only [maxLen]; omega) (by omega) hbs4 _ rfl ?_; intro r2 cap4 w5 hown5 hgrow5 hat5 hrl5)
      rw [Cm.rowOf_own] at hgrow5 hat5
      rw [← HVV.out] at hown5
      have HP : Hid (PRow w5 w.heap.size (some ⟨r2, 0, none⟩) cap4 (j + 1) (bs.take (j + 1))) := Lib.hid (by
        rw [List.take_succ_eq_append_getElem hjb]
        exact PRow.push (cap := 0) (H := W4.heap.size) hlen hlx (fun i h => by
          obtain ⟨u, k1, k2, k3⟩ := HXE.out i h
          exact ⟨u, k1, k2.later K1.out, k3⟩) K3.out K4.out hown5 hgrow5 hat5 (Nat.le_refl _))
      have HB5 : Hid (Below w.heap.size w w5) := Lib.hid ((HB.out.trans (K1.out.mono hbs)).trans ⟨hgrow5.os, hgrow5.tape, hgrow5.output, hgrow5.size, fun b hb => hgrow5.block b (by omega) (fun e => by have := (HRO.out b e.symm).2; omega)⟩)
      clear hown5 hgrow5 hat5
      exact ⟨⟨j + 1, _, cap4, by omega, by go_num, rfl, HP.out, HB5.out⟩, by simp [intOf]; omega⟩
    · have hj' : j = es.length := by omega
      subst hj'
      rw [List.take_of_length_le (by omega)] at hrow
      have HE := Lib.hid hrow; have HB := Lib.hid hb
      clear hrow hb
      go_wp2_with fail
      go_ret
      exact ⟨A2, cap2, rfl, HB.out, HE.out⟩

/-- The form of a batch. -/
def bform (f : ByteArray) (at' n : Nat) (bs : List (List Nat)) : List Nat := (ubytes 10 f.size ++ sb f) ++ (ubytes 10 at' ++ (ubytes 10 n ++ bs.flatten))

theorem bbytes_no (es : List EV) (f : ByteArray) (hfs : f.size ≤ maxLen) (at' : Nat) (hat : at' < 18446744073709551616) (A : Option Addr) (cap : Nat) (w : World) (h : EvsIn w A cap es) (hval : bvalid f at' es = false) :
    Calls Tryz.prog 8 #[.agg #[.string f, .int .u64 at', .slice A es.length cap]] w fun r w' => r = .returned (.tuple #[.slice none 0 0, .bool false]) ∧ Below w.heap.size w w' := by
  obtain ⟨W0, hW0⟩ : ∃ W0, W0 = w.alloc (.cells #[.string f, .int .u64 at', .slice A es.length cap] 27) := ⟨_, rfl⟩
  have hx0 : BB W0 w.heap.size f at' A es.length cap := by rw [hW0]; exact heap_alloc_new w _
  have hb0 : Below w.heap.size w W0 := by rw [hW0]; exact (Below.refl _ _).alloc (Nat.le_refl _) _
  have HV := Lib.hid (bvalid_any es f hfs at' hat A cap W0 (h.later hb0))
  rw [hval] at HV
  obtain ⟨c0, c1, c2, -⟩ := hx0.cells
  have HB0 := Lib.hid hb0
  replace hW0 := Lib.hid hW0
  clear h hx0 hb0
  go_enter Tryz.func8, Tryz.ntmps8
  go_upto_region 1 with fail
  rw [← hW0.out]
  go_wp2_with fail
  refine HV.out.mono ?_
  rintro x w1 ⟨rfl, hb1⟩
  have HB1 := Lib.hid (HB0.out.trans (hb1.mono HB0.out.size))
  clear hb1
  go_wp2_with fail
  exact bodyPost_ret (v := .tuple #[.slice none 0 0, .bool false]) (by simp [results, Tryz.results8, go_sem]) rfl ⟨rfl, HB1.out⟩

end Cn
end Go.Proofs.YtcbddebmmaflgaaGreat
namespace Go.Proofs.YtcbddebmmaflgaaGreat
open Go.RowKit
set_option linter.unusedVariables false
set_option linter.unusedSimpArgs false
namespace Cn
open _root_.Go.Proofs.YtcbddebmmaflgaaGreat.Nm (bitsW ret_int ret_bool)
open Vt (VT Rep BoxAt below_drew put5 KidsAt HeadOk)
open Ev (EV FieldsOk evCells vCells EBox ERep zeroT take_drop cons_drop)
open Cm (rowOf EvsIn EvsAt EvNew evsSame evSame)
open Bt (BOwn BIn PIn ubytes sb bv concat_any btext_any uint_any)

theorem slice_form {w : World} {base : Nat} {v : Value} {l : List Nat} (h : BOwn w base v l) : ∃ A n cap, v = .slice A n cap := by
  obtain ⟨A, cap, e⟩ := h.read.form
  exact ⟨A, _, cap, e⟩

set_option maxRecDepth 100000 in
set_option maxHeartbeats 4000000 in
theorem bbytes_any (es : List EV) (hl40 : es.length ≤ 1099511627775) (bs : List (List Nat)) (hEB : EvBytes es bs) (hflat : bs.flatten.length ≤ 17592186044416) (f : ByteArray) (at' : Nat) (hat : at' < 18446744073709551616) (A : Option Addr) (cap : Nat) (w : World) (h : EvsIn w A cap es) (hval : bvalid f at' es = true) :
    Calls Tryz.prog 8 #[.agg #[.string f, .int .u64 at', .slice A es.length cap]] w fun r w' => ∃ v, r = .returned (.tuple #[v, .bool true]) ∧ BOwn w' w.heap.size v (bform f at' es.length bs) ∧ Below w.heap.size w w' := by
  have hfz : f.size ≤ 1000 := by
    unfold bvalid at hval
    simp only [Bool.and_eq_true, decide_eq_true_iff] at hval
    exact hval.1.1.1.2
  obtain ⟨W0, hW0⟩ : ∃ W0, W0 = w.alloc (.cells #[.string f, .int .u64 at', .slice A es.length cap] 27) := ⟨_, rfl⟩
  have hx0 : BB W0 w.heap.size f at' A es.length cap := by rw [hW0]; exact heap_alloc_new w _
  have hb0 : Below w.heap.size w W0 := by rw [hW0]; exact (Below.refl _ _).alloc (Nat.le_refl _) _
  have hz0 : W0.heap.size = w.heap.size + 1 := by rw [hW0]; simp
  have HV := Lib.hid (bvalid_any es f (by simp only [maxLen]; omega) at' hat A cap W0 (h.later hb0))
  rw [hval] at HV
  have HM := Lib.hid fun W (hW : Below W0.heap.size W0 W) => mappedb_any es hl40 bs hEB A cap W ((h.later hb0).later hW)
  have hbl := hEB.1
  obtain ⟨c0, c1, c2, -⟩ := hx0.cells
  have HX0 := Lib.hid hx0; have HB0 := Lib.hid hb0
  have HT := Lib.hid fun W => btext_any f (by omega) W
  have HU := Lib.hid fun W x hx => uint_any x hx W
  have hn64 : es.length < 18446744073709551616 := by omega
  have HWR : Hid (IntKind.u64.wrap (es.length : Int) = (es.length : Int)) := Lib.hid (IntWalk.u64_in _ (by omega))
  have hsum : ([ubytes 10 f.size ++ sb f, ubytes 10 at', ubytes 10 es.length, bs.flatten] : List (List Nat)).flatten.length ≤ 35184372088832 := by
    have h1 := Bt.ubytes_len 10 f.size
    have h2 := Bt.ubytes_len 10 at'
    have h3 := Bt.ubytes_len 10 es.length
    have h4 := Bt.sb_len f
    simp only [List.flatten_cons, List.flatten_nil, List.length_append, List.length_nil]
    omega
  have hlen4 : ([ubytes 10 f.size ++ sb f, ubytes 10 at', ubytes 10 es.length, bs.flatten] : List (List Nat)).length ≤ 35184372088832 := by simp
  have HFL : Hid (([ubytes 10 f.size ++ sb f, ubytes 10 at', ubytes 10 es.length, bs.flatten] : List (List Nat)).flatten = bform f at' es.length bs) := Lib.hid (by simp [bform])
  replace hW0 := Lib.hid hW0
  have HSUM := Lib.hid hsum; have HLEN4 := Lib.hid hlen4; have HFLAT := Lib.hid hflat
  clear h hx0 hb0 hEB hval hsum hlen4 hflat
  go_enter Tryz.func8, Tryz.ntmps8
  go_upto_region 1 with fail
  rw [← hW0.out]
  go_wp2_with fail
  refine HV.out.mono ?_
  rintro x w1 ⟨rfl, hb1⟩
  have HB1 := Lib.hid hb1
  obtain ⟨d0, d1, d2, -⟩ := (HX0.out.later hb1 (by omega)).cells
  clear hb1 c0 c1 c2
  go_wp2_with fail
  refine (HM.out _ HB1.out).mono ?_
  rintro x w2 ⟨A2, cap2, rfl, hb2, hrow⟩
  have hb02 : Below W0.heap.size W0 w2 := HB1.out.trans (hb2.mono HB1.out.size)
  have HBW : Hid (Below w.heap.size w w2) := Lib.hid (HB0.out.trans (hb02.mono (by omega)))
  have KS : Hid (∀ W', Below w2.heap.size w2 W' → W'.cell? ⟨w.heap.size, 0, none⟩ = some (.string f) ∧ W'.cell? ⟨w.heap.size, 1, none⟩ = some (.int .u64 at')) := Lib.hid fun W' hW => by
    obtain ⟨z0, z1, -⟩ := (HX0.out.later (hb02.trans (hW.mono hb02.size)) (by omega)).cells
    exact ⟨z0, z1⟩
  have HCC : Hid (∀ W', Below w2.heap.size w2 W' → Calls Tryz.prog 28 #[.slice A2 es.length cap2] W' fun e w' => ∃ v, e = .returned v ∧ BOwn w' W'.heap.size v bs.flatten ∧ Below W'.heap.size W' w') := Lib.hid fun W' hW => by
    have := concat_any bs A2 cap2 W' (hrow.pin.later hW) (by have := HFLAT.out; omega) (by omega)
    rwa [hbl] at this
  clear hb2 hb02 hrow d0 d1 d2
  go_upto_region 4 with fail
  refine wp_region_noPanic ?_
  refine wp_region_held_drew (S := fun W' : World => W'.cell? ⟨w.heap.size, 0, none⟩ = some (.string f) ∧ W'.cell? ⟨w.heap.size, 1, none⟩ = some (.int .u64 at')) (by kernel_rfl) ?_ (fun hHeld => ?_)
  · exact KS.out _ (below_drew (Below.refl _ _))
  first
    | (refine take_drop (i := 0) (v := ?_) rfl (by kernel_rfl) (by kernel_rfl) (by kernel_rfl) (fun _ _ _ h => h) (Or.inl ⟨by rfl, ?_⟩) (by assumption) ?_; rotate_left 1; (focus (intro w hSw; (try dsimp only at hSw); go_simp; try with_reducible rfl)))
    | (refine take_drop (i := 0) (v := undef) rfl (by kernel_rfl) (by kernel_rfl) (by kernel_rfl) (fun _ _ _ h => h) (Or.inr ⟨by rfl, rfl⟩) (by assumption) ?_)
  try simp only [Act.put, List.setIfInBounds_toArray, List.set_cons_zero, List.set_cons_succ]
  first
    | (refine take_drop (i := 1) (v := ?_) rfl (by kernel_rfl) (by kernel_rfl) (by kernel_rfl) (fun _ _ _ h => h) (Or.inl ⟨by rfl, ?_⟩) (by assumption) ?_; rotate_left 1; (focus (intro w hSw; (try dsimp only at hSw); go_simp; try with_reducible rfl)))
    | (refine take_drop (i := 1) (v := undef) rfl (by kernel_rfl) (by kernel_rfl) (by kernel_rfl) (fun _ _ _ h => h) (Or.inr ⟨by rfl, rfl⟩) (by assumption) ?_)
  try simp only [Act.put, List.setIfInBounds_toArray, List.set_cons_zero, List.set_cons_succ]
  first
    | (refine take_drop (i := 3) (v := ?_) rfl (by kernel_rfl) (by kernel_rfl) (by kernel_rfl) (fun _ _ _ h => h) (Or.inl ⟨by rfl, ?_⟩) (by assumption) ?_; rotate_left 1; (focus (intro w hSw; (try dsimp only at hSw); go_simp; try with_reducible rfl)))
    | (refine take_drop (i := 3) (v := undef) rfl (by kernel_rfl) (by kernel_rfl) (by kernel_rfl) (fun _ _ _ h => h) (Or.inr ⟨by rfl, rfl⟩) (by assumption) ?_)
  try simp only [Act.put, List.setIfInBounds_toArray, List.set_cons_zero, List.set_cons_succ]
  first
    | (refine take_drop (i := 4) (v := ?_) rfl (by kernel_rfl) (by kernel_rfl) (by kernel_rfl) (fun _ _ _ h => h) (Or.inl ⟨by rfl, ?_⟩) (by assumption) ?_; rotate_left 1; (focus (intro w hSw; (try dsimp only at hSw); go_simp; try with_reducible rfl)))
    | (refine take_drop (i := 4) (v := undef) rfl (by kernel_rfl) (by kernel_rfl) (by kernel_rfl) (fun _ _ _ h => h) (Or.inr ⟨by rfl, rfl⟩) (by assumption) ?_)
  try simp only [Act.put, List.setIfInBounds_toArray, List.set_cons_zero, List.set_cons_succ]
  first
    | (refine take_drop (i := 6) (v := ?_) rfl (by kernel_rfl) (by kernel_rfl) (by kernel_rfl) (fun _ _ _ h => h) (Or.inl ⟨by rfl, ?_⟩) (by assumption) ?_; rotate_left 1; (focus (intro w hSw; (try dsimp only at hSw); go_simp; try with_reducible rfl)))
    | (refine take_drop (i := 6) (v := undef) rfl (by kernel_rfl) (by kernel_rfl) (by kernel_rfl) (fun _ _ _ h => h) (Or.inr ⟨by rfl, rfl⟩) (by assumption) ?_)
  try simp only [Act.put, List.setIfInBounds_toArray, List.set_cons_zero, List.set_cons_succ]
  first
    | (refine take_drop (i := 7) (v := ?_) rfl (by kernel_rfl) (by kernel_rfl) (by kernel_rfl) (fun _ _ _ h => h) (Or.inl ⟨by rfl, ?_⟩) (by assumption) ?_; rotate_left 1; (focus (intro w hSw; (try dsimp only at hSw); go_simp; try with_reducible rfl)))
    | (refine take_drop (i := 7) (v := undef) rfl (by kernel_rfl) (by kernel_rfl) (by kernel_rfl) (fun _ _ _ h => h) (Or.inr ⟨by rfl, rfl⟩) (by assumption) ?_)
  try simp only [Act.put, List.setIfInBounds_toArray, List.set_cons_zero, List.set_cons_succ]
  first
    | (refine take_drop (i := 8) (v := ?_) rfl (by kernel_rfl) (by kernel_rfl) (by kernel_rfl) (fun _ _ _ h => h) (Or.inl ⟨by rfl, ?_⟩) (by assumption) ?_; rotate_left 1; (focus (intro w hSw; (try dsimp only at hSw); go_simp; try with_reducible rfl)))
    | (refine take_drop (i := 8) (v := undef) rfl (by kernel_rfl) (by kernel_rfl) (by kernel_rfl) (fun _ _ _ h => h) (Or.inr ⟨by rfl, rfl⟩) (by assumption) ?_)
  try simp only [Act.put, List.setIfInBounds_toArray, List.set_cons_zero, List.set_cons_succ]
  first
    | (refine take_drop (i := 10) (v := ?_) rfl (by kernel_rfl) (by kernel_rfl) (by kernel_rfl) (fun _ _ _ h => h) (Or.inl ⟨by rfl, ?_⟩) (by assumption) ?_; rotate_left 1; (focus (intro w hSw; (try dsimp only at hSw); go_simp; try with_reducible rfl)))
    | (refine take_drop (i := 10) (v := undef) rfl (by kernel_rfl) (by kernel_rfl) (by kernel_rfl) (fun _ _ _ h => h) (Or.inr ⟨by rfl, rfl⟩) (by assumption) ?_)
  try simp only [Act.put, List.setIfInBounds_toArray, List.set_cons_zero, List.set_cons_succ]
  refine wpAnyH_ready (rs := [2]) (by kernel_rfl) (by simp) ?_
  refine cons_drop rfl (fun K hK => ?_) AllReadyH.nil
  go_simp
  refine (HT.out _).mono ?_
  rintro x v1 ⟨b1, rfl, hown, hb⟩
  obtain ⟨A10, n10, c10, rfl⟩ := slice_form hown
  have HB1 : Hid (Below w2.heap.size w2 v1) := Lib.hid (Below.trans (below_drew (Below.refl _ _)) hb)
  have HO1 := Lib.hid hown
  clear hown hb
  go_wp2_with fail
  refine hK.out _ _ (KS.out _ HB1.out) (fun hHeld2 => ?_)
  clear hK K
  try simp only [Act.put, List.setIfInBounds_toArray, List.set_cons_zero, List.set_cons_succ]
  refine wpAnyH_ready (rs := [5]) (by kernel_rfl) (by simp) ?_
  refine cons_drop rfl (fun K hK => ?_) AllReadyH.nil
  go_simp
  refine (HU.out _ _ hat).mono ?_
  rintro x v2 ⟨b2, rfl, hown, hb⟩
  obtain ⟨A20, n20, c20, rfl⟩ := slice_form hown
  have HB2 : Hid (Below w2.heap.size w2 v2) := Lib.hid (HB1.out.trans (hb.mono HB1.out.size))
  have HO2 := Lib.hid hown
  have HI1 := Lib.hid (HO1.out.read.later hb)
  clear hown hb
  go_wp2_with fail
  refine hK.out _ _ (KS.out _ HB2.out) (fun hHeld2 => ?_)
  clear hK K
  try simp only [Act.put, List.setIfInBounds_toArray, List.set_cons_zero, List.set_cons_succ]
  refine wpAnyH_ready (rs := [9]) (by kernel_rfl) (by simp) ?_
  refine cons_drop rfl (fun K hK => ?_) AllReadyH.nil
  go_simp
  rw [HWR.out]
  refine (HU.out _ _ hn64).mono ?_
  rintro x v3 ⟨b3, rfl, hown, hb⟩
  obtain ⟨A30, n30, c30, rfl⟩ := slice_form hown
  have HB3 : Hid (Below w2.heap.size w2 v3) := Lib.hid (HB2.out.trans (hb.mono HB2.out.size))
  have HO3 := Lib.hid hown
  have HJ1 := Lib.hid (HI1.out.later hb)
  have HI2 := Lib.hid (HO2.out.read.later hb)
  clear hown hb
  go_wp2_with fail
  refine hK.out _ _ (KS.out _ HB3.out) (fun hHeld2 => ?_)
  clear hK K
  try simp only [Act.put, List.setIfInBounds_toArray, List.set_cons_zero, List.set_cons_succ]
  refine wpAnyH_ready (rs := [11]) (by kernel_rfl) (by simp) ?_
  refine cons_drop rfl (fun K hK => ?_) AllReadyH.nil
  go_simp
  refine (HCC.out _ HB3.out).mono ?_
  rintro x v4 ⟨b4, rfl, hown, hb⟩
  obtain ⟨A40, n40, c40, rfl⟩ := slice_form hown
  have HB4 : Hid (Below w2.heap.size w2 v4) := Lib.hid (HB3.out.trans (hb.mono HB3.out.size))
  have HO4 := Lib.hid hown
  have HK1 := Lib.hid (HJ1.out.later hb)
  have HK2 := Lib.hid (HI2.out.later hb)
  have HK3 := Lib.hid (HO3.out.read.later hb)
  clear hown hb
  go_wp2_with fail
  refine hK.out _ _ (KS.out _ HB4.out) (fun hHeld2 => ?_)
  clear hK K
  try simp only [Act.put, List.setIfInBounds_toArray, List.set_cons_zero, List.set_cons_succ]
  refine wpAnyH_ready (rs := [12]) (by kernel_rfl) (by simp) ?_
  refine cons_drop rfl (fun K hK => ?_) AllReadyH.nil
  go_simp
  obtain ⟨v5, hv5⟩ : ∃ x, x = v4.alloc (.cells #[.slice A10 n10 c10, .slice A20 n20 c20, .slice A30 n30 c30, .slice A40 n40 c40] 22) := ⟨_, rfl⟩
  rw [← hv5]
  have hb : Below v4.heap.size v4 v5 := by rw [hv5]; exact (Below.refl _ _).alloc (Nat.le_refl _) _
  have hblk : v5.heap[v4.heap.size]? = some (.cells #[.slice A10 n10 c10, .slice A20 n20 c20, .slice A30 n30 c30, .slice A40 n40 c40] 22 (0, 0)) := by rw [hv5]; exact heap_alloc_new v4 _
  have HPI : Hid (PIn v5 (some ⟨v4.heap.size, 0, none⟩) 4 [ubytes 10 f.size ++ sb f, ubytes 10 at', ubytes 10 es.length, bs.flatten]) := Lib.hid ⟨by simp, by simp only [maxLen]; omega, fun _ => ⟨v4.heap.size, 0, rfl, (Array.getElem?_eq_some_iff.1 hblk).1, fun i hi => by
    simp only [List.length_cons, List.length_nil] at hi
    rcases (by omega : i = 0 ∨ i = 1 ∨ i = 2 ∨ i = 3) with rfl | rfl | rfl | rfl
    · exact ⟨.slice A10 n10 c10, by simp [World.cell?, hblk], HK1.out.later hb⟩
    · exact ⟨.slice A20 n20 c20, by simp [World.cell?, hblk], HK2.out.later hb⟩
    · exact ⟨.slice A30 n30 c30, by simp [World.cell?, hblk], HK3.out.later hb⟩
    · exact ⟨.slice A40 n40 c40, by simp [World.cell?, hblk], HO4.out.read.later hb⟩⟩⟩
  have HB5 : Hid (Below w2.heap.size w2 v5) := Lib.hid (HB4.out.trans (hb.mono HB4.out.size))
  have HC5 := Lib.hid (concat_any _ _ _ v5 HPI.out HSUM.out HLEN4.out)
  clear hb hblk
  replace hv5 := Lib.hid hv5
  refine hK.out _ _ (KS.out _ HB5.out) (fun hHeld2 => ?_)
  clear hK K
  try simp only [Act.put, List.setIfInBounds_toArray, List.set_cons_zero, List.set_cons_succ]
  refine wpAnyH_ready (rs := [13]) (by kernel_rfl) (by simp) ?_
  refine cons_drop rfl (fun K hK => ?_) AllReadyH.nil
  go_simp
  refine HC5.out.mono ?_
  rintro x v6 ⟨b6, rfl, hown, hb⟩
  have HB6 : Hid (Below w2.heap.size w2 v6) := Lib.hid (HB5.out.trans (hb.mono HB5.out.size))
  have HO6 := Lib.hid hown
  clear hown hb
  go_wp2_with fail
  refine hK.out _ _ (KS.out _ HB6.out) (fun hHeld2 => ?_)
  clear hK K
  try simp only [Act.put, List.setIfInBounds_toArray, List.set_cons_zero, List.set_cons_succ]
  first
    | (refine take_drop (i := 14) (v := ?_) rfl (by kernel_rfl) (by kernel_rfl) (by kernel_rfl) (fun _ _ _ h => h) (Or.inl ⟨by rfl, ?_⟩) (by assumption) ?_; rotate_left 1; (focus (intro w hSw; (try dsimp only at hSw); go_simp; try with_reducible rfl)))
    | (refine take_drop (i := 14) (v := undef) rfl (by kernel_rfl) (by kernel_rfl) (by kernel_rfl) (fun _ _ _ h => h) (Or.inr ⟨by rfl, rfl⟩) (by assumption) ?_)
  try simp only [Act.put, List.setIfInBounds_toArray, List.set_cons_zero, List.set_cons_succ]
  first
    | (refine take_drop (i := 15) (v := ?_) rfl (by kernel_rfl) (by kernel_rfl) (by kernel_rfl) (fun _ _ _ h => h) (Or.inl ⟨by rfl, ?_⟩) (by assumption) ?_; rotate_left 1; (focus (intro w hSw; (try dsimp only at hSw); go_simp; try with_reducible rfl)))
    | (refine take_drop (i := 15) (v := undef) rfl (by kernel_rfl) (by kernel_rfl) (by kernel_rfl) (fun _ _ _ h => h) (Or.inr ⟨by rfl, rfl⟩) (by assumption) ?_)
  try simp only [Act.put, List.setIfInBounds_toArray, List.set_cons_zero, List.set_cons_succ]
  refine wpAnyH_done (by kernel_rfl) ?_ _
  refine NoPanic.normal ?_
  go_wp2_with fail
  refine bodyPost_ret (v := .tuple #[b6, .bool true]) (by simp [results, Tryz.results8, go_sem]) rfl ?_
  refine ⟨b6, rfl, ?_, HBW.out.trans (HB6.out.mono HBW.out.size)⟩
  have h6 := HO6.out
  rw [HFL.out] at h6
  exact h6.base (by have := HBW.out.size; have := HB5.out.size; omega)
end Cn
end Go.Proofs.YtcbddebmmaflgaaGreat
namespace Go.Proofs.YtcbddebmmaflgaaGreat
open Go.RowKit
set_option linter.unusedVariables false
set_option linter.unusedSimpArgs false
namespace Cn
open _root_.Go.Proofs.YtcbddebmmaflgaaGreat.Nm (bitsW ret_int ret_bool)
open Vt (VT Rep BoxAt below_drew put5 KidsAt HeadOk)
open Ev (EV FieldsOk evCells vCells EBox ERep zeroT take_drop cons_drop nameOf fieldsOf of_in evalid_any)
open Cm (rowOf EvsIn EvsAt EvNew evsSame evSame)
open Bt (BOwn BIn PIn ubytes sb bv ebytes_walk vbytes0)

/-- Bytes that are read by their places. -/
def BRd (w : World) (v : Value) (l : List Nat) : Prop := (v = .slice none 0 0 ∧ l = []) ∨ ∃ b off cap, v = .slice (some ⟨b, off, none⟩) l.length cap ∧ l.length ≤ cap ∧ cap ≤ maxLen ∧ b < w.heap.size ∧ ∀ j (h : j < l.length), w.cell? ⟨b, off + j, none⟩ = some (.int .u8 (l[j] : Nat))
theorem below_drewN {B n : Nat} {a w : World} (h : Below B a w) : Below B a (w.drewN n) := ⟨h.os, h.tape, h.output, h.size, h.block⟩
theorem BRd.later {w w' : World} {v : Value} {l : List Nat} (h : BRd w v l) (hb : Below w.heap.size w w') : BRd w' v l := by
  rcases h with h | ⟨b, off, cap, h1, h2, h3, h4, h5⟩
  · exact .inl h
  · exact .inr ⟨b, off, cap, h1, h2, h3, Nat.lt_of_lt_of_le h4 hb.size, fun j hj => (hb.cell (p := ⟨b, off + j, none⟩) h4).trans (h5 j hj)⟩
theorem brd_own {w : World} {base : Nat} {v : Value} {l : List Nat} (h : BOwn w base v l) : BRd w v l := by
  rcases h.2 with ⟨h1, h2⟩ | ⟨g, cap, cur, q1, q2, q3, q4, q5, q6, q7⟩
  · exact .inl ⟨h1, List.eq_nil_of_length_eq_zero h2⟩
  · refine .inr ⟨g, 0, cap, q1, q4, q5, (Array.getElem?_eq_some_iff.1 q3).1, fun j hj => ?_⟩
    have e : cur[j]? = some (.int .u8 (l[j] : Nat)) := by
      have e1 : (l.map fun (b : Nat) => Value.int .u8 (b : Int))[j]? = some (.int .u8 (l[j] : Nat)) := by simp [List.getElem?_eq_getElem hj]
      rw [← e1, ← q7, List.getElem?_take_of_lt (by omega), Array.getElem?_toList]
    rw [Nat.zero_add]
    simp [World.cell?, q3, e]
theorem BRd.form {w : World} {v : Value} {l : List Nat} (h : BRd w v l) : ∃ A cap, v = .slice A l.length cap := by
  rcases h with ⟨rfl, rfl⟩ | ⟨b, off, cap, rfl, -⟩
  · exact ⟨none, 0, rfl⟩
  · exact ⟨_, cap, rfl⟩

set_option maxRecDepth 100000 in
set_option maxHeartbeats 1000000 in
theorem bequal_same (l m : List Nat) (hlm : l.length = m.length) (x y : Value) (w : World) (hx : BRd w x l) (hy : BRd w y m) :
    Calls Tryz.prog 10 #[x, y] w fun r w' => r = .returned (.bool (decide (l = m))) ∧ Below w.heap.size w w' := by
  obtain ⟨A, cap, rfl⟩ := hx.form
  obtain ⟨A', cap', rfl⟩ := hy.form
  have hll : l.length ≤ 9223372036854775807 := by
    rcases hx with ⟨-, rfl⟩ | ⟨b, off, cap, -, h1, h2, -⟩
    · simp
    · simp only [maxLen] at h2; omega
  have HX := Lib.hid fun W (hW : Below w.heap.size w W) => hx.later hW
  have HY := Lib.hid fun W (hW : Below w.heap.size w W) => hy.later hW
  have HLM := Lib.hid hlm
  rw [← hlm] at HY ⊢
  clear hx hy hlm
  generalize hn : l.length = n at *
  have HN := Lib.hid hn; clear hn
  go_enter Tryz.func10, Tryz.ntmps10
  go_wp2_with fail
  go_loopw [4, 13] (fun r i wr => ∃ (j : Nat), j ≤ n ∧ i = .int .i64 j ∧ r = .bool false ∧ l.take j = m.take j ∧ Below w.heap.size w wr) (fun _ i _ => n - (intOf i).toNat)
  case atStart => exact ⟨0, by omega, rfl, rfl, by simp, Below.refl _ _⟩
  case round =>
    obtain ⟨j, hj, rfl, rfl, hy, hb⟩ := hrel
    have HYT := Lib.hid hy; have HB := Lib.hid hb
    clear hy hb
    by_cases hlt : j < n
    · have hjl : j < l.length := by have := HN.out; omega
      have hjm : j < m.length := by have := HLM.out; have := HN.out; omega
      obtain ⟨b, off, cp, e1, h2, h3, h4, h5⟩ := (HX.out wr HB.out).resolve_left (fun h => by rw [h.2] at hjl; simp at hjl)
      obtain ⟨b', off', cp', e1', h2', h3', h4', h5'⟩ := (HY.out wr HB.out).resolve_left (fun h => by rw [h.2] at hjm; simp at hjm)
      injection e1 with e1 _ _
      injection e1' with e1' _ _
      subst e1 e1'
      have c1 := h5 j hjl
      have c2 := h5' j hjm
      obtain ⟨a, ha⟩ : ∃ a, a = l[j] := ⟨_, rfl⟩
      obtain ⟨a', ha'⟩ : ∃ a, a = m[j] := ⟨_, rfl⟩
      rw [← ha] at c1
      rw [← ha'] at c2
      have HA := Lib.hid ha; have HA' := Lib.hid ha'
      have HT : Hid (a = a' → l.take (j + 1) = m.take (j + 1)) := Lib.hid fun e => by rw [List.take_succ_eq_append_getElem hjl, List.take_succ_eq_append_getElem hjm, HYT.out, ← HA.out, ← HA'.out, e]
      have HF : Hid (a ≠ a' → decide (l = m) = false) := Lib.hid fun e => decide_eq_false (fun h => e (by rw [HA.out, HA'.out]; simp [h]))
      clear ha ha' h2 h3 h4 h5 h2' h3' h4' h5'
      by_cases haa : a = a'
      · subst haa
        go_upto_region 6 with fail
        go_quiet (fail)
        go_wp2_with fail
        go_roundw
        case rel => exact ⟨j + 1, by omega, by go_num, rfl, HT.out rfl, below_drewN HB.out⟩
        case measure => simp [intOf]; omega
      · have hne : ((a : Int) != (a' : Int)) = true := by simp; omega
        have HNE := Lib.hid haa
        go_upto_region 6 with fail
        go_quiet (fail)
        go_wp2_with fail
        go_ret
        exact ⟨ret_bool (by rw [HF.out HNE.out]), below_drewN HB.out⟩
    · have hj' : j = n := by omega
      subst hj'
      go_wp2_with fail
      go_ret
      have he : l = m := by
        have := HYT.out
        rw [List.take_of_length_le (by have := HN.out; omega), List.take_of_length_le (by have := HN.out; have := HLM.out; omega)] at this
        exact this
      exact ⟨ret_bool (by rw [decide_eq_true he]), HB.out⟩

set_option maxRecDepth 100000 in
theorem bequal_any (l m : List Nat) (x y : Value) (w : World) (hx : BRd w x l) (hy : BRd w y m) :
    Calls Tryz.prog 10 #[x, y] w fun r w' => r = .returned (.bool (decide (l = m))) ∧ Below w.heap.size w w' := by
  by_cases hlm : l.length = m.length
  · exact bequal_same l m hlm x y w hx hy
  · obtain ⟨A, cap, rfl⟩ := hx.form
    obtain ⟨A', cap', rfl⟩ := hy.form
    have hd : decide (l = m) = false := decide_eq_false (fun h => hlm (by rw [h]))
    rw [hd]
    generalize l.length = n at *
    generalize m.length = k at *
    have hne : ((n : Int) != (k : Int)) = true := by simp; omega
    clear hx hy hd
    go_enter Tryz.func10, Tryz.ntmps10
    go_wp2_with fail
    go_ret
    exact ⟨rfl, Below.refl _ _⟩

def e5 : EV := ⟨5, 5, 0, 0, ⟨#[]⟩, ⟨#[]⟩, zeroT⟩
theorem zero_valid : zeroT.valid 8 = true := by unfold zeroT; rw [Vt.valid_mk]; simp; decide
theorem e5_valid : e5.valid = true := by
  unfold EV.valid Ev.goodL e5
  simp [fieldsOf, Vt.same_refl, Ev.pickB]
  try decide
theorem e5_fields : FieldsOk e5 := ⟨by decide, by decide, by decide, by decide, by decide, by decide, by decide, by decide⟩

theorem e5_bytes : EvBytes [e5] [[1, 5, 5]] := by
  refine ⟨rfl, fun i h h' lo hi vk vn vf vs A m c w hf hv hz => ?_⟩
  obtain rfl : i = 0 := by simp at h; omega
  simp only [List.getElem_cons_zero] at hv hf ⊢
  obtain ⟨A2, cap2, hvc, -, -, -⟩ := hv.head (k := 0) (n := 0) (f := 0) (s := ⟨#[]⟩) (l := [])
  unfold vCells at hvc
  injection hvc with hvc
  simp at hvc
  obtain ⟨rfl, rfl, rfl, rfl, rfl, rfl, rfl⟩ := hvc
  have h := ebytes_walk 5 5 0 0 ⟨#[]⟩ ⟨#[]⟩ (by omega) (by omega) (by omega) (by omega) (by decide) (by decide) 0 0 0 ⟨#[]⟩ A 0 c (nameOf 5) true false false false false false [0] (by simp) w
    (fun W hW => (evalid_any e5 W lo hi _ ⟨hf, 0, 0, 0, ⟨#[]⟩, A, 0, c, rfl, hv.later (hW.mono hz)⟩ (Nat.le_trans hz hW.size)).mono fun r w' h => by rw [e5_valid] at h; exact h)
    (fun W => of_in 5 (by omega) (by omega) W)
    (fun W hW => vbytes0 zeroT lo hi 0 0 ⟨#[]⟩ A 0 c W (hv.later (hW.mono hz)) (Nat.le_trans hz hW.size) zero_valid)
  exact h

theorem e5_in (w : World) (g : Nat) (h : w.heap[g]? = some (.cells #[.int .i64 5, .int .u64 5, .int .i64 0, .int .u64 0, .string ⟨#[]⟩, .string ⟨#[]⟩, .int .i64 0, .int .i64 0, .float .f64 0, .string ⟨#[]⟩, .slice none 0 0] 44 (0, 0))) : EvsIn w (some ⟨g, 0, none⟩) 1 [e5] :=
  ⟨by simp, by simp only [maxLen]; omega, fun _ => ⟨g, 0, rfl, (Array.getElem?_eq_some_iff.1 h).1, fun i hi => by
    obtain rfl : i = 0 := by simp at hi; omega
    refine ⟨0, 0, 0, 0, 0, ⟨#[]⟩, none, 0, 0, e5_fields, Rep.leaf ⟨by omega, by omega, by omega, by omega, by omega, by decide, by decide⟩, Nat.zero_le _, fun q hq => ?_⟩
    have e : evCells ([e5][0]) 0 0 0 ⟨#[]⟩ none 0 0 = #[.int .i64 5, .int .u64 5, .int .i64 0, .int .u64 0, .string ⟨#[]⟩, .string ⟨#[]⟩, .int .i64 0, .int .i64 0, .float .f64 0, .string ⟨#[]⟩, .slice none 0 0] := rfl
    rw [e]
    simp [World.cell?, h]⟩⟩

set_option maxRecDepth 100000 in
set_option maxHeartbeats 1000000 in
theorem balive_any (w : World) : Calls Tryz.prog 5 #[] w fun r w' => r = .returned (.bool true) ∧ Below w.heap.size w w' := by
  obtain ⟨W0, hW0⟩ : ∃ W0, W0 = w.alloc (.cells #[.int .i64 5, .int .u64 5, .int .i64 0, .int .u64 0, .string ⟨#[]⟩, .string ⟨#[]⟩, .int .i64 0, .int .i64 0, .float .f64 0, .string ⟨#[]⟩, .slice none 0 0] 44) := ⟨_, rfl⟩
  have hx0 : W0.heap[w.heap.size]? = some (.cells #[.int .i64 5, .int .u64 5, .int .i64 0, .int .u64 0, .string ⟨#[]⟩, .string ⟨#[]⟩, .int .i64 0, .int .i64 0, .float .f64 0, .string ⟨#[]⟩, .slice none 0 0] 44 (0, 0)) := by rw [hW0]; exact heap_alloc_new w _
  have HB0 : Hid (Below w.heap.size w W0) := Lib.hid (by rw [hW0]; exact (Below.refl _ _).alloc (Nat.le_refl _) _)
  have hval : bvalid ⟨#[119]⟩ 3 [e5] = true := by
    have : ([e5] : List EV).any wrongE = false := by simp [wrongE, e5_valid]
    unfold bvalid
    rw [this, show (⟨#[119]⟩ : ByteArray).toList.isEmpty = false from by decide +kernel]
    rfl
  have HC : Hid (Calls Tryz.prog 8 #[.agg #[.string ⟨#[119]⟩, .int .u64 3, .slice (some ⟨w.heap.size, 0, none⟩) 1 1]] W0 fun r w' => ∃ v, r = .returned (.tuple #[v, .bool true]) ∧ BOwn w' W0.heap.size v [1, 119, 3, 1, 1, 5, 5] ∧ Below W0.heap.size W0 w') := Lib.hid (by
    have h := bbytes_any [e5] (by simp) [[1, 5, 5]] e5_bytes (by simp) ⟨#[119]⟩ 3 (by omega) (some ⟨w.heap.size, 0, none⟩) 1 W0 (e5_in W0 _ hx0) hval
    have e : bform ⟨#[119]⟩ 3 ([e5] : List EV).length [[1, 5, 5]] = [1, 119, 3, 1, 1, 5, 5] := by decide
    rw [e] at h
    exact h)
  replace hW0 := Lib.hid hW0
  clear hx0 hval
  go_enter Tryz.func5, Tryz.ntmps5
  go_wp2_with (go_at_call 8; rw [← hW0.out]; refine HC.out.mono ?_; rintro x w1 ⟨v, rfl, hown, hb1⟩; obtain ⟨A, cap, hv⟩ := (brd_own hown).form; simp only [List.length_cons, List.length_nil, Nat.reduceAdd] at hv; subst hv; have HO := Lib.hid (brd_own hown); have HB1 := Lib.hid (HB0.out.trans (hb1.mono HB0.out.size)); clear hown hb1)
  have hb7 : (w1.alloc (.cells #[.int .u8 1, .int .u8 119, .int .u8 3, .int .u8 1, .int .u8 1, .int .u8 5, .int .u8 5] 5)).heap[w1.heap.size]? = some (.cells #[.int .u8 1, .int .u8 119, .int .u8 3, .int .u8 1, .int .u8 1, .int .u8 5, .int .u8 5] 5 (0, 0)) := heap_alloc_new w1 _
  refine (bequal_any [1, 119, 3, 1, 1, 5, 5] [1, 119, 3, 1, 1, 5, 5] _ _ _ (HO.out.later ((Below.refl _ _).alloc (Nat.le_refl _) _)) (.inr ⟨w1.heap.size, 0, 7, rfl, by simp, by simp only [maxLen]; omega, by simp, fun j hj => ?_⟩)).mono ?_
  · simp only [List.length_cons, List.length_nil] at hj
    rcases (by omega : j = 0 ∨ j = 1 ∨ j = 2 ∨ j = 3 ∨ j = 4 ∨ j = 5 ∨ j = 6) with rfl | rfl | rfl | rfl | rfl | rfl | rfl <;> (simp only [World.cell?, hb7]; rfl)
  rintro x w2 ⟨rfl, hb2⟩
  have HB2 := Lib.hid (HB1.out.trans ((Below.refl w1.heap.size w1).alloc (Nat.le_refl _) (.cells #[.int .u8 1, .int .u8 119, .int .u8 3, .int .u8 1, .int .u8 1, .int .u8 5, .int .u8 5] 5) |>.mono HB1.out.size))
  have HB3 := Lib.hid (HB2.out.trans (hb2.mono HB2.out.size))
  clear hb2 hb7
  go_wp2_with fail
  go_ret
  exact ⟨ret_bool rfl, HB3.out⟩
end Cn
end Go.Proofs.YtcbddebmmaflgaaGreat
