/- batch.Bytes: the walk. -/
import Derived.Test.YtpneejlilgepfaaCnI
namespace Go.Proofs.Ytpneejlilgepfaa
open Go.RowKit
set_option linter.unusedVariables false
set_option linter.unusedSimpArgs false
namespace Cn
open Nm (bitsW ret_int ret_bool)
open Vt (VT Rep BoxAt below_drew Cloned put5 KidsAt HeadOk)
open Ev (EV FieldsOk evCells vCells EBox ERep zeroT take_drop cons_drop)
open Cm (rowOf EvsIn EvsAt EvNew evsSame evSame)
open Bt (BOwn BIn PIn ubytes sb bv concat_any btext_any uint_any)

theorem slice_form {w : World} {base : Nat} {v : Value} {l : List Nat} (h : BOwn w base v l) : ∃ A n cap, v = .slice A n cap := by
  obtain ⟨A, cap, e⟩ := h.read.form
  exact ⟨A, _, cap, e⟩

set_option maxRecDepth 100000 in
set_option maxHeartbeats 4000000 in
theorem bbytes_any (es : List EV) (hl40 : es.length ≤ 1099511627775) (bs : List (List Nat)) (hEB : EvBytes es bs) (hflat : bs.flatten.length ≤ 17592186044416) (f : ByteArray) (at' : Nat) (hat : at' < 18446744073709551616) (A : Option Addr) (cap : Nat) (w : World) (h : EvsIn w A cap es) (hval : bvalid f at' es = true) :
    Calls Try.prog 13 #[.agg #[.string f, .int .u64 at', .slice A es.length cap]] w fun r w' => ∃ v, r = .returned (.tuple #[v, .bool true]) ∧ BOwn w' w.heap.size v (bform f at' es.length bs) ∧ Below w.heap.size w w' := by
  have hfz : f.size ≤ 1000 := by
    unfold bvalid at hval
    simp only [Bool.and_eq_true, decide_eq_true_iff] at hval
    exact hval.1.1.1.2
  obtain ⟨W0, hW0⟩ : ∃ W0, W0 = w.alloc (.cells #[.string f, .int .u64 at', .slice A es.length cap] 25) := ⟨_, rfl⟩
  have hx0 : BB W0 w.heap.size f at' A es.length cap := by rw [hW0]; exact heap_alloc_new w _
  have hb0 : Below w.heap.size w W0 := by rw [hW0]; exact (Below.refl _ _).alloc (Nat.le_refl _) _
  have hz0 : W0.heap.size = w.heap.size + 1 := by rw [hW0]; simp
  have HV := Lib.hid (bvalid_any es f (by simp only [maxLen]; omega) at' hat A cap W0 (h.later hb0))
  rw [hval] at HV
  have HM := Lib.hid fun W (hW : Below W0.heap.size W0 W) => mappedb_any es hl40 bs hEB A cap W ((h.later hb0).later hW)
  have hbl := hEB.1
  obtain ⟨c0, c1, c2, -⟩ := hx0.cells
  have HX0 := Lib.hid hx0; have HB0 := Lib.hid hb0
  have HT := Lib.hid fun W => btext_any f (by omega) W
  have HU := Lib.hid fun W x hx => uint_any x hx W
  have hn64 : es.length < 18446744073709551616 := by omega
  have HWR : Hid (IntKind.u64.wrap (es.length : Int) = (es.length : Int)) := Lib.hid (IntWalk.u64_in _ (by omega))
  have hsum : ([ubytes 10 f.size ++ sb f, ubytes 10 at', ubytes 10 es.length, bs.flatten] : List (List Nat)).flatten.length ≤ 35184372088832 := by
    have h1 := Bt.ubytes_len 10 f.size
    have h2 := Bt.ubytes_len 10 at'
    have h3 := Bt.ubytes_len 10 es.length
    have h4 := Bt.sb_len f
    simp only [List.flatten_cons, List.flatten_nil, List.length_append, List.length_nil]
    omega
  have hlen4 : ([ubytes 10 f.size ++ sb f, ubytes 10 at', ubytes 10 es.length, bs.flatten] : List (List Nat)).length ≤ 35184372088832 := by simp
  have HFL : Hid (([ubytes 10 f.size ++ sb f, ubytes 10 at', ubytes 10 es.length, bs.flatten] : List (List Nat)).flatten = bform f at' es.length bs) := Lib.hid (by simp [bform])
  replace hW0 := Lib.hid hW0
  have HSUM := Lib.hid hsum; have HLEN4 := Lib.hid hlen4; have HFLAT := Lib.hid hflat
  clear h hx0 hb0 hEB hval hsum hlen4 hflat
  go_enter Try.func13, Try.ntmps13
  go_upto_region 1 with fail
  rw [← hW0.out]
  go_wp2_with fail
  refine HV.out.mono ?_
  rintro x w1 ⟨rfl, hb1⟩
  have HB1 := Lib.hid hb1
  obtain ⟨d0, d1, d2, -⟩ := (HX0.out.later hb1 (by omega)).cells
  clear hb1 c0 c1 c2
  go_wp2_with fail
  refine (HM.out _ HB1.out).mono ?_
  rintro x w2 ⟨A2, cap2, rfl, hb2, hrow⟩
  have hb02 : Below W0.heap.size W0 w2 := HB1.out.trans (hb2.mono HB1.out.size)
  have HBW : Hid (Below w.heap.size w w2) := Lib.hid (HB0.out.trans (hb02.mono (by omega)))
  have KS : Hid (∀ W', Below w2.heap.size w2 W' → W'.cell? ⟨w.heap.size, 0, none⟩ = some (.string f) ∧ W'.cell? ⟨w.heap.size, 1, none⟩ = some (.int .u64 at')) := Lib.hid fun W' hW => by
    obtain ⟨z0, z1, -⟩ := (HX0.out.later (hb02.trans (hW.mono hb02.size)) (by omega)).cells
    exact ⟨z0, z1⟩
  have HCC : Hid (∀ W', Below w2.heap.size w2 W' → Calls Try.prog 27 #[.slice A2 es.length cap2] W' fun e w' => ∃ v, e = .returned v ∧ BOwn w' W'.heap.size v bs.flatten ∧ Below W'.heap.size W' w') := Lib.hid fun W' hW => by
    have := concat_any bs A2 cap2 W' (hrow.pin.later hW) (by have := HFLAT.out; omega) (by omega)
    rwa [hbl] at this
  clear hb2 hb02 hrow d0 d1 d2
  go_upto_region 4 with fail
  refine wp_region_noPanic ?_
  refine wp_region_held_drew (S := fun W' : World => W'.cell? ⟨w.heap.size, 0, none⟩ = some (.string f) ∧ W'.cell? ⟨w.heap.size, 1, none⟩ = some (.int .u64 at')) (by kernel_rfl) ?_ (fun hHeld => ?_)
  · exact KS.out _ (below_drew (Below.refl _ _))
  first
    | (refine take_drop (i := 0) (v := ?_) rfl (by kernel_rfl) (by kernel_rfl) (by kernel_rfl) (fun _ _ _ h => h) (Or.inl ⟨by rfl, ?_⟩) (by assumption) ?_; rotate_left 1; (focus (intro w hSw; (try dsimp only at hSw); go_simp; try with_reducible rfl)); try simp only [Act.put, List.setIfInBounds_toArray, List.set_cons_zero, List.set_cons_succ])
    | (refine take_drop (i := 0) (v := undef) rfl (by kernel_rfl) (by kernel_rfl) (by kernel_rfl) (fun _ _ _ h => h) (Or.inr ⟨by rfl, rfl⟩) (by assumption) ?_; try simp only [Act.put, List.setIfInBounds_toArray, List.set_cons_zero, List.set_cons_succ])
  first
    | (refine take_drop (i := 1) (v := ?_) rfl (by kernel_rfl) (by kernel_rfl) (by kernel_rfl) (fun _ _ _ h => h) (Or.inl ⟨by rfl, ?_⟩) (by assumption) ?_; rotate_left 1; (focus (intro w hSw; (try dsimp only at hSw); go_simp; try with_reducible rfl)); try simp only [Act.put, List.setIfInBounds_toArray, List.set_cons_zero, List.set_cons_succ])
    | (refine take_drop (i := 1) (v := undef) rfl (by kernel_rfl) (by kernel_rfl) (by kernel_rfl) (fun _ _ _ h => h) (Or.inr ⟨by rfl, rfl⟩) (by assumption) ?_; try simp only [Act.put, List.setIfInBounds_toArray, List.set_cons_zero, List.set_cons_succ])
  first
    | (refine take_drop (i := 3) (v := ?_) rfl (by kernel_rfl) (by kernel_rfl) (by kernel_rfl) (fun _ _ _ h => h) (Or.inl ⟨by rfl, ?_⟩) (by assumption) ?_; rotate_left 1; (focus (intro w hSw; (try dsimp only at hSw); go_simp; try with_reducible rfl)); try simp only [Act.put, List.setIfInBounds_toArray, List.set_cons_zero, List.set_cons_succ])
    | (refine take_drop (i := 3) (v := undef) rfl (by kernel_rfl) (by kernel_rfl) (by kernel_rfl) (fun _ _ _ h => h) (Or.inr ⟨by rfl, rfl⟩) (by assumption) ?_; try simp only [Act.put, List.setIfInBounds_toArray, List.set_cons_zero, List.set_cons_succ])
  first
    | (refine take_drop (i := 4) (v := ?_) rfl (by kernel_rfl) (by kernel_rfl) (by kernel_rfl) (fun _ _ _ h => h) (Or.inl ⟨by rfl, ?_⟩) (by assumption) ?_; rotate_left 1; (focus (intro w hSw; (try dsimp only at hSw); go_simp; try with_reducible rfl)); try simp only [Act.put, List.setIfInBounds_toArray, List.set_cons_zero, List.set_cons_succ])
    | (refine take_drop (i := 4) (v := undef) rfl (by kernel_rfl) (by kernel_rfl) (by kernel_rfl) (fun _ _ _ h => h) (Or.inr ⟨by rfl, rfl⟩) (by assumption) ?_; try simp only [Act.put, List.setIfInBounds_toArray, List.set_cons_zero, List.set_cons_succ])
  first
    | (refine take_drop (i := 6) (v := ?_) rfl (by kernel_rfl) (by kernel_rfl) (by kernel_rfl) (fun _ _ _ h => h) (Or.inl ⟨by rfl, ?_⟩) (by assumption) ?_; rotate_left 1; (focus (intro w hSw; (try dsimp only at hSw); go_simp; try with_reducible rfl)); try simp only [Act.put, List.setIfInBounds_toArray, List.set_cons_zero, List.set_cons_succ])
    | (refine take_drop (i := 6) (v := undef) rfl (by kernel_rfl) (by kernel_rfl) (by kernel_rfl) (fun _ _ _ h => h) (Or.inr ⟨by rfl, rfl⟩) (by assumption) ?_; try simp only [Act.put, List.setIfInBounds_toArray, List.set_cons_zero, List.set_cons_succ])
  first
    | (refine take_drop (i := 7) (v := ?_) rfl (by kernel_rfl) (by kernel_rfl) (by kernel_rfl) (fun _ _ _ h => h) (Or.inl ⟨by rfl, ?_⟩) (by assumption) ?_; rotate_left 1; (focus (intro w hSw; (try dsimp only at hSw); go_simp; try with_reducible rfl)); try simp only [Act.put, List.setIfInBounds_toArray, List.set_cons_zero, List.set_cons_succ])
    | (refine take_drop (i := 7) (v := undef) rfl (by kernel_rfl) (by kernel_rfl) (by kernel_rfl) (fun _ _ _ h => h) (Or.inr ⟨by rfl, rfl⟩) (by assumption) ?_; try simp only [Act.put, List.setIfInBounds_toArray, List.set_cons_zero, List.set_cons_succ])
  first
    | (refine take_drop (i := 8) (v := ?_) rfl (by kernel_rfl) (by kernel_rfl) (by kernel_rfl) (fun _ _ _ h => h) (Or.inl ⟨by rfl, ?_⟩) (by assumption) ?_; rotate_left 1; (focus (intro w hSw; (try dsimp only at hSw); go_simp; try with_reducible rfl)); try simp only [Act.put, List.setIfInBounds_toArray, List.set_cons_zero, List.set_cons_succ])
    | (refine take_drop (i := 8) (v := undef) rfl (by kernel_rfl) (by kernel_rfl) (by kernel_rfl) (fun _ _ _ h => h) (Or.inr ⟨by rfl, rfl⟩) (by assumption) ?_; try simp only [Act.put, List.setIfInBounds_toArray, List.set_cons_zero, List.set_cons_succ])
  first
    | (refine take_drop (i := 10) (v := ?_) rfl (by kernel_rfl) (by kernel_rfl) (by kernel_rfl) (fun _ _ _ h => h) (Or.inl ⟨by rfl, ?_⟩) (by assumption) ?_; rotate_left 1; (focus (intro w hSw; (try dsimp only at hSw); go_simp; try with_reducible rfl)); try simp only [Act.put, List.setIfInBounds_toArray, List.set_cons_zero, List.set_cons_succ])
    | (refine take_drop (i := 10) (v := undef) rfl (by kernel_rfl) (by kernel_rfl) (by kernel_rfl) (fun _ _ _ h => h) (Or.inr ⟨by rfl, rfl⟩) (by assumption) ?_; try simp only [Act.put, List.setIfInBounds_toArray, List.set_cons_zero, List.set_cons_succ])
  refine wpAnyH_ready (rs := [2]) (by kernel_rfl) (by simp) ?_
  refine cons_drop rfl (fun K hK => ?_) AllReadyH.nil
  go_simp
  refine (HT.out _).mono ?_
  rintro x v1 ⟨b1, rfl, hown, hb⟩
  obtain ⟨A10, n10, c10, rfl⟩ := slice_form hown
  have HB1 : Hid (Below w2.heap.size w2 v1) := Lib.hid (Below.trans (below_drew (Below.refl _ _)) hb)
  have HO1 := Lib.hid hown
  clear hown hb
  go_wp2_with fail
  refine hK.out _ _ (KS.out _ HB1.out) (fun hHeld2 => ?_)
  clear hK K
  try simp only [Act.put, List.setIfInBounds_toArray, List.set_cons_zero, List.set_cons_succ]
  refine wpAnyH_ready (rs := [5]) (by kernel_rfl) (by simp) ?_
  refine cons_drop rfl (fun K hK => ?_) AllReadyH.nil
  go_simp
  refine (HU.out _ _ hat).mono ?_
  rintro x v2 ⟨b2, rfl, hown, hb⟩
  obtain ⟨A20, n20, c20, rfl⟩ := slice_form hown
  have HB2 : Hid (Below w2.heap.size w2 v2) := Lib.hid (HB1.out.trans (hb.mono HB1.out.size))
  have HO2 := Lib.hid hown
  have HI1 := Lib.hid (HO1.out.read.later hb)
  clear hown hb
  go_wp2_with fail
  refine hK.out _ _ (KS.out _ HB2.out) (fun hHeld2 => ?_)
  clear hK K
  try simp only [Act.put, List.setIfInBounds_toArray, List.set_cons_zero, List.set_cons_succ]
  refine wpAnyH_ready (rs := [9]) (by kernel_rfl) (by simp) ?_
  refine cons_drop rfl (fun K hK => ?_) AllReadyH.nil
  go_simp
  rw [HWR.out]
  refine (HU.out _ _ hn64).mono ?_
  rintro x v3 ⟨b3, rfl, hown, hb⟩
  obtain ⟨A30, n30, c30, rfl⟩ := slice_form hown
  have HB3 : Hid (Below w2.heap.size w2 v3) := Lib.hid (HB2.out.trans (hb.mono HB2.out.size))
  have HO3 := Lib.hid hown
  have HJ1 := Lib.hid (HI1.out.later hb)
  have HI2 := Lib.hid (HO2.out.read.later hb)
  clear hown hb
  go_wp2_with fail
  refine hK.out _ _ (KS.out _ HB3.out) (fun hHeld2 => ?_)
  clear hK K
  try simp only [Act.put, List.setIfInBounds_toArray, List.set_cons_zero, List.set_cons_succ]
  refine wpAnyH_ready (rs := [11]) (by kernel_rfl) (by simp) ?_
  refine cons_drop rfl (fun K hK => ?_) AllReadyH.nil
  go_simp
  refine (HCC.out _ HB3.out).mono ?_
  rintro x v4 ⟨b4, rfl, hown, hb⟩
  obtain ⟨A40, n40, c40, rfl⟩ := slice_form hown
  have HB4 : Hid (Below w2.heap.size w2 v4) := Lib.hid (HB3.out.trans (hb.mono HB3.out.size))
  have HO4 := Lib.hid hown
  have HK1 := Lib.hid (HJ1.out.later hb)
  have HK2 := Lib.hid (HI2.out.later hb)
  have HK3 := Lib.hid (HO3.out.read.later hb)
  clear hown hb
  go_wp2_with fail
  refine hK.out _ _ (KS.out _ HB4.out) (fun hHeld2 => ?_)
  clear hK K
  try simp only [Act.put, List.setIfInBounds_toArray, List.set_cons_zero, List.set_cons_succ]
  refine wpAnyH_ready (rs := [12]) (by kernel_rfl) (by simp) ?_
  refine cons_drop rfl (fun K hK => ?_) AllReadyH.nil
  go_simp
  obtain ⟨v5, hv5⟩ : ∃ x, x = v4.alloc (.cells #[.slice A10 n10 c10, .slice A20 n20 c20, .slice A30 n30 c30, .slice A40 n40 c40] 40) := ⟨_, rfl⟩
  rw [← hv5]
  have hb : Below v4.heap.size v4 v5 := by rw [hv5]; exact (Below.refl _ _).alloc (Nat.le_refl _) _
  have hblk : v5.heap[v4.heap.size]? = some (.cells #[.slice A10 n10 c10, .slice A20 n20 c20, .slice A30 n30 c30, .slice A40 n40 c40] 40 (0, 0)) := by rw [hv5]; exact heap_alloc_new v4 _
  have HPI : Hid (PIn v5 (some ⟨v4.heap.size, 0, none⟩) 4 [ubytes 10 f.size ++ sb f, ubytes 10 at', ubytes 10 es.length, bs.flatten]) := Lib.hid ⟨by simp, by simp only [maxLen]; omega, fun _ => ⟨v4.heap.size, 0, rfl, (Array.getElem?_eq_some_iff.1 hblk).1, fun i hi => by
    simp only [List.length_cons, List.length_nil] at hi
    rcases (by omega : i = 0 ∨ i = 1 ∨ i = 2 ∨ i = 3) with rfl | rfl | rfl | rfl
    · exact ⟨.slice A10 n10 c10, by simp [World.cell?, hblk], HK1.out.later hb⟩
    · exact ⟨.slice A20 n20 c20, by simp [World.cell?, hblk], HK2.out.later hb⟩
    · exact ⟨.slice A30 n30 c30, by simp [World.cell?, hblk], HK3.out.later hb⟩
    · exact ⟨.slice A40 n40 c40, by simp [World.cell?, hblk], HO4.out.read.later hb⟩⟩⟩
  have HB5 : Hid (Below w2.heap.size w2 v5) := Lib.hid (HB4.out.trans (hb.mono HB4.out.size))
  have HC5 := Lib.hid (concat_any _ _ _ v5 HPI.out HSUM.out HLEN4.out)
  clear hb hblk
  replace hv5 := Lib.hid hv5
  refine hK.out _ _ (KS.out _ HB5.out) (fun hHeld2 => ?_)
  clear hK K
  try simp only [Act.put, List.setIfInBounds_toArray, List.set_cons_zero, List.set_cons_succ]
  refine wpAnyH_ready (rs := [13]) (by kernel_rfl) (by simp) ?_
  refine cons_drop rfl (fun K hK => ?_) AllReadyH.nil
  go_simp
  refine HC5.out.mono ?_
  rintro x v6 ⟨b6, rfl, hown, hb⟩
  have HB6 : Hid (Below w2.heap.size w2 v6) := Lib.hid (HB5.out.trans (hb.mono HB5.out.size))
  have HO6 := Lib.hid hown
  clear hown hb
  go_wp2_with fail
  refine hK.out _ _ (KS.out _ HB6.out) (fun hHeld2 => ?_)
  clear hK K
  try simp only [Act.put, List.setIfInBounds_toArray, List.set_cons_zero, List.set_cons_succ]
  first
    | (refine take_drop (i := 14) (v := ?_) rfl (by kernel_rfl) (by kernel_rfl) (by kernel_rfl) (fun _ _ _ h => h) (Or.inl ⟨by rfl, ?_⟩) (by assumption) ?_; rotate_left 1; (focus (intro w hSw; (try dsimp only at hSw); go_simp; try with_reducible rfl)); try simp only [Act.put, List.setIfInBounds_toArray, List.set_cons_zero, List.set_cons_succ])
    | (refine take_drop (i := 14) (v := undef) rfl (by kernel_rfl) (by kernel_rfl) (by kernel_rfl) (fun _ _ _ h => h) (Or.inr ⟨by rfl, rfl⟩) (by assumption) ?_; try simp only [Act.put, List.setIfInBounds_toArray, List.set_cons_zero, List.set_cons_succ])
  first
    | (refine take_drop (i := 15) (v := ?_) rfl (by kernel_rfl) (by kernel_rfl) (by kernel_rfl) (fun _ _ _ h => h) (Or.inl ⟨by rfl, ?_⟩) (by assumption) ?_; rotate_left 1; (focus (intro w hSw; (try dsimp only at hSw); go_simp; try with_reducible rfl)); try simp only [Act.put, List.setIfInBounds_toArray, List.set_cons_zero, List.set_cons_succ])
    | (refine take_drop (i := 15) (v := undef) rfl (by kernel_rfl) (by kernel_rfl) (by kernel_rfl) (fun _ _ _ h => h) (Or.inr ⟨by rfl, rfl⟩) (by assumption) ?_; try simp only [Act.put, List.setIfInBounds_toArray, List.set_cons_zero, List.set_cons_succ])
  refine wpAnyH_done (by kernel_rfl) ?_ _
  refine NoPanic.normal ?_
  go_wp2_with fail
  refine bodyPost_ret (v := .tuple #[b6, .bool true]) (by simp [results, Try.results13, go_sem]) rfl ?_
  refine ⟨b6, rfl, ?_, HBW.out.trans (HB6.out.mono HBW.out.size)⟩
  have h6 := HO6.out
  rw [HFL.out] at h6
  exact h6.base (by have := HBW.out.size; have := HB5.out.size; omega)
end Cn
end Go.Proofs.Ytpneejlilgepfaa
