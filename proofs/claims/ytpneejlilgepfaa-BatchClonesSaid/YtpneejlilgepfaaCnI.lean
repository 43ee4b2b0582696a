/- batch.Bytes: rows of byte slices; the walk. -/
import Derived.Test.YtpneejlilgepfaaCnH
import Derived.Test.YtpneejlilgepfaaBtF
namespace Go.Proofs.Ytpneejlilgepfaa
open Go.RowKit
set_option linter.unusedVariables false
set_option linter.unusedSimpArgs false
namespace Cn
open Nm (bitsW ret_int ret_bool)
open Vt (VT Rep BoxAt below_drew Cloned put5 KidsAt HeadOk)
open Ev (EV FieldsOk evCells vCells EBox ERep zeroT take_drop cons_drop)
open Cm (rowOf EvsIn EvsAt EvNew evsSame evSame)
open Bt (BOwn BIn PIn ubytes sb bv concat_any btext_any uint_any)

/-- The forms of events, as contracts. -/
def EvBytes (es : List EV) (bs : List (List Nat)) : Prop := bs.length = es.length ∧ ∀ i (h : i < es.length) (h' : i < bs.length) (lo hi : Nat) (vk vn : Int) (vf : Nat) (vs : ByteArray) (A : Option Addr) (m c : Nat) (w : World), FieldsOk es[i] → Rep w lo hi es[i].v (vCells vk vn vf vs A m c) → hi ≤ w.heap.size →
  Calls Try.prog 26 #[.agg (evCells es[i] vk vn vf vs A m c)] w fun r w' => ∃ v, r = .returned (.tuple #[v, .bool true]) ∧ BOwn w' w.heap.size v bs[i] ∧ Below w.heap.size w w'

set_option maxRecDepth 100000 in
theorem bfn_any (e : EV) (l : List Nat) (vk vn : Int) (vf : Nat) (vs : ByteArray) (A : Option Addr) (m c : Nat) (w : World) (hB : ∀ W, Below w.heap.size w W → Calls Try.prog 26 #[.agg (evCells e vk vn vf vs A m c)] W fun r w' => ∃ v, r = .returned (.tuple #[v, .bool true]) ∧ BOwn w' W.heap.size v l ∧ Below W.heap.size W w') :
    Calls Try.prog 25 #[.agg (evCells e vk vn vf vs A m c)] w fun r w' => ∃ v, r = .returned v ∧ BOwn w' w.heap.size v l ∧ Below w.heap.size w w' := by
  obtain ⟨W0, hW0⟩ : ∃ W0, W0 = w.alloc (.cells (evCells e vk vn vf vs A m c) 35) := ⟨_, rfl⟩
  have hb0 : Below w.heap.size w W0 := by rw [hW0]; exact (Below.refl _ _).alloc (Nat.le_refl _) _
  have hx0 : EBox W0 w.heap.size (evCells e vk vn vf vs A m c) := by rw [hW0]; exact box_ev ..
  have HV := Lib.hid (hB W0 hb0)
  obtain ⟨g0, g1, g2, g3, g4, g5, g6, g7, g8, g9, g10⟩ := EBox.cells hx0
  have HB0 := Lib.hid hb0
  clear hB hx0 hb0
  unfold evCells at HV hW0 ⊢
  replace hW0 := Lib.hid hW0
  go_enter Try.func25, Try.ntmps25
  go_upto_region 1 with fail
  rw [← hW0.out]
  go_wp2_with fail
  refine HV.out.mono ?_
  rintro x w1 ⟨v, rfl, ho, hb1⟩
  have HO := Lib.hid (ho.base HB0.out.size)
  have HB1 := Lib.hid (HB0.out.trans (hb1.mono HB0.out.size))
  clear hb1 ho g0 g1 g2 g3 g4 g5 g6 g7 g8 g9 g10
  go_wp2_with fail
  go_ret
  exact ⟨v, rfl, HO.out, HB1.out⟩

/-- A row of byte slices of the call's own; each slice lies apart from the row. -/
def PRow (w : World) (base : Nat) (A : Option Addr) (cap n : Nat) (ls : List (List Nat)) : Prop := ls.length = n ∧ ∃ xs, w.ownsRow base 40 1 (.slice A n cap) n xs ∧ ∀ i (h : i < ls.length), ∃ v, xs[i]? = some v ∧ BIn w v ls[i] ∧ ∀ k, v.ownBlock = some k → rowOf A ≠ some k

theorem prow_nil (w : World) (base : Nat) : PRow w base none 0 0 [] := ⟨rfl, [], ⟨rfl, .inl ⟨rfl, rfl⟩⟩, fun i h => absurd h (by simp)⟩
theorem bin_block {w : World} {v : Value} {l : List Nat} (h : BIn w v l) : ∀ k, v.ownBlock = some k → k < w.heap.size := by
  intro k hk
  rcases h with ⟨rfl, -⟩ | ⟨ad, cap, rfl, h1, h2, h3, h4⟩
  · cases hk
  · cases hk; exact h3
theorem bin_keep {w w' : World} {v : Value} {l : List Nat} (h : BIn w v l) (hz : w.heap.size ≤ w'.heap.size) (hk : ∀ k, v.ownBlock = some k → w'.heap[k]? = w.heap[k]?) : BIn w' v l := by
  rcases h with h | ⟨ad, cap, rfl, h1, h2, h3, h4⟩
  · exact .inl h
  · exact .inr ⟨ad, cap, rfl, h1, h2, Nat.lt_of_lt_of_le h3 hz, fun j u hu => (World.cell?_of_block (a := ad.add j) (by rw [Bt.block_add]; exact hk _ rfl)).trans (h4 j u hu)⟩
theorem PRow.pin {w : World} {base : Nat} {A : Option Addr} {cap n : Nat} {ls : List (List Nat)} (h : PRow w base A cap n ls) : PIn w A cap ls := by
  obtain ⟨rfl, xs, h1, h3⟩ := h
  rcases h1.2 with ⟨hv, h0⟩ | ⟨r, cp, cur, q1, q2, q3, q4, q5, q6, q7⟩
  · injection hv with hA hn hc
    exact ⟨by omega, by rw [hc]; exact Nat.zero_le _, fun hp => absurd hp (by omega)⟩
  · injection q1 with hA hn hc
    subst hc
    refine ⟨q4, q5, fun hp => ⟨r, 0, hA, (Array.getElem?_eq_some_iff.1 q3).1, fun i hi => ?_⟩⟩
    obtain ⟨v, k1, k2, -⟩ := h3 i hi
    refine ⟨v, ?_, k2⟩
    rw [← k1, ← q7, List.getElem?_take_of_lt (by omega), Array.getElem?_toList]
    simp [World.cell?, q3]
theorem PRow.push {W w' : World} {base r H : Nat} {A : Option Addr} {cap cap' n : Nat} {ls : List (List Nat)} {l : List Nat} {xs : List Value} {v : Value}
    (hlen : ls.length = n) (hlx : xs.length = n) (hx : ∀ i (h : i < ls.length), ∃ v, xs[i]? = some v ∧ BIn W v ls[i] ∧ ∀ k, v.ownBlock = some k → rowOf A ≠ some k) (hv : BIn W v l) (hrr : ∀ k, v.ownBlock = some k → rowOf A ≠ some k)
    (hown : w'.ownsRow base 40 1 (.slice (some ⟨r, 0, none⟩) (n + 1) cap') (n + 1) (xs ++ [v])) (hgrow : W.grownBy w' (rowOf A)) (hat : rowOf A = some r ∨ r = H) (hH : W.heap.size ≤ H) :
    PRow w' base (some ⟨r, 0, none⟩) cap' (n + 1) (ls ++ [l]) := by
  have key : ∀ (v : Value) (l : List Nat), BIn W v l → (∀ k, v.ownBlock = some k → rowOf A ≠ some k) → BIn w' v l ∧ ∀ k, v.ownBlock = some k → rowOf (some ⟨r, 0, none⟩) ≠ some k := fun v l h1 h2 => by
    refine ⟨bin_keep h1 hgrow.size (fun k hk => hgrow.block k (bin_block h1 k hk) (fun e => h2 k hk e.symm)), fun k hk e => ?_⟩
    obtain rfl : r = k := Option.some.inj e
    rcases hat with h | h
    · exact h2 r hk h
    · have := bin_block h1 r hk; omega
  refine ⟨by simp [hlen], _, hown, fun i hil => ?_⟩
  simp at hil
  by_cases hlt : i < ls.length
  · rw [List.getElem_append_left hlt]
    obtain ⟨u, k1, k2, k3⟩ := hx i hlt
    obtain ⟨z1, z2⟩ := key u _ k2 k3
    exact ⟨u, (List.getElem?_append_left (by omega)).trans k1, z1, z2⟩
  · obtain rfl : i = ls.length := by omega
    rw [List.getElem_append_right (Nat.le_refl _)]
    simp only [Nat.sub_self, List.getElem_cons_zero]
    obtain ⟨z1, z2⟩ := key v _ hv hrr
    exact ⟨v, by rw [List.getElem?_append_right (by omega), hlx, hlen, Nat.sub_self]; rfl, z1, z2⟩

theorem Try.infoY : (Try.prog.info? 40).map (fun i => (i.zero, i.size, i.bytes)) = some (some (.slice none 0 0), 1, 24) := by kernel_rfl

theorem slice_one {w : World} {v : Value} {l : List Nat} (h : BIn w v l) : v.oneCell' = true := by
  rcases h with ⟨rfl, -⟩ | ⟨ad, cap, rfl, -⟩ <;> rfl

set_option maxRecDepth 100000 in
set_option maxHeartbeats 2000000 in
theorem mappedb_any (es : List EV) (hl40 : es.length ≤ 1099511627775) (bs : List (List Nat)) (hEB : EvBytes es bs) (A : Option Addr) (cap : Nat) (w : World) (h : EvsIn w A cap es) :
    Calls Try.prog 24 #[.slice A es.length cap, .func (.func 25) #[] #[]] w fun r w' => ∃ A2 cap2, r = .returned (.slice A2 es.length cap2) ∧ Below w.heap.size w w' ∧ PRow w' w.heap.size A2 cap2 es.length bs := by
  have hl := h.le
  have hc := h.cap_le
  simp only [maxLen] at hc
  obtain ⟨i0, hi0, hz0, hz1, hz2⟩ := info_parts Try.infoY
  have HK := Lib.hid h; clear h
  have hbl := hEB.1
  have HE := Lib.hid hEB.2
  clear hEB
  go_enter Try.func24, Try.ntmps24
  go_wp2_with fail
  go_loopw [5, 10] (fun out i wr => ∃ (j : Nat) (A2 : Option Addr) (cap2 : Nat), j ≤ es.length ∧ i = .int .i64 j ∧ out = .slice A2 j cap2 ∧ PRow wr w.heap.size A2 cap2 j (bs.take j) ∧ Below w.heap.size w wr) (fun _ i _ => es.length - (intOf i).toNat)
  case atStart => exact ⟨0, none, 0, by omega, rfl, rfl, by simpa using prow_nil w w.heap.size, Below.refl _ _⟩
  case round =>
    obtain ⟨j, A2, cap2, hj, rfl, rfl, hrow, hb⟩ := hrel
    by_cases hlt : j < es.length
    · obtain ⟨b, off, lo, hi, vk, vn, vf, vs, A', m, c, rfl, hbl', hf, hv0, hhi0, e0, e1, e2, e3, e4, e5, e6, e7, e8, e9, e10⟩ := HK.out.get j hlt
      have HB := Lib.hid hb
      have hbs := hb.size
      have hcw : ∀ o, wr.cell? ⟨b, o, none⟩ = w.cell? ⟨b, o, none⟩ := fun o => HB.out.cell (p := ⟨b, o, none⟩) hbl'
      have d0 := (hcw _).trans e0; have d1 := (hcw _).trans e1; have d2 := (hcw _).trans e2; have d3 := (hcw _).trans e3; have d4 := (hcw _).trans e4; have d5 := (hcw _).trans e5; have d6 := (hcw _).trans e6; have d7 := (hcw _).trans e7; have d8 := (hcw _).trans e8; have d9 := (hcw _).trans e9; have d10 := (hcw _).trans e10
      have hv := hv0.later (HB.out.mono hhi0)
      have hhi : hi ≤ wr.heap.size := Nat.le_trans hhi0 hbs
      clear e0 e1 e2 e3 e4 e5 e6 e7 e8 e9 e10 hcw hv0 hb
      obtain ⟨W1, hW1⟩ : ∃ W1, W1 = wr.alloc (.cells (evCells es[j] vk vn vf vs A' m c) 35) := ⟨_, rfl⟩
      have hb1 : Below wr.heap.size wr W1 := by rw [hW1]; exact (Below.refl _ _).alloc (Nat.le_refl _) _
      have hx1 : EBox W1 wr.heap.size (evCells es[j] vk vn vf vs A' m c) := by rw [hW1]; exact box_ev ..
      obtain ⟨g0, g1, g2, g3, g4, g5, g6, g7, g8, g9, g10⟩ := EBox.cells hx1
      have hjb : j < bs.length := by omega
      have HC := Lib.hid (bfn_any es[j] bs[j] vk vn vf vs A' m c W1 (fun W hW => HE.out j hlt hjb lo hi vk vn vf vs A' m c W hf ((hv.later (hb1.mono hhi)).later (hW.mono (Nat.le_trans hhi hb1.size))) (Nat.le_trans hhi (Nat.le_trans hb1.size hW.size))))
      have HF := Lib.hid hf; have HB1 := Lib.hid hb1
      obtain ⟨hlen, xs, hxo, hxe⟩ := hrow
      have hlx : xs.length = j := by have := hxo.1; omega
      have HOWN : Hid (∀ W, Below wr.heap.size wr W → W.ownsRow w.heap.size 40 1 (.slice A2 j cap2) j xs) := Lib.hid fun W hW => own_keep hxo hW
      have HRO := Lib.hid (own_lt hxo)
      have HXE := Lib.hid hxe
      unfold evCells at HC hW1
      replace hW1 := Lib.hid hW1
      clear hxe hxo hf hv hx1 hb1
      go_upto_region 5 with fail
      rw [← hW1.out]
      clear d0 d1 d2 d3 d4 d5 d6 d7 d8 d9 d10
      go_wp2_with fail
      refine HC.out.mono ?_
      rintro x w2 ⟨v, rfl, ho, hb2⟩
      obtain ⟨Av, cv, rfl⟩ := ho.read.form
      generalize hnb : bs[j].length = nb at *
      obtain ⟨v, hv⟩ : ∃ v, v = Value.slice Av nb cv := ⟨_, rfl⟩
      rw [← hv] at ho
      have HVV := Lib.hid hv
      clear hnb
      have HB2 : Hid (Below wr.heap.size wr w2) := Lib.hid (HB1.out.trans (hb2.mono HB1.out.size))
      have h1c := slice_one ho.read
      obtain ⟨W4, hW4⟩ : ∃ W4, W4 = w2.alloc (.cells #[v] 40) := ⟨_, rfl⟩
      have hW4' := hW4
      rw [hv] at hW4'
      have K1 : Hid (Below wr.heap.size wr W4) := Lib.hid (by rw [hW4]; exact HB2.out.alloc HB2.out.size _)
      have K2 : Hid (∀ q u, [v][q]? = some u → W4.cell? ((⟨w2.heap.size, 0, none⟩ : Addr).add q) = some u) := Lib.hid (World.news_of_block (cs := #[v]) (t := 40) (fr := (0, 0)) (by rw [hW4]; exact heap_alloc_new w2 _))
      have K3 : Hid (BIn W4 v bs[j]) := Lib.hid (by rw [hW4]; exact ho.read.later ((Below.refl _ _).alloc (Nat.le_refl _) _))
      have K4 : Hid (∀ k, v.ownBlock = some k → rowOf A2 ≠ some k) := Lib.hid fun k hk e => by
        have h1 := ho.row_ge k hk
        have h2 := (HRO.out k e).1
        have h3 := HB1.out.size
        omega
      have KO := Lib.hid (HOWN.out _ K1.out)
      have hbs4 := Nat.le_trans hbs K1.out.size
      have hw1s := HB1.out.size
      replace hW4 := Lib.hid hW4'
      rw [hv] at K2 h1c
      clear hW4' hv
      clear ho hb2 g0 g1 g2 g3 g4 g5 g6 g7 g8 g9 g10
      go_wp2_with (at_builtin; rw [← hW4.out]; refine wpList_append_lies _ rfl _ _ 51 rfl w.heap.size 40 i0 _ 1 24 Try.underlying51 hi0 hz0 hz1 hz2 rfl (by decide) (.slice A2 j cap2) j xs rfl KO.out ⟨w2.heap.size, 0, none⟩ 1 1 [.slice Av nb cv] rfl rfl K2.out (by intro u hu; rw [List.mem_singleton.1 hu]; exact h1c) (by decide) (by simp only [maxLen]; omega) (by omega) hbs4 _ rfl ?_; intro r2 cap4 w5 hown5 hgrow5 hat5 hrl5)
      rw [Cm.rowOf_own] at hgrow5 hat5
      rw [← HVV.out] at hown5
      have HP : Hid (PRow w5 w.heap.size (some ⟨r2, 0, none⟩) cap4 (j + 1) (bs.take (j + 1))) := Lib.hid (by
        rw [List.take_succ_eq_append_getElem hjb]
        exact PRow.push (cap := 0) (H := W4.heap.size) hlen hlx (fun i h => by
          obtain ⟨u, k1, k2, k3⟩ := HXE.out i h
          exact ⟨u, k1, k2.later K1.out, k3⟩) K3.out K4.out hown5 hgrow5 hat5 (Nat.le_refl _))
      have HB5 : Hid (Below w.heap.size w w5) := Lib.hid ((HB.out.trans (K1.out.mono hbs)).trans ⟨hgrow5.os, hgrow5.tape, hgrow5.output, hgrow5.size, fun b hb => hgrow5.block b (by omega) (fun e => by have := (HRO.out b e.symm).2; omega)⟩)
      clear hown5 hgrow5 hat5
      exact ⟨⟨j + 1, _, cap4, by omega, by go_num, rfl, HP.out, HB5.out⟩, by simp [intOf]; omega⟩
    · have hj' : j = es.length := by omega
      subst hj'
      rw [List.take_of_length_le (by omega)] at hrow
      have HE := Lib.hid hrow; have HB := Lib.hid hb
      clear hrow hb
      go_wp2_with fail
      go_ret
      exact ⟨A2, cap2, rfl, HB.out, HE.out⟩

/-- The form of a batch. -/
def bform (f : ByteArray) (at' n : Nat) (bs : List (List Nat)) : List Nat := (ubytes 10 f.size ++ sb f) ++ (ubytes 10 at' ++ (ubytes 10 n ++ bs.flatten))

theorem bbytes_no (es : List EV) (f : ByteArray) (hfs : f.size ≤ maxLen) (at' : Nat) (hat : at' < 18446744073709551616) (A : Option Addr) (cap : Nat) (w : World) (h : EvsIn w A cap es) (hval : bvalid f at' es = false) :
    Calls Try.prog 13 #[.agg #[.string f, .int .u64 at', .slice A es.length cap]] w fun r w' => r = .returned (.tuple #[.slice none 0 0, .bool false]) ∧ Below w.heap.size w w' := by
  obtain ⟨W0, hW0⟩ : ∃ W0, W0 = w.alloc (.cells #[.string f, .int .u64 at', .slice A es.length cap] 25) := ⟨_, rfl⟩
  have hx0 : BB W0 w.heap.size f at' A es.length cap := by rw [hW0]; exact heap_alloc_new w _
  have hb0 : Below w.heap.size w W0 := by rw [hW0]; exact (Below.refl _ _).alloc (Nat.le_refl _) _
  have HV := Lib.hid (bvalid_any es f hfs at' hat A cap W0 (h.later hb0))
  rw [hval] at HV
  obtain ⟨c0, c1, c2, -⟩ := hx0.cells
  have HB0 := Lib.hid hb0
  replace hW0 := Lib.hid hW0
  clear h hx0 hb0
  go_enter Try.func13, Try.ntmps13
  go_upto_region 1 with fail
  rw [← hW0.out]
  go_wp2_with fail
  refine HV.out.mono ?_
  rintro x w1 ⟨rfl, hb1⟩
  have HB1 := Lib.hid (HB0.out.trans (hb1.mono HB0.out.size))
  clear hb1
  go_wp2_with fail
  exact bodyPost_ret (v := .tuple #[.slice none 0 0, .bool false]) (by simp [results, Try.results13, go_sem]) rfl ⟨rfl, HB1.out⟩

end Cn
end Go.Proofs.Ytpneejlilgepfaa
