/- told and Explain: the program's and the reference's. -/
/- CommandMatches of what came in. -/
import Derived.Test.YtjfhnkhabipbdaaGreatDoorMjau
import Derived.Test.YtjfhnkhabipbdaaGreatDoorMjav
import Derived.Test.YtjfhnkhabipbdaaGreatDoorMjai
import Derived.Test.YtjfhnkhabipbdaaGreatDoorMjam
namespace Go.Proofs.YtjfhnkhabipbdaaGreatDoor
open Go.RowKit
set_option linter.unusedVariables false
set_option linter.unusedSimpArgs false
namespace Mc
open _root_.Go.Proofs.YtjfhnkhabipbdaaGreatDoor.Nm (ret_int ret_bool)
open Vt (VT Rep below_drew)
open Ev (EV FieldsOk evCells vCells EBox ERep)
open Cm (evSame EvsIn)
open Vf (TB KT etextB)

/-- What is told of where two lists differ. -/
def explB (a b : List EV) (n : Int) : ByteArray := if n < 0 then ⟨#[]⟩ else ⟨#[101, 118, 101, 110, 116, 32]⟩ ++ ⟨(Lib.decDigits n.toNat).toArray⟩ ++ ⟨#[58, 32]⟩ ++ toldB a n.toNat ++ ⟨#[44, 32, 110, 111, 116, 32]⟩ ++ toldB b n.toNat
theorem told_len {l : List EV} (h : ∀ e ∈ l, e.valid = true → (Vf.etext e).length ≤ 30000) (i : Nat) : (toldB l i).size ≤ 40000 := by
  unfold toldB
  split
  · rename_i hi
    split
    · rename_i hv
      have := h _ (List.getElem_mem hi) hv
      have e : (etextB l[i]).size = (Vf.etext l[i]).length := by unfold etextB; exact Rg.bs_size _
      omega
    · decide
  · decide
set_option maxRecDepth 100000 in
theorem ptold_any (l : List EV) (hfew : ∀ e ∈ l, e.v.few = true) (i : Nat) (hi9 : i ≤ 1000000) (A : Option Addr) (cap : Nat) (w : World) (h : EvsIn w A cap l) (ht : TB w) :
    Calls Tryz.prog 17 #[.slice A l.length cap, .int .i64 (i : Nat)] w fun r w' => r = .returned (.string (toldB l i)) ∧ Below w.heap.size w w' := by
  have hle := h.le
  have hc := h.cap_le
  simp only [maxLen] at hc
  by_cases hi0 : i < l.length
  · have k1 : decide (i < l.length) = true := decide_eq_true hi0
    obtain ⟨b, off, lo, hi, vk, vn, vf, vs, A1, m, c, rfl, hblt, hf, hv, hz, d0, d1, d2, d3, d4, d5, d6, d7, d8, d9, d10⟩ := h.get i hi0
    have HV := Lib.hid (Ev.evalid_any l[i] w lo hi _ ⟨hf, vk, vn, vf, vs, A1, m, c, rfl, hv⟩ hz)
    have HTX : Hid (l[i].valid = true → ∀ w1, Below w.heap.size w w1 → Calls Tryz.prog 29 #[.agg (evCells l[i] vk vn vf vs A1 m c)] w1 fun r w' => r = .returned (.string (etextB l[i])) ∧ Below w1.heap.size w1 w') := Lib.hid fun hval w1 hb1 => (Vf.etext_any l[i] hval hf (hfew _ (List.getElem_mem hi0)) lo hi vk vn vf vs A1 m c w1 (hv.later (hb1.mono hz)) (Nat.le_trans hz hb1.size) (ht.later hb1))
    have HTD : Hid (toldB l i = if l[i].valid = true then etextB l[i] else ⟨#[110, 111, 110, 101]⟩) := Lib.hid (by unfold toldB; rw [dif_pos hi0])
    have HD : Hid (∀ W, Below w.heap.size w W → ∀ q, W.cell? ⟨b, q, none⟩ = w.cell? ⟨b, q, none⟩) := Lib.hid fun W hW q => hW.cell (p := ⟨b, q, none⟩) hblt
    clear hf hv
    cases hval : l[i].valid with
    | true =>
      rw [hval] at HV HTD
      have HT := Lib.hid (HTX.out hval)
      clear hval
      unfold evCells at HV HT
      go_enter Tryz.func17, Tryz.ntmps17
      go_wp2_with fail
      refine HV.out.mono ?_
      rintro x w1 ⟨rfl, hb1⟩
      have HB1 := Lib.hid hb1
      have k0 := (HD.out w1 hb1 (off + i * 11)).trans d0; have q1 := (HD.out w1 hb1 (off + i * 11 + 1)).trans d1; have k2 := (HD.out w1 hb1 (off + i * 11 + 2)).trans d2; have k3 := (HD.out w1 hb1 (off + i * 11 + 3)).trans d3; have k4 := (HD.out w1 hb1 (off + i * 11 + 4)).trans d4; have k5 := (HD.out w1 hb1 (off + i * 11 + 5)).trans d5
      have k6 := (HD.out w1 hb1 (off + i * 11 + 6)).trans d6; have k7 := (HD.out w1 hb1 (off + i * 11 + 7)).trans d7; have k8 := (HD.out w1 hb1 (off + i * 11 + 8)).trans d8; have k9 := (HD.out w1 hb1 (off + i * 11 + 9)).trans d9; have k10 := (HD.out w1 hb1 (off + i * 11 + 10)).trans d10
      clear hb1 d0 d1 d2 d3 d4 d5 d6 d7 d8 d9 d10
      go_wp2_with fail
      refine (HT.out w1 HB1.out).mono ?_
      rintro x w2 ⟨rfl, hb2⟩
      have HB2 := Lib.hid (HB1.out.trans (hb2.mono HB1.out.size))
      clear hb2
      go_wp2_with fail
      go_ret
      exact ⟨congrArg (fun x => Ending.returned (Value.string x)) HTD.out.symm, HB2.out⟩
    | false =>
      rw [hval] at HV HTD
      clear hval
      unfold evCells at HV
      go_enter Tryz.func17, Tryz.ntmps17
      go_wp2_with fail
      refine HV.out.mono ?_
      rintro x w1 ⟨rfl, hb1⟩
      have HB1 := Lib.hid hb1
      clear hb1 d0 d1 d2 d3 d4 d5 d6 d7 d8 d9 d10
      go_wp2_with fail
      go_ret
      exact ⟨congrArg (fun x => Ending.returned (Value.string x)) HTD.out.symm, HB1.out⟩
  · have k1 : decide (i < l.length) = false := decide_eq_false hi0
    have HTD : Hid (toldB l i = ⟨#[110, 111, 110, 101]⟩) := Lib.hid (by unfold toldB; rw [dif_neg hi0])
    go_enter Tryz.func17, Tryz.ntmps17
    go_wp2_with fail
    go_ret
    exact ⟨congrArg (fun x => Ending.returned (Value.string x)) HTD.out.symm, Below.refl _ _⟩

set_option maxRecDepth 100000 in
theorem rtold_any (l : List EV) (hfew : ∀ e ∈ l, e.v.few = true) (i : Nat) (hi9 : i ≤ 1000000) (A : Option Addr) (cap : Nat) (w : World) (h : EvsIn w A cap l) :
    Calls Tryz.prog 19 #[.slice A l.length cap, .int .i64 (i : Nat)] w fun r w' => r = .returned (.string (toldB l i)) ∧ Below w.heap.size w w' := by
  have hle := h.le
  have hc := h.cap_le
  simp only [maxLen] at hc
  by_cases hi0 : i < l.length
  · have k1 : decide (l.length ≤ i) = false := decide_eq_false (by omega)
    obtain ⟨b, off, lo, hi, vk, vn, vf, vs, A1, m, c, rfl, hblt, hf, hv, hz, d0, d1, d2, d3, d4, d5, d6, d7, d8, d9, d10⟩ := h.get i hi0
    have HV := Lib.hid (Rd.rvalid_all l[i] lo hi vk vn vf vs A1 m c w hv hz)
    have HTX : Hid (l[i].valid = true → ∀ w1, Below w.heap.size w w1 → Calls Tryz.prog 32 #[.agg (evCells l[i] vk vn vf vs A1 m c)] w1 fun r w' => r = .returned (.string (etextB l[i])) ∧ Below w1.heap.size w1 w') := Lib.hid fun hval w1 hb1 => (Rg.retext_any l[i] hval hf (hfew _ (List.getElem_mem hi0)) lo hi vk vn vf vs A1 m c w1 (hv.later (hb1.mono hz)) (Nat.le_trans hz hb1.size))
    have HTD : Hid (toldB l i = if l[i].valid = true then etextB l[i] else ⟨#[110, 111, 110, 101]⟩) := Lib.hid (by unfold toldB; rw [dif_pos hi0])
    have HD : Hid (∀ W, Below w.heap.size w W → ∀ q, W.cell? ⟨b, q, none⟩ = w.cell? ⟨b, q, none⟩) := Lib.hid fun W hW q => hW.cell (p := ⟨b, q, none⟩) hblt
    clear hf hv
    cases hval : l[i].valid with
    | true =>
      rw [hval] at HV HTD
      have HT := Lib.hid (HTX.out hval)
      clear hval
      unfold evCells at HV HT
      go_enter Tryz.func19, Tryz.ntmps19
      go_wp2_with fail
      refine HV.out.mono ?_
      rintro x w1 ⟨rfl, hb1⟩
      have HB1 := Lib.hid hb1
      have k0 := (HD.out w1 hb1 (off + i * 11)).trans d0; have q1 := (HD.out w1 hb1 (off + i * 11 + 1)).trans d1; have k2 := (HD.out w1 hb1 (off + i * 11 + 2)).trans d2; have k3 := (HD.out w1 hb1 (off + i * 11 + 3)).trans d3; have k4 := (HD.out w1 hb1 (off + i * 11 + 4)).trans d4; have k5 := (HD.out w1 hb1 (off + i * 11 + 5)).trans d5
      have k6 := (HD.out w1 hb1 (off + i * 11 + 6)).trans d6; have k7 := (HD.out w1 hb1 (off + i * 11 + 7)).trans d7; have k8 := (HD.out w1 hb1 (off + i * 11 + 8)).trans d8; have k9 := (HD.out w1 hb1 (off + i * 11 + 9)).trans d9; have k10 := (HD.out w1 hb1 (off + i * 11 + 10)).trans d10
      clear hb1 d0 d1 d2 d3 d4 d5 d6 d7 d8 d9 d10
      go_wp2_with fail
      refine (HT.out w1 HB1.out).mono ?_
      rintro x w2 ⟨rfl, hb2⟩
      have HB2 := Lib.hid (HB1.out.trans (hb2.mono HB1.out.size))
      clear hb2
      go_wp2_with fail
      go_ret
      exact ⟨congrArg (fun x => Ending.returned (Value.string x)) HTD.out.symm, HB2.out⟩
    | false =>
      rw [hval] at HV HTD
      clear hval
      unfold evCells at HV
      go_enter Tryz.func19, Tryz.ntmps19
      go_wp2_with fail
      refine HV.out.mono ?_
      rintro x w1 ⟨rfl, hb1⟩
      have HB1 := Lib.hid hb1
      clear hb1 d0 d1 d2 d3 d4 d5 d6 d7 d8 d9 d10
      go_wp2_with fail
      go_ret
      exact ⟨congrArg (fun x => Ending.returned (Value.string x)) HTD.out.symm, HB1.out⟩
  · have k1 : decide (l.length ≤ i) = true := decide_eq_true (by omega)
    have HTD : Hid (toldB l i = ⟨#[110, 111, 110, 101]⟩) := Lib.hid (by unfold toldB; rw [dif_neg hi0])
    go_enter Tryz.func19, Tryz.ntmps19
    go_wp2_with fail
    go_ret
    exact ⟨congrArg (fun x => Ending.returned (Value.string x)) HTD.out.symm, Below.refl _ _⟩

set_option maxRecDepth 100000 in
set_option maxHeartbeats 1000000 in
theorem pexplain_any (a b : List EV) (ha : a.length ≤ 60) (hb : b.length ≤ 60) (fa : ∀ e ∈ a, e.v.few = true) (fb : ∀ e ∈ b, e.v.few = true) (la : ∀ i, (toldB a i).size ≤ 40000) (lb : ∀ i, (toldB b i).size ≤ 40000) (A A' : Option Addr) (cap cap' : Nat) (w : World) (h : EvsIn w A cap a) (h' : EvsIn w A' cap' b) (ht : TB w) (n : Int) (hn : MatchIs a b n) :
    Calls Tryz.prog 8 #[.slice A a.length cap, .slice A' b.length cap'] w fun r w' => r = .returned (.string (explB a b n)) ∧ Below w.heap.size w w' := by
  have HM := Lib.hid (pmatch_any a b A A' cap cap' w h h')
  have HN0 := Lib.hid hn
  have HT : Hid (∀ W, Below w.heap.size w W → TB W) := Lib.hid fun W hW => ht.later hW
  have HA : Hid (∀ k : Nat, k ≤ 1000000 → ∀ W, Below w.heap.size w W → Calls Tryz.prog 17 #[.slice A a.length cap, .int .i64 (k : Nat)] W fun r w' => r = .returned (.string (toldB a k)) ∧ Below W.heap.size W w') := Lib.hid fun k hk W hW => ptold_any a fa k hk A cap W (h.later hW) (HT.out W hW)
  have HB : Hid (∀ k : Nat, k ≤ 1000000 → ∀ W, Below w.heap.size w W → Calls Tryz.prog 17 #[.slice A' b.length cap', .int .i64 (k : Nat)] W fun r w' => r = .returned (.string (toldB b k)) ∧ Below W.heap.size W w') := Lib.hid fun k hk W hW => ptold_any b fb k hk A' cap' W (h'.later hW) (HT.out W hW)
  clear h h' fa fb
  rcases match_lo hn with rfl | ⟨k, rfl, hka, hkb⟩
  · go_enter Tryz.func8, Tryz.ntmps8
    go_wp2_with fail
    refine HM.out.mono ?_
    intro x w1 hm
    obtain ⟨n', rfl, hn', hb1⟩ := hm
    obtain rfl := match_one hn' HN0.out
    have HB1 := Lib.hid hb1
    clear hb1 hn' hn
    go_wp2_with fail
    go_ret
    exact ⟨rfl, HB1.out⟩
  · have hk0 : ¬ ((k : Int) < 0) := by omega
    have k1 : decide ((k : Int) < 0) = false := decide_eq_false hk0
    obtain ⟨P, hP⟩ : ∃ P : ByteArray, P = ⟨(Lib.decDigits k).toArray⟩ := ⟨_, rfl⟩
    have hps : P.size ≤ 21 := by rw [hP]; exact Vf.dec_len k (by omega)
    have HN : Hid (∀ W, Below w.heap.size w W → Calls Tryz.prog 16 #[.int .i64 (k : Nat)] W fun r w' => r = .returned (.string P) ∧ Below W.heap.size W w') := Lib.hid fun W hW => by
      have := Fu.itoa_any (k : Int) (by omega) (by omega) W (HT.out W hW).pow
      rw [show Lib.itoa (k : Int) = Lib.decDigits k from Rg.itoa_pos (by omega)] at this
      rw [hP]; exact this
    have HTA := Lib.hid (HA.out k (by omega)); have HTB := Lib.hid (HB.out k (by omega))
    have HE : Hid (explB a b (k : Int) = ⟨#[101, 118, 101, 110, 116, 32]⟩ ++ P ++ ⟨#[58, 32]⟩ ++ toldB a k ++ ⟨#[44, 32, 110, 111, 116, 32]⟩ ++ toldB b k) := Lib.hid (by unfold explB; rw [if_neg hk0, hP]; rfl)
    have h1 := la k; have h2 := lb k
    generalize toldB a k = T1 at *
    generalize toldB b k = T2 at *
    have z1 : ¬ (9223372036854775807 < 6 + P.size) := by omega
    have z2 : ¬ (9223372036854775807 < 6 + P.size + 2) := by omega
    have z3 : ¬ (9223372036854775807 < 6 + P.size + 2 + T1.size) := by omega
    have z4 : ¬ (9223372036854775807 < 6 + P.size + 2 + T1.size + 6) := by omega
    have z5 : ¬ (9223372036854775807 < 6 + P.size + 2 + T1.size + 6 + T2.size) := by omega
    clear hP h1 h2 hps la lb
    go_enter Tryz.func8, Tryz.ntmps8
    go_wp2_with fail
    refine HM.out.mono ?_
    intro x w1 hm
    obtain ⟨n', rfl, hn', hb1⟩ := hm
    obtain rfl := match_one hn' HN0.out
    have HB1 := Lib.hid hb1
    clear hb1 hn' hn
    go_wp2_with fail
    refine (HN.out w1 HB1.out).mono ?_
    rintro x w2 ⟨rfl, hb2⟩
    have HB2 := Lib.hid (HB1.out.trans (hb2.mono HB1.out.size))
    clear hb2
    go_wp2_with fail
    refine (HTA.out w2 HB2.out).mono ?_
    rintro x w3 ⟨rfl, hb3⟩
    have HB3 := Lib.hid (HB2.out.trans (hb3.mono HB2.out.size))
    clear hb3
    go_wp2_with fail
    refine (HTB.out w3 HB3.out).mono ?_
    rintro x w4 ⟨rfl, hb4⟩
    have HB4 := Lib.hid (HB3.out.trans (hb4.mono HB3.out.size))
    clear hb4
    go_wp2_with fail
    go_ret
    exact ⟨congrArg (fun x => Ending.returned (Value.string x)) HE.out.symm, HB4.out⟩

set_option maxRecDepth 100000 in
set_option maxHeartbeats 1000000 in
theorem rexplain_any (a b : List EV) (ha : a.length ≤ 60) (hb : b.length ≤ 60) (fa : ∀ e ∈ a, e.v.few = true) (fb : ∀ e ∈ b, e.v.few = true) (la : ∀ i, (toldB a i).size ≤ 40000) (lb : ∀ i, (toldB b i).size ≤ 40000) (A A' : Option Addr) (cap cap' : Nat) (w : World) (h : EvsIn w A cap a) (h' : EvsIn w A' cap' b) (n : Int) (hn : MatchIs a b n) :
    Calls Tryz.prog 9 #[.slice A a.length cap, .slice A' b.length cap'] w fun r w' => r = .returned (.string (explB a b n)) ∧ Below w.heap.size w w' := by
  have HM := Lib.hid (rmatch_any a b A A' cap cap' w h h')
  have HN0 := Lib.hid hn
  skip
  have HA : Hid (∀ k : Nat, k ≤ 1000000 → ∀ W, Below w.heap.size w W → Calls Tryz.prog 19 #[.slice A a.length cap, .int .i64 (k : Nat)] W fun r w' => r = .returned (.string (toldB a k)) ∧ Below W.heap.size W w') := Lib.hid fun k hk W hW => rtold_any a fa k hk A cap W (h.later hW) 
  have HB : Hid (∀ k : Nat, k ≤ 1000000 → ∀ W, Below w.heap.size w W → Calls Tryz.prog 19 #[.slice A' b.length cap', .int .i64 (k : Nat)] W fun r w' => r = .returned (.string (toldB b k)) ∧ Below W.heap.size W w') := Lib.hid fun k hk W hW => rtold_any b fb k hk A' cap' W (h'.later hW) 
  clear h h' fa fb
  rcases match_lo hn with rfl | ⟨k, rfl, hka, hkb⟩
  · go_enter Tryz.func9, Tryz.ntmps9
    go_wp2_with fail
    refine HM.out.mono ?_
    intro x w1 hm
    obtain ⟨n', rfl, hn', hb1⟩ := hm
    obtain rfl := match_one hn' HN0.out
    have HB1 := Lib.hid hb1
    clear hb1 hn' hn
    go_wp2_with fail
    go_ret
    exact ⟨rfl, HB1.out⟩
  · have hk0 : ¬ ((k : Int) < 0) := by omega
    have k1 : decide ((k : Int) < 0) = false := decide_eq_false hk0
    obtain ⟨P, hP⟩ : ∃ P : ByteArray, P = ⟨(Lib.decDigits k).toArray⟩ := ⟨_, rfl⟩
    have hps : P.size ≤ 21 := by rw [hP]; exact Vf.dec_len k (by omega)
    have HN : Hid (∀ W, Below w.heap.size w W → Calls Tryz.prog 18 #[.int .u64 (k : Nat)] W fun r w' => r = .returned (.string P) ∧ Below W.heap.size W w') := Lib.hid fun W hW => by rw [hP]; exact Rg.runsigned_any k (by omega) W
    have HWR : Hid (IntKind.u64.wrap (k : Int) = (k : Int)) := Lib.hid (IntWalk.u64_in _ (by omega))
    have HTA := Lib.hid (HA.out k (by omega)); have HTB := Lib.hid (HB.out k (by omega))
    have HE : Hid (explB a b (k : Int) = ⟨#[101, 118, 101, 110, 116, 32]⟩ ++ P ++ ⟨#[58, 32]⟩ ++ toldB a k ++ ⟨#[44, 32, 110, 111, 116, 32]⟩ ++ toldB b k) := Lib.hid (by unfold explB; rw [if_neg hk0, hP]; rfl)
    have h1 := la k; have h2 := lb k
    generalize toldB a k = T1 at *
    generalize toldB b k = T2 at *
    have z1 : ¬ (9223372036854775807 < 6 + P.size) := by omega
    have z2 : ¬ (9223372036854775807 < 6 + P.size + 2) := by omega
    have z3 : ¬ (9223372036854775807 < 6 + P.size + 2 + T1.size) := by omega
    have z4 : ¬ (9223372036854775807 < 6 + P.size + 2 + T1.size + 6) := by omega
    have z5 : ¬ (9223372036854775807 < 6 + P.size + 2 + T1.size + 6 + T2.size) := by omega
    clear hP h1 h2 hps la lb
    go_enter Tryz.func9, Tryz.ntmps9
    go_wp2_with fail
    refine HM.out.mono ?_
    intro x w1 hm
    obtain ⟨n', rfl, hn', hb1⟩ := hm
    obtain rfl := match_one hn' HN0.out
    have HB1 := Lib.hid hb1
    clear hb1 hn' hn
    go_wp2_with fail
    refine (HN.out w1 HB1.out).mono ?_
    rintro x w2 ⟨rfl, hb2⟩
    have HB2 := Lib.hid (HB1.out.trans (hb2.mono HB1.out.size))
    clear hb2
    go_wp2_with fail
    refine (HTA.out w2 HB2.out).mono ?_
    rintro x w3 ⟨rfl, hb3⟩
    have HB3 := Lib.hid (HB2.out.trans (hb3.mono HB2.out.size))
    clear hb3
    go_wp2_with fail
    refine (HTB.out w3 HB3.out).mono ?_
    rintro x w4 ⟨rfl, hb4⟩
    have HB4 := Lib.hid (HB3.out.trans (hb4.mono HB3.out.size))
    clear hb4
    go_wp2_with fail
    go_ret
    exact ⟨congrArg (fun x => Ending.returned (Value.string x)) HE.out.symm, HB4.out⟩

end Mc
end Go.Proofs.YtjfhnkhabipbdaaGreatDoor
namespace Go.Proofs.YtjfhnkhabipbdaaGreatDoor
open Go.RowKit
set_option linter.unusedVariables false
set_option linter.unusedSimpArgs false
namespace Mc
open _root_.Go.Proofs.YtjfhnkhabipbdaaGreatDoor.Nm (ret_int ret_bool)
open Vt (VT Rep below_drew)
open Ev (EV FieldsOk evCells vCells EBox ERep)
open Cm (evSame EvsIn)
open Vf (TB KT etextB)

open Vf (efew efew_any)
open Cn (evs_trod)

theorem few_v {e : EV} (h : efew e = true) : e.v.few = true := by
  unfold efew at h
  simp only [Bool.and_eq_true] at h
  exact h.1.1
theorem expl_same (a : List EV) : explB a a (-1) = ⟨#[]⟩ := rfl
set_option maxRecDepth 100000 in
theorem cmatch_long (A A' : Option Addr) (la lb cap cap' : Nat) (hl : 60 < la ∨ 60 < lb) (w : World) :
    Calls Tryz.prog 3 #[.slice A la cap, .slice A' lb cap'] w fun r w' => r = .returned (.bool true) ∧ Below w.heap.size w w' := by
  have HAL := Lib.hid fun W => Cm.alive_any W
  by_cases h1 : 60 < la
  · have k1 : decide (60 < la) = true := decide_eq_true h1
    have k2 : decide ((60 : Int) < (la : Int)) = true := decide_eq_true (by omega)
    clear hl
    go_enter Tryz.func3, Tryz.ntmps3
    go_wp2_with fail
    refine (HAL.out _).mono ?_
    rintro x wz ⟨rfl, hbz⟩
    have HBZ := Lib.hid hbz
    clear hbz
    go_wp2_with fail
    go_ret
    exact ⟨rfl, HBZ.out⟩
  · have k1 : decide (60 < la) = false := decide_eq_false h1
    have k2 : decide ((60 : Int) < (la : Int)) = false := decide_eq_false (by omega)
    have h2 : 60 < lb := by omega
    have k3 : decide (60 < lb) = true := decide_eq_true h2
    have k4 : decide ((60 : Int) < (lb : Int)) = true := decide_eq_true (by omega)
    clear hl
    go_enter Tryz.func3, Tryz.ntmps3
    go_wp2_with fail
    refine (HAL.out _).mono ?_
    rintro x wz ⟨rfl, hbz⟩
    have HBZ := Lib.hid hbz
    clear hbz
    go_wp2_with fail
    go_ret
    exact ⟨rfl, HBZ.out⟩
set_option maxRecDepth 100000 in
set_option maxHeartbeats 4000000 in
theorem cmatch_walk (a b : List EV) (hla : a.length ≤ 60) (hlb : b.length ≤ 60) (A A' : Option Addr) (cap cap' : Nat) (w : World) (h : EvsIn w A cap a) (h' : EvsIn w A' cap' b) (ht : TB w) :
    Calls Tryz.prog 3 #[.slice A a.length cap, .slice A' b.length cap'] w fun r w' => r = .returned (.bool true) ∧ Below w.heap.size w w' := by
  have hl := h.le
  have hc := h.cap_le
  have hl' := h'.le
  have hc' := h'.cap_le
  simp only [maxLen] at hc hc'
  have HAL := Lib.hid fun W => Cm.alive_any W
  have HK := Lib.hid h; have HK' := Lib.hid h'
  have HT : Hid (∀ W, Below w.heap.size w W → TB W) := Lib.hid fun W hW => ht.later hW
  clear h h' ht
  have k1 : decide (60 < a.length) = false := decide_eq_false (by omega)
  have k2 : decide ((60 : Int) < (a.length : Int)) = false := decide_eq_false (by omega)
  have k3 : decide (60 < b.length) = false := decide_eq_false (by omega)
  have k4 : decide ((60 : Int) < (b.length : Int)) = false := decide_eq_false (by omega)
  obtain ⟨W1, hW1⟩ : ∃ W1, W1 = w.alloc (.cells #[.slice A a.length cap, .slice A' b.length cap'] 22) := ⟨_, rfl⟩
  have hb1 : Below w.heap.size w W1 := by rw [hW1]; exact (Below.refl _ _).alloc (Nat.le_refl _) _
  have h11 : W1.heap[w.heap.size]? = some (.cells #[.slice A a.length cap, .slice A' b.length cap'] 22 (0, 0)) := by rw [hW1]; exact heap_alloc_new _ _
  have HC : Hid (∀ W, Below W1.heap.size W1 W → W.cell? ⟨w.heap.size, 0, none⟩ = some (.slice A a.length cap) ∧ W.cell? ⟨w.heap.size, 1, none⟩ = some (.slice A' b.length cap')) := Lib.hid fun W hW => by
    have e := (hW.block w.heap.size (by rw [hW1]; simp)).trans h11
    simp [World.cell?, e]
  have HB1 := Lib.hid hb1
  clear hb1 h11
  replace hW1 := Lib.hid hW1
  go_enter Tryz.func3, Tryz.ntmps3
  go_upto_region 3 with fail
  go_wp2_with fail
  rw [← hW1.out]
  go_loopw [4, 23] (fun r i wr => ∃ (j : Nat), j ≤ 2 ∧ i = .int .i64 (j : Nat) ∧ r = .bool false ∧ Hid (0 < j → ∀ e ∈ a, e.v.few = true) ∧ Hid (1 < j → ∀ e ∈ b, e.v.few = true) ∧ Below W1.heap.size W1 wr) (fun _ i _ => 2 - (intOf i).toNat)
  case atStart => exact ⟨0, by omega, rfl, rfl, Lib.hid fun h => absurd h (by omega), Lib.hid fun h => absurd h (by omega), Below.refl _ _⟩
  case round =>
    obtain ⟨j, hj, rfl, rfl, HFA, HFB, hb⟩ := hrel
    have HB := Lib.hid hb
    obtain ⟨c0, c1⟩ := HC.out wr hb
    have HBW := Lib.hid (HB1.out.trans (hb.mono HB1.out.size))
    clear hb
    obtain ⟨wo, rfl⟩ : ∃ W, W = wr := ⟨wr, rfl⟩
    rcases (by omega : j = 0 ∨ j = 1 ∨ j = 2) with rfl | rfl | rfl
    · rw [show ((0 : Nat) : Int) = 0 from rfl]
      go_wp2_with fail
      go_loopw [4, 29] (fun r i wr => ∃ (k : Nat), k ≤ a.length ∧ i = .int .i64 (k : Nat) ∧ r = .bool false ∧ Hid (∀ q (hq : q < a.length), q < k → efew a[q] = true) ∧ Below wo.heap.size wo wr) (fun _ i _ => a.length - (intOf i).toNat)
      case atStart => exact ⟨0, by omega, rfl, rfl, Lib.hid fun q _ h => absurd h (by omega), Below.refl _ _⟩
      case round =>
        obtain ⟨k, hk, rfl, rfl, HALL, hbi⟩ := hrel
        have HBI := Lib.hid hbi
        clear hbi
        by_cases hkl : k < a.length
        · have HBWi := Lib.hid (HBW.out.trans (HBI.out.mono HBW.out.size))
          obtain ⟨b2, off2, lo, hi, vk, vn, vf, vs, A2, m2, c2, rfl, hbl2, hf, hv, hhi, e0, e1, e2, e3, e4, e5, e6, e7, e8, e9, e10⟩ := (HK.out.later HBWi.out).get k hkl
          obtain ⟨W2, hW2⟩ : ∃ W2, W2 = wr.alloc (.cells (evCells a[k] vk vn vf vs A2 m2 c2) 31) := ⟨_, rfl⟩
          have hb2 : Below wr.heap.size wr W2 := by rw [hW2]; exact (Below.refl _ _).alloc (Nat.le_refl _) _
          have hx2 : EBox W2 wr.heap.size (evCells a[k] vk vn vf vs A2 m2 c2) := by rw [hW2]; exact heap_alloc_new _ _
          have HF := Lib.hid (efew_any a[k] hf lo hi vk vn vf vs A2 m2 c2 W2 (hv.later (hb2.mono hhi)) (Nat.le_trans hhi hb2.size))
          have HB2 := Lib.hid (HBI.out.trans (hb2.mono HBI.out.size))
          clear hf hv hb2
          unfold evCells at HF hW2 hx2
          obtain ⟨g0, g1, g2, g3, g4, g5, g6, g7, g8, g9, g10⟩ := EBox.cells hx2
          clear hx2
          replace hW2 := Lib.hid hW2
          go_upto_region 9 with fail
          rw [← hW2.out]
          clear e0 e1 e2 e3 e4 e5 e6 e7 e8 e9 e10
          go_wp2_with fail
          refine HF.out.mono ?_
          rintro x w3 ⟨rfl, hb3⟩
          have HB3 := Lib.hid (HB2.out.trans (hb3.mono HB2.out.size))
          clear hb3 g0 g1 g2 g3 g4 g5 g6 g7 g8 g9 g10
          cases hp : efew a[k] with
          | true =>
            have HP := Lib.hid hp; clear hp
            have HNX : Hid (∀ q (hq : q < a.length), q < k + 1 → efew a[q] = true) := Lib.hid fun q hq hm => by
              rcases Nat.lt_or_ge q k with z | z
              · exact HALL.out q hq z
              · obtain rfl : q = k := by omega
                exact HP.out
            go_wp2_with fail
            exact ⟨⟨k + 1, by omega, by go_num, rfl, HNX, HB3.out⟩, by simp [intOf]; omega⟩
          | false =>
            have HBZ0 := Lib.hid (HBW.out.trans (HB3.out.mono HBW.out.size))
            clear hp
            go_wp2_with fail
            refine (HAL.out _).mono ?_
            rintro x wz ⟨rfl, hbz⟩
            have HBZ := Lib.hid (HBZ0.out.trans (hbz.mono HBZ0.out.size))
            clear hbz
            go_wp2_with fail
            go_ret
            exact ⟨rfl, HBZ.out⟩
        · have hk' : k = a.length := by omega
          have HFIN : Hid (∀ e ∈ a, e.v.few = true) := Lib.hid fun e he => by
            obtain ⟨q, hq, rfl⟩ := List.getElem_of_mem he
            exact few_v (HALL.out q hq (by omega))
          subst hk'
          have HBE := Lib.hid (HB.out.trans (HBI.out.mono HB.out.size))
          go_wp2_with fail
          exact ⟨⟨1, by omega, by go_num, rfl, Lib.hid fun _ => HFIN.out, Lib.hid fun h => absurd h (by omega), HBE.out⟩, by simp [intOf]⟩
    · rw [show ((1 : Nat) : Int) = 1 from rfl]
      go_wp2_with fail
      go_loopw [4, 29] (fun r i wr => ∃ (k : Nat), k ≤ b.length ∧ i = .int .i64 (k : Nat) ∧ r = .bool false ∧ Hid (∀ q (hq : q < b.length), q < k → efew b[q] = true) ∧ Below wo.heap.size wo wr) (fun _ i _ => b.length - (intOf i).toNat)
      case atStart => exact ⟨0, by omega, rfl, rfl, Lib.hid fun q _ h => absurd h (by omega), Below.refl _ _⟩
      case round =>
        obtain ⟨k, hk, rfl, rfl, HALL, hbi⟩ := hrel
        have HBI := Lib.hid hbi
        clear hbi
        by_cases hkl : k < b.length
        · have HBWi := Lib.hid (HBW.out.trans (HBI.out.mono HBW.out.size))
          obtain ⟨b2, off2, lo, hi, vk, vn, vf, vs, A2, m2, c2, rfl, hbl2, hf, hv, hhi, e0, e1, e2, e3, e4, e5, e6, e7, e8, e9, e10⟩ := (HK'.out.later HBWi.out).get k hkl
          obtain ⟨W2, hW2⟩ : ∃ W2, W2 = wr.alloc (.cells (evCells b[k] vk vn vf vs A2 m2 c2) 31) := ⟨_, rfl⟩
          have hb2 : Below wr.heap.size wr W2 := by rw [hW2]; exact (Below.refl _ _).alloc (Nat.le_refl _) _
          have hx2 : EBox W2 wr.heap.size (evCells b[k] vk vn vf vs A2 m2 c2) := by rw [hW2]; exact heap_alloc_new _ _
          have HF := Lib.hid (efew_any b[k] hf lo hi vk vn vf vs A2 m2 c2 W2 (hv.later (hb2.mono hhi)) (Nat.le_trans hhi hb2.size))
          have HB2 := Lib.hid (HBI.out.trans (hb2.mono HBI.out.size))
          clear hf hv hb2
          unfold evCells at HF hW2 hx2
          obtain ⟨g0, g1, g2, g3, g4, g5, g6, g7, g8, g9, g10⟩ := EBox.cells hx2
          clear hx2
          replace hW2 := Lib.hid hW2
          go_upto_region 9 with fail
          rw [← hW2.out]
          clear e0 e1 e2 e3 e4 e5 e6 e7 e8 e9 e10
          go_wp2_with fail
          refine HF.out.mono ?_
          rintro x w3 ⟨rfl, hb3⟩
          have HB3 := Lib.hid (HB2.out.trans (hb3.mono HB2.out.size))
          clear hb3 g0 g1 g2 g3 g4 g5 g6 g7 g8 g9 g10
          cases hp : efew b[k] with
          | true =>
            have HP := Lib.hid hp; clear hp
            have HNX : Hid (∀ q (hq : q < b.length), q < k + 1 → efew b[q] = true) := Lib.hid fun q hq hm => by
              rcases Nat.lt_or_ge q k with z | z
              · exact HALL.out q hq z
              · obtain rfl : q = k := by omega
                exact HP.out
            go_wp2_with fail
            exact ⟨⟨k + 1, by omega, by go_num, rfl, HNX, HB3.out⟩, by simp [intOf]; omega⟩
          | false =>
            have HBZ0 := Lib.hid (HBW.out.trans (HB3.out.mono HBW.out.size))
            clear hp
            go_wp2_with fail
            refine (HAL.out _).mono ?_
            rintro x wz ⟨rfl, hbz⟩
            have HBZ := Lib.hid (HBZ0.out.trans (hbz.mono HBZ0.out.size))
            clear hbz
            go_wp2_with fail
            go_ret
            exact ⟨rfl, HBZ.out⟩
        · have hk' : k = b.length := by omega
          have HFIN : Hid (∀ e ∈ b, e.v.few = true) := Lib.hid fun e he => by
            obtain ⟨q, hq, rfl⟩ := List.getElem_of_mem he
            exact few_v (HALL.out q hq (by omega))
          subst hk'
          have HBE := Lib.hid (HB.out.trans (HBI.out.mono HB.out.size))
          go_wp2_with fail
          exact ⟨⟨2, by omega, by go_num, rfl, Lib.hid fun _ => HFA.out (by omega), Lib.hid fun _ => HFIN.out, HBE.out⟩, by simp [intOf]⟩
    · have fa := HFA.out (by omega); have fb := HFB.out (by omega)
      have hga : ∀ (X : List EV) (A0 : Option Addr) (c0 : Nat), EvsIn w A0 c0 X → (∀ e ∈ X, e.v.few = true) → ∀ i, (toldB X i).size ≤ 40000 := fun X A0 c0 hX hfX i => told_len (fun e he hv => by
        obtain ⟨q, hq, rfl⟩ := List.getElem_of_mem he
        obtain ⟨b2, off2, lo, hi, vk, vn, vf, vs, A2, m2, c2, -, -, hf, hr, -⟩ := hX.get q hq
        exact Vf.etext_len _ hf (Vf.ve_of hv) (Pf.Rep.fine hr) (hfX _ he)) i
      have la := hga a A cap HK.out fa; have lb := hga b A' cap' HK'.out fb
      have HPM := Lib.hid fun W (hW : Below w.heap.size w W) => pmatch_any a b A A' cap cap' W (HK.out.later hW) (HK'.out.later hW)
      have HRM := Lib.hid fun W (hW : Below w.heap.size w W) => rmatch_any a b A A' cap cap' W (HK.out.later hW) (HK'.out.later hW)
      have HPB := Lib.hid fun W (hW : Below w.heap.size w W) => pmatch_any b a A' A cap' cap W (HK'.out.later hW) (HK.out.later hW)
      have HPA := Lib.hid fun W (hW : Below w.heap.size w W) => pmatch_any a a A A cap cap W (HK.out.later hW) (HK.out.later hW)
      have HPE := Lib.hid fun n (hn : MatchIs a b n) W (hW : Below w.heap.size w W) => pexplain_any a b hla hlb fa fb la lb A A' cap cap' W (HK.out.later hW) (HK'.out.later hW) (HT.out W hW) n hn
      have HRE := Lib.hid fun n (hn : MatchIs a b n) W (hW : Below w.heap.size w W) => rexplain_any a b hla hlb fa fb la lb A A' cap cap' W (HK.out.later hW) (HK'.out.later hW) n hn
      have HPS := Lib.hid fun W (hW : Below w.heap.size w W) => pexplain_any b b hlb hlb fb fb lb lb A' A' cap' cap' W (HK'.out.later hW) (HK'.out.later hW) (HT.out W hW) (-1) (match_refl b)
      clear fa fb hga la lb c0 c1
      go_wp2_with fail
      refine (HPM.out wo HBW.out).mono ?_
      intro x w1 hm
      obtain ⟨n, rfl, hn, hbq⟩ := hm
      have HN := Lib.hid hn
      have HBa := Lib.hid (HBW.out.trans (hbq.mono HBW.out.size))
      have HPE2 := Lib.hid (HPE.out n hn); have HRE2 := Lib.hid (HRE.out n hn)
      generalize explB a b n = T at *
      clear hbq hn
      go_wp2_with fail
      refine (HAL.out w1).mono ?_
      rintro x w2 ⟨rfl, hbq⟩
      have HBb := Lib.hid (HBa.out.trans (hbq.mono HBa.out.size))
      clear hbq
      go_wp2_with fail
      refine (HRM.out w2 HBb.out).mono ?_
      intro x w3 hm
      obtain ⟨n2, rfl, hn2, hbq⟩ := hm
      obtain rfl := match_one HN.out hn2
      have HBc := Lib.hid (HBb.out.trans (hbq.mono HBb.out.size))
      clear hbq hn2
      go_wp2_with fail
      refine (HPE2.out w3 HBc.out).mono ?_
      rintro x w4 ⟨rfl, hbq⟩
      have HBd := Lib.hid (HBc.out.trans (hbq.mono HBc.out.size))
      clear hbq
      go_wp2_with fail
      refine (HRE2.out w4 HBd.out).mono ?_
      rintro x w5 ⟨rfl, hbq⟩
      have HBe := Lib.hid (HBd.out.trans (hbq.mono HBd.out.size))
      clear hbq
      go_wp2_with fail
      refine (HPB.out w5 HBe.out).mono ?_
      intro x w6 hm
      obtain ⟨n3, rfl, hn3, hbq⟩ := hm
      obtain rfl := match_one HN.out (match_symm hn3)
      have HBf := Lib.hid (HBe.out.trans (hbq.mono HBe.out.size))
      clear hbq hn3
      go_wp2_with fail
      refine (HPA.out w6 HBf.out).mono ?_
      intro x w7 hm
      obtain ⟨n4, rfl, hn4, hbq⟩ := hm
      obtain rfl := match_one hn4 (match_refl a)
      have HBg := Lib.hid (HBf.out.trans (hbq.mono HBf.out.size))
      clear hbq hn4
      go_wp2_with fail
      refine (HPS.out w7 HBg.out).mono ?_
      rintro x w8 ⟨rfl, hbq⟩
      have HBh := Lib.hid (HBg.out.trans (hbq.mono HBg.out.size))
      clear hbq
      rw [expl_same]
      go_wp2_with fail
      go_ret
      exact ⟨rfl, HBh.out⟩

set_option maxRecDepth 100000 in
open Go.ChangeShapes Go.WideShapes Go.ChangeAt Go.Joins Go.Deep in
theorem evs_open {H : Type} {enc : TypeId × Value → H} {base b1 : Nat} {spare : Nat → Bool} {held : Bool} {d : DataW H} {p : List MemPlace} (v : Value) (W : World)
    (o : Value.okWide Tryz.prog W .any base 22 v) (k : DataW.Trod enc Tryz.prog W b1 spare held 22 v d p) :
    ∃ es A cap, v = .slice A es.length cap ∧ EvsIn W A cap es := by
  obtain ⟨a0, l0, cp0, rfl⟩ := okWide_slice Tryz.underlying22 o
  obtain ⟨fuel, hf⟩ := k
  have hcs : (Value.slice a0 l0 cp0).cells.toList = [.slice a0 l0 cp0] := rfl
  rw [hcs] at hf
  obtain ⟨es, A, cap, h1, h2, -⟩ := evs_trod fuel _ (d, p) hf
  exact ⟨es, A, cap, h1, h2⟩
set_option maxRecDepth 100000 in
open Go.ChangeShapes Go.WideShapes Go.ChangeAt Go.Joins Go.Deep in
theorem cmatch_open {H : Type} {enc : TypeId × Value → H} {base b1 : Nat} {spare : Nat → Bool} {held : Bool} {d0 d1 : DataW H} {p0 p1 : List MemPlace} (v0 v1 : Value) (W : World)
    (o0 : Value.okWide Tryz.prog W .any base 22 v0) (k0 : DataW.Trod enc Tryz.prog W b1 spare held 22 v0 d0 p0)
    (o1 : Value.okWide Tryz.prog W .any base 22 v1) (k1 : DataW.Trod enc Tryz.prog W b1 spare held 22 v1 d1 p1) (hL : laidMetH Tryz.prog Rows.commandMatchesRow.laid W) :
    Calls Tryz.prog 3 #[v0, v1] W fun e w' => e = .returned (.bool true) ∧ Below W.heap.size W w' := by
  have ht : TB W := Vf.tb_of_laid (by kernel_rfl) (by kernel_rfl) hL
  obtain ⟨a, A, cap, rfl, ha⟩ := evs_open v0 W o0 k0
  obtain ⟨b, A', cap', rfl, hb⟩ := evs_open v1 W o1 k1
  by_cases h1 : a.length ≤ 60
  · by_cases h2 : b.length ≤ 60
    · exact cmatch_walk a b h1 h2 A A' cap cap' W ha hb ht
    · exact cmatch_long A A' _ _ cap cap' (.inr (by omega)) W
  · exact cmatch_long A A' _ _ cap cap' (.inl (by omega)) W
end Mc
end Go.Proofs.YtjfhnkhabipbdaaGreatDoor
