/- The reference's text of a value. -/
/- The reference's text of an event. -/
import Derived.Test.YtjfhnkhabipbdaaGreatDoorMjau
import Derived.Test.YtjfhnkhabipbdaaGreatDoorMjam
namespace Go.Proofs.YtjfhnkhabipbdaaGreatDoor
open Go.RowKit
set_option linter.unusedVariables false
set_option linter.unusedSimpArgs false
namespace Rg
open _root_.Go.Proofs.YtjfhnkhabipbdaaGreatDoor.Nm (bitsW ret_int ret_bool)
open Bt (sb)
open Fu (rtext_any textW)
open Pf (hexL stext)
open Vf (KT)
open Vt (VT Rep BoxAt below_drew KidsAt HeadOk)

/-- Bytes as a string. -/
def bs (l : List UInt8) : ByteArray := ⟨l.toArray⟩
theorem bs_size (l : List UInt8) : (bs l).size = l.length := by simp [bs, ByteArray.size]
theorem bs_append (a b : List UInt8) : bs a ++ bs b = bs (a ++ b) := by
  apply ByteArray.ext
  simp [bs]
theorem bs_list (s : ByteArray) : bs s.data.toList = s := by unfold bs; rfl
theorem join_first (l : List (List UInt8)) (h : 0 < l.length) : Lib.join (l.take 1) [32] = l[0] := by
  cases l with
  | nil => simp at h
  | cons x r => simp [Lib.join_one]
theorem join_step (l : List (List UInt8)) (j : Nat) (h : j < l.length) (h0 : 0 < j) : Lib.join (l.take (j + 1)) [32] = Lib.join (l.take j) [32] ++ [32] ++ l[j] := by
  cases l with
  | nil => simp at h
  | cons x r =>
    obtain ⟨k, rfl⟩ : ∃ k, j = k + 1 := ⟨j - 1, by omega⟩
    have hk : k < r.length := by simpa using h
    rw [List.take_succ_cons, List.take_succ_cons, Lib.join_cons, Lib.join_cons, Lib.joinTail_take_succ [32] r k r[k] (List.getElem?_eq_getElem hk)]
    simp [List.append_assoc]
theorem join_le (l : List (List UInt8)) (j : Nat) : (Lib.join (l.take j) [32]).length ≤ (Lib.join l [32]).length := by
  cases l with
  | nil => simp [Lib.join]
  | cons x r =>
    cases j with
    | zero => simp [Lib.join]
    | succ k =>
      rw [List.take_succ_cons, Lib.join_cons, Lib.join_cons, List.length_append, List.length_append]
      have := Lib.joinTail_take_le [32] r k
      omega

set_option maxRecDepth 100000 in
set_option maxHeartbeats 2000000 in
theorem rtext_none (n : Int) (f : Nat) (s : ByteArray) (A : Option Addr) (m c : Nat) (w : World) :
    Calls Tryz.prog 68 #[.agg #[.int .i64 0, .int .i64 n, .float .f64 f, .string s, .slice A m c]] w (KT w ([110, 105, 108])) := by
  obtain ⟨W0, hW0⟩ : ∃ W0, W0 = w.alloc (.cells #[.int .i64 0, .int .i64 n, .float .f64 f, .string s, .slice A m c] 29) := ⟨_, rfl⟩
  have HB0 : Hid (Below w.heap.size w W0) := Lib.hid (by rw [hW0]; exact (Below.refl _ _).alloc (Nat.le_refl _) _)
  have hx0 : BoxAt W0 w.heap.size 0 n f s A m c := by rw [hW0]; exact BoxAt.new ..
  obtain ⟨c0, c1, c2, c3, c4⟩ := hx0.cells
  clear hx0
  replace hW0 := Lib.hid hW0
  go_enter Tryz.func68, Tryz.ntmps68
  go_upto_region 1 with fail
  rw [← hW0.out]
  go_wp2_with fail
  go_ret
  exact ⟨rfl, HB0.out⟩

set_option maxRecDepth 100000 in
set_option maxHeartbeats 2000000 in
theorem rtext_int (n : Int) (f : Nat) (s : ByteArray) (A : Option Addr) (m c : Nat) (w : World) (h0 : -9223372036854775808 ≤ n) (h1 : n ≤ 9223372036854775807) :
    Calls Tryz.prog 68 #[.agg #[.int .i64 1, .int .i64 n, .float .f64 f, .string s, .slice A m c]] w (KT w (Lib.itoa n)) := by
  obtain ⟨W0, hW0⟩ : ∃ W0, W0 = w.alloc (.cells #[.int .i64 1, .int .i64 n, .float .f64 f, .string s, .slice A m c] 29) := ⟨_, rfl⟩
  have HB0 : Hid (Below w.heap.size w W0) := Lib.hid (by rw [hW0]; exact (Below.refl _ _).alloc (Nat.le_refl _) _)
  have hx0 : BoxAt W0 w.heap.size 1 n f s A m c := by rw [hW0]; exact BoxAt.new ..
  have HI := Lib.hid (rdecimal_any n h0 h1 W0)
  clear h0 h1
  obtain ⟨c0, c1, c2, c3, c4⟩ := hx0.cells
  clear hx0
  replace hW0 := Lib.hid hW0
  go_enter Tryz.func68, Tryz.ntmps68
  go_upto_region 1 with fail
  rw [← hW0.out]
  go_wp2_with fail
  refine HI.out.mono ?_
  rintro e w1 ⟨rfl, rfl⟩
  go_wp2_with fail
  go_ret
  exact ⟨rfl, HB0.out⟩

set_option maxRecDepth 100000 in
set_option maxHeartbeats 2000000 in
theorem rtext_float (n : Int) (f : Nat) (s : ByteArray) (A : Option Addr) (m c : Nat) (w : World) (hf : f < 18446744073709551616) :
    Calls Tryz.prog 68 #[.agg #[.int .i64 2, .int .i64 n, .float .f64 f, .string s, .slice A m c]] w (KT w (35 :: (textW (bitsW f)).data.toList)) := by
  obtain ⟨W0, hW0⟩ : ∃ W0, W0 = w.alloc (.cells #[.int .i64 2, .int .i64 n, .float .f64 f, .string s, .slice A m c] 29) := ⟨_, rfl⟩
  have HB0 : Hid (Below w.heap.size w W0) := Lib.hid (by rw [hW0]; exact (Below.refl _ _).alloc (Nat.le_refl _) _)
  have hx0 : BoxAt W0 w.heap.size 2 n f s A m c := by rw [hW0]; exact BoxAt.new ..
  have HI := Lib.hid (rtext_any f hf W0)
  have hl := Vf.textW_len (bitsW f)
  have HE : Hid ((⟨#[35]⟩ : ByteArray) ++ textW (bitsW f) = bs (35 :: (textW (bitsW f)).data.toList)) := Lib.hid (by
    have := bs_append [35] (textW (bitsW f)).data.toList
    rw [bs_list] at this
    exact this)
  have hs2 : (textW (bitsW f)).size = (textW (bitsW f)).data.toList.length := by rw [Array.length_toList]; rfl
  clear hf
  generalize textW (bitsW f) = T at *
  have hsz : ¬ (9223372036854775807 < 1 + T.size) := by omega
  clear hl hs2
  obtain ⟨c0, c1, c2, c3, c4⟩ := hx0.cells
  clear hx0
  replace hW0 := Lib.hid hW0
  go_enter Tryz.func68, Tryz.ntmps68
  go_upto_region 1 with fail
  rw [← hW0.out]
  go_wp2_with fail
  refine HI.out.mono ?_
  rintro e w1 ⟨rfl, rfl⟩
  go_wp2_with fail
  go_ret
  exact ⟨congrArg (fun x => Ending.returned (Value.string x)) HE.out, HB0.out⟩

set_option maxRecDepth 100000 in
set_option maxHeartbeats 2000000 in
theorem rtext_text (n : Int) (f : Nat) (s : ByteArray) (A : Option Addr) (m c : Nat) (w : World) (hs : s.size ≤ 100000) :
    Calls Tryz.prog 68 #[.agg #[.int .i64 3, .int .i64 n, .float .f64 f, .string s, .slice A m c]] w (KT w (stext s)) := by
  obtain ⟨W0, hW0⟩ : ∃ W0, W0 = w.alloc (.cells #[.int .i64 3, .int .i64 n, .float .f64 f, .string s, .slice A m c] 29) := ⟨_, rfl⟩
  have HB0 : Hid (Below w.heap.size w W0) := Lib.hid (by rw [hW0]; exact (Below.refl _ _).alloc (Nat.le_refl _) _)
  have hx0 : BoxAt W0 w.heap.size 3 n f s A m c := by rw [hW0]; exact BoxAt.new ..
  have HI := Lib.hid (rhex_any s hs W0)
  obtain ⟨T, hT⟩ : ∃ T : ByteArray, T = bs (hexL (sb s)) := ⟨_, rfl⟩
  have hT2 : (⟨(hexL (sb s)).toArray⟩ : ByteArray) = T := hT.symm
  rw [hT2] at HI
  have hl : T.size = 2 * s.size := by rw [hT, bs_size, hexL_len, Bt.sb_len]
  have hsz : ¬ (9223372036854775807 < 1 + T.size) := by omega
  have hsz2 : ¬ (9223372036854775807 < 1 + T.size + 1) := by omega
  have HE : Hid ((⟨#[34]⟩ : ByteArray) ++ T ++ ⟨#[34]⟩ = bs (stext s)) := Lib.hid (by
    rw [hT, show (⟨#[34]⟩ : ByteArray) = bs [34] from rfl, bs_append, bs_append]; simp [stext])
  clear hT hT2 hl hs
  obtain ⟨c0, c1, c2, c3, c4⟩ := hx0.cells
  clear hx0
  replace hW0 := Lib.hid hW0
  go_enter Tryz.func68, Tryz.ntmps68
  go_upto_region 1 with fail
  rw [← hW0.out]
  go_wp2_with fail
  refine HI.out.mono ?_
  rintro e w1 ⟨rfl, hb1⟩
  have HB1 := Lib.hid (HB0.out.trans (hb1.mono HB0.out.size))
  clear hb1
  go_wp2_with fail
  go_ret
  exact ⟨congrArg (fun x => Ending.returned (Value.string x)) HE.out, HB1.out⟩

set_option maxRecDepth 100000 in
set_option maxHeartbeats 2000000 in
theorem rtext_list (n : Int) (f : Nat) (s : ByteArray) (l : List VT) (A : Option Addr) (cap : Nat) (hl : l.length ≤ cap) (hcap : cap ≤ maxLen) (w : World) (lo hi : Nat) (hk : KidsAt w lo hi l A) (hz : hi ≤ w.heap.size) (hlen : (Lib.join (l.map Pf.VT.text) [32]).length ≤ 500000)
    (ih : ∀ i (h : i < l.length) (W : World) (lo hi : Nat) (v : Value), Rep W lo hi l[i] v → hi ≤ W.heap.size → Calls Tryz.prog 68 #[v] W (KT W (Pf.VT.text l[i]))) :
    Calls Tryz.prog 68 #[.agg #[.int .i64 4, .int .i64 n, .float .f64 f, .string s, .slice A l.length cap]] w (KT w (91 :: (Lib.join (l.map Pf.VT.text) [32] ++ [93]))) := by
  simp only [maxLen] at hcap
  obtain ⟨W0, hW0⟩ : ∃ W0, W0 = w.alloc (.cells #[.int .i64 4, .int .i64 n, .float .f64 f, .string s, .slice A l.length cap] 29) := ⟨_, rfl⟩
  have HB0 : Hid (Below w.heap.size w W0) := Lib.hid (by rw [hW0]; exact (Below.refl _ _).alloc (Nat.le_refl _) _)
  have hz0 : w.heap.size < W0.heap.size := by rw [hW0]; simp
  have hx0 : BoxAt W0 w.heap.size 4 n f s A l.length cap := by rw [hW0]; exact BoxAt.new ..
  have HBX : Hid (∀ W, Below W0.heap.size W0 W → BoxAt W w.heap.size 4 n f s A l.length cap) := Lib.hid fun W hW => hx0.later hW hz0
  have HK := Lib.hid (hk.later (HB0.out.mono hz))
  have IH := Lib.hid ih
  have HLEN := Lib.hid hlen
  have hhi : hi ≤ W0.heap.size := Nat.le_trans hz HB0.out.size
  obtain ⟨c0, c1, c2, c3, c4⟩ := hx0.cells
  clear hx0 hk ih hlen
  replace hW0 := Lib.hid hW0
  go_enter Tryz.func68, Tryz.ntmps68
  go_upto_region 1 with fail
  rw [← hW0.out]
  go_wp2_with fail
  clear c0 c1 c2 c3 c4
  go_loopw [3, 4] (fun o i wr => ∃ (j : Nat) (so : ByteArray), j ≤ l.length ∧ i = .int .i64 (j : Nat) ∧ o = .string so ∧ Hid (so = bs (91 :: Lib.join ((l.map Pf.VT.text).take j) [32])) ∧ so.size ≤ 500001 ∧ Below W0.heap.size W0 wr) (fun _ i _ => l.length - (intOf i).toNat)
  case atStart => exact ⟨0, ⟨#[91]⟩, by omega, rfl, rfl, Lib.hid (by simp [Lib.join, bs]), by decide, Below.refl _ _⟩
  case round =>
    obtain ⟨j, so, hj, rfl, rfl, HSO, hso, hb⟩ := hrel
    have HB := Lib.hid hb
    obtain ⟨c0, c1, c2, c3, c4⟩ := (HBX.out wr hb).cells
    clear hb
    by_cases hlt : j < l.length
    · obtain ⟨b, off, rfl, hb1, hb2, h3⟩ := (HK.out.later (HB.out.mono hhi)).at_ (by omega)
      obtain ⟨k', n', f', s', L', A', cap', e, g0, g1, g2, g3, g4, hrj⟩ := h3 j hlt
      have hhr : hi ≤ wr.heap.size := Nat.le_trans hhi HB.out.size
      have HF := Lib.hid (IH.out j hlt wr lo hi _ hrj hhr)
      have hjm : j < (l.map Pf.VT.text).length := by simpa using hlt
      have hle := join_le (l.map Pf.VT.text) (j + 1)
      obtain ⟨T, hT⟩ : ∃ T : ByteArray, T = bs (Pf.VT.text l[j]) := ⟨_, rfl⟩
      have HT : Hid ((⟨(Pf.VT.text l[j]).toArray⟩ : ByteArray) = T) := Lib.hid hT.symm
      clear h3 hrj e
      unfold KT at HF
      rw [HT.out] at HF
      by_cases h0 : j = 0
      · have k1 : decide ((0 : Int) < (j : Int)) = false := decide_eq_false (by omega)
        have k2 : decide (0 < j) = false := decide_eq_false (by omega)
        have hst : Lib.join ((l.map Pf.VT.text).take (j + 1)) [32] = Pf.VT.text l[j] := by subst h0; rw [join_first _ hjm]; simp
        have hst0 : Lib.join ((l.map Pf.VT.text).take j) [32] = [] := by rw [h0]; simp [Lib.join]
        have hS1 : so ++ T = bs (91 :: Lib.join ((l.map Pf.VT.text).take (j + 1)) [32]) := by
          rw [HSO.out, hT, bs_append, hst, hst0]; rfl
        have hsz1 : (so ++ T).size = so.size + T.size := ByteArray.size_append
        have hsz3 : (so ++ T).size ≤ 500001 := by rw [hS1, bs_size, List.length_cons]; have := HLEN.out; omega
        have hsz : ¬ (9223372036854775807 < so.size + T.size) := by omega
        have HS1 := Lib.hid hS1; have HZ3 := Lib.hid hsz3
        clear hS1 hsz1 hsz3 hst hst0 hT hle h0
        go_wp2_with fail
        refine HF.out.mono ?_
        rintro x w4 ⟨rfl, hb4⟩
        have HB4 := Lib.hid (HB.out.trans (hb4.mono HB.out.size))
        clear hb4 c0 c1 c2 c3 c4 g0 g1 g2 g3 g4
        go_wp2_with fail
        exact ⟨⟨j + 1, so ++ T, by omega, by go_num, rfl, HS1, HZ3.out, HB4.out⟩, by simp [intOf]; omega⟩
      · have hst := join_step (l.map Pf.VT.text) j hjm (by omega)
        have hpos : (0 : Int) < (j : Int) := by omega
        have k1 : decide ((0 : Int) < (j : Int)) = true := decide_eq_true hpos
        have k2 : decide (0 < j) = true := decide_eq_true (by omega)
        have hS1 : so ++ ⟨#[32]⟩ ++ T = bs (91 :: Lib.join ((l.map Pf.VT.text).take (j + 1)) [32]) := by
          rw [HSO.out, hT, show (⟨#[32]⟩ : ByteArray) = bs [32] from rfl, bs_append, bs_append, hst]; simp
        have hsz1 : (so ++ ⟨#[32]⟩ ++ T).size = so.size + 1 + T.size := by rw [ByteArray.size_append, ByteArray.size_append]; rfl
        have hsz3 : (so ++ ⟨#[32]⟩ ++ T).size ≤ 500001 := by rw [hS1, bs_size, List.length_cons]; have := HLEN.out; omega
        have hsz : ¬ (9223372036854775807 < so.size + 1 + T.size) := by omega
        have hsz4 : ¬ (9223372036854775807 < so.size + 1) := by omega
        have HS1 := Lib.hid hS1; have HZ3 := Lib.hid hsz3
        clear hS1 hsz1 hsz3 hst hT hle
        go_wp2_with fail
        refine HF.out.mono ?_
        rintro x w4 ⟨rfl, hb4⟩
        have HB4 := Lib.hid (HB.out.trans (hb4.mono HB.out.size))
        clear hb4 c0 c1 c2 c3 c4 g0 g1 g2 g3 g4
        go_wp2_with fail
        exact ⟨⟨j + 1, so ++ ⟨#[32]⟩ ++ T, by omega, by go_num, rfl, HS1, HZ3.out, HB4.out⟩, by simp [intOf]; omega⟩
    · have hj' : j = l.length := by omega
      subst hj'
      have hS1 : so ++ ⟨#[93]⟩ = bs (91 :: (Lib.join (l.map Pf.VT.text) [32] ++ [93])) := by
        rw [HSO.out, show (⟨#[93]⟩ : ByteArray) = bs [93] from rfl, bs_append, show (l.map Pf.VT.text).take l.length = l.map Pf.VT.text from by rw [List.take_of_length_le (by simp)]]; simp
      have hsz : ¬ (9223372036854775807 < so.size + 1) := by omega
      have HS1 := Lib.hid hS1
      clear hS1
      go_wp2_with fail
      go_ret
      exact ⟨congrArg (fun x => Ending.returned (Value.string x)) HS1.out, HB0.out.trans (HB.out.mono HB0.out.size)⟩

/-- The text of whatever value is valid. -/
theorem rtextv_any (t : VT) : ∀ (d : Nat) (w : World) (lo hi : Nat) (v : Value), t.valid d = true → (Pf.VT.text t).length ≤ 100000 → t.Slim 1100 → Rep w lo hi t v → hi ≤ w.heap.size → Calls Tryz.prog 68 #[v] w (KT w (Pf.VT.text t)) := by
  induction t using VT.ind with
  | _ k n f s l ih =>
    intro d w lo hi v hv hlen hS hR hz
    obtain ⟨A, cap, rfl, ho, hl, hk⟩ := hR.head
    obtain ⟨hs9, hl9, hkS⟩ := Vt.slim_mk.1 hS
    rw [Pf.text_mk] at hlen ⊢
    rcases Pf.valid_cases hv with ⟨rfl, -⟩ | ⟨rfl, -⟩ | ⟨rfl, -⟩ | ⟨rfl, -⟩ | ⟨rfl, -, -, -, hkv⟩
    · exact rtext_none n f s A l.length cap w
    · exact rtext_int n f s A l.length cap w ho.n0 ho.n1
    · exact rtext_float n f s A l.length cap w ho.f1
    · exact rtext_text n f s A l.length cap w (by omega)
    · rw [if_neg (by omega), if_neg (by omega), if_neg (by omega), if_pos rfl] at hlen ⊢
      simp only [List.length_cons, List.length_append, List.length_nil] at hlen
      have hfl : ∀ i (h : i < l.length), (Pf.VT.text l[i]).length ≤ 100000 := fun i hi => by have := Vf.elem_le l i hi; omega
      exact rtext_list n f s l A cap hl ho.m1 w lo hi hk hz (by omega) (fun i hi W lo hi' v h1 h2 => ih i hi (d - 1) W lo hi' v (hkv _ (List.getElem_mem hi)) (hfl i hi) (hkS i hi) h1 h2)

set_option maxRecDepth 100000 in
theorem rvtext_any (t : VT) (hlen : (Pf.VT.text t).length ≤ 100000) (hS : t.Slim 1100) (lo hi : Nat) (v : Value) (w : World) (hv : Rep w lo hi t v) (hz : hi ≤ w.heap.size) (hval : t.valid 8 = true) :
    Calls Tryz.prog 49 #[v] w (KT w (Pf.VT.text t)) := by
  obtain ⟨k, n, f, s, l⟩ := t
  obtain ⟨A, cap, rfl, -⟩ := id hv.head
  obtain ⟨W0, hW0⟩ : ∃ W0, W0 = w.alloc (.cells #[.int .i64 k, .int .i64 n, .float .f64 f, .string s, .slice A l.length cap] 29) := ⟨_, rfl⟩
  have hB0 : Below w.heap.size w W0 := by rw [hW0]; exact (Below.refl _ _).alloc (Nat.le_refl _) _
  have hbx : BoxAt W0 w.heap.size k n f s A l.length cap := by rw [hW0]; exact BoxAt.new ..
  have hz0 : w.heap.size < W0.heap.size := by rw [hW0]; simp
  have HBX : Hid (∀ W, Below W0.heap.size W0 W → BoxAt W w.heap.size k n f s A l.length cap) := Lib.hid fun W hW => hbx.later hW hz0
  have HV := Lib.hid (Vt.rvalid_any (.mk k n f s l) W0 lo hi _ (hv.later (hB0.mono hz)) (Nat.le_trans hz hB0.size))
  rw [hval] at HV
  have HF := Lib.hid fun W (hW : Below W0.heap.size W0 W) => rtextv_any (.mk k n f s l) 8 W lo hi _ hval hlen hS ((hv.later (hB0.mono hz)).later (hW.mono (Nat.le_trans hz hB0.size))) (Nat.le_trans hz (Nat.le_trans hB0.size hW.size))
  have HB0 := Lib.hid hB0
  obtain ⟨c0, c1, c2, c3, c4⟩ := hbx.cells
  clear hB0 hbx hv
  replace hW0 := Lib.hid hW0
  go_enter Tryz.func49, Tryz.ntmps49
  go_upto_region 1 with fail
  rw [← hW0.out]
  go_wp2_with fail
  refine HV.out.mono ?_
  rintro e w1 ⟨rfl, hb1⟩
  obtain ⟨d0, d1, d2, d3, d4⟩ := (HBX.out w1 hb1).cells
  have HB1 := Lib.hid hb1
  clear hb1 c0 c1 c2 c3 c4
  go_wp2_with fail
  refine (HF.out _ HB1.out).mono ?_
  rintro e w2 ⟨rfl, hb2⟩
  have HB2 := Lib.hid hb2
  clear hb2
  go_wp2_with fail
  go_ret
  exact ⟨rfl, HB0.out.trans ((HB1.out.trans (HB2.out.mono HB1.out.size)).mono HB0.out.size)⟩
end Rg
end Go.Proofs.YtjfhnkhabipbdaaGreatDoor
namespace Go.Proofs.YtjfhnkhabipbdaaGreatDoor
open Go.RowKit
set_option linter.unusedVariables false
set_option linter.unusedSimpArgs false
namespace Rg
open _root_.Go.Proofs.YtjfhnkhabipbdaaGreatDoor.Nm (bitsW ret_int ret_bool)
open Bt (sb)
open Fu (rdigits_any)
open Pf (hexL stext)
open Vf (KT etext etextB hasF optT selT tail_selT etext_len)
open Vt (VT Rep BoxAt below_drew)
open Ev (EV FieldsOk evCells vCells EBox ERep zeroT fieldsOf nameOf)
open Cm (has_field)

set_option maxRecDepth 100000 in
set_option maxHeartbeats 4000000 in
theorem rname_any (k : Nat) (h1 : 1 ≤ k) (h2 : k ≤ 11) (w : World) : Calls Tryz.prog 47 #[.int .i64 k] w fun e w' => e = .returned (.string (nameOf k)) ∧ Below w.heap.size w w' := by
  rcases (by omega : k = 1 ∨ k = 2 ∨ k = 3 ∨ k = 4 ∨ k = 5 ∨ k = 6 ∨ k = 7 ∨ k = 8 ∨ k = 9 ∨ k = 10 ∨ k = 11) with rfl | rfl | rfl | rfl | rfl | rfl | rfl | rfl | rfl | rfl | rfl
  all_goals
    go_enter Tryz.func47, Tryz.ntmps47
    go_wp2_with fail
    go_ret
    exact ⟨rfl, (Below.refl _ _).alloc (Nat.le_refl _) _⟩
theorem runsigned_any (x : Nat) (hx : x < 18446744073709551616) (w : World) : Calls Tryz.prog 18 #[.int .u64 (x : Nat)] w (KT w (Lib.decDigits x)) := by
  have HD := Lib.hid (rdigits_any x hx w)
  go_enter Tryz.func18, Tryz.ntmps18
  go_wp2_with fail
  refine HD.out.mono ?_
  rintro e w1 ⟨rfl, rfl⟩
  go_wp2_with fail
  go_ret
  exact ⟨rfl, Below.refl _ _⟩
theorem rep_leaf' {w : World} {lo hi : Nat} {k n : Int} {f : Nat} {s : ByteArray} (h : Vt.HeadOk k n f s 0) : Rep w lo hi (.mk k n f s []) (.agg #[.int .i64 k, .int .i64 n, .float .f64 f, .string s, .slice none 0 0]) :=
  Rep.close (A := none) (cap := 0) h (Nat.le_refl _) ⟨fun hp => absurd hp (by simp)⟩

set_option maxRecDepth 100000 in
theorem rquoted_any (s : ByteArray) (hs : s.size ≤ 1000) (w : World) : Calls Tryz.prog 48 #[.string s] w (KT w (stext s)) := by
  have HT : Hid (Calls Tryz.prog 49 #[.agg #[.int .i64 3, .int .i64 0, .float .f64 0, .string s, .slice none 0 0]] w (KT w (stext s))) := Lib.hid (by
    have := rvtext_any (.mk 3 0 0 s []) (by rw [Vf.text_of, Vf.stext_len]; omega) (Vf.text_slim s (by omega)) 0 0 (.agg #[.int .i64 3, .int .i64 0, .float .f64 0, .string s, .slice none 0 0]) w (rep_leaf' ⟨by decide, by decide, by decide, by decide, by decide, by simp only [maxLen]; omega, by decide⟩) (Nat.zero_le _) (Vf.text_valid s)
    rw [Vf.text_of] at this
    exact this)
  go_enter Tryz.func48, Tryz.ntmps48
  go_wp2_with fail
  refine HT.out.mono ?_
  rintro e w1 ⟨rfl, hb⟩
  have HB := Lib.hid hb
  clear hb
  go_wp2_with fail
  go_ret
  exact ⟨rfl, HB.out⟩

set_option maxRecDepth 100000 in
set_option maxHeartbeats 4000000 in
theorem retext_walk (k id n at' : Nat) (name text : ByteArray) (hn : n ≤ 2147483647) (vk vn : Int) (vf : Nat) (vs : ByteArray) (A : Option Addr) (m c : Nat) (b0 b1 b2 b3 b4 b5 : Bool) (S0 S1 S2 S3 S4 S5 S6 P0 P1 P2 P3 P4 P5 : ByteArray) (w : World)
    (z0 : S0.size ≤ 40000) (z1 : S1.size ≤ 40000) (z2 : S2.size ≤ 40000) (z3 : S3.size ≤ 40000) (z4 : S4.size ≤ 40000) (z5 : S5.size ≤ 40000) (y0 : P0.size ≤ 40000) (y1 : P1.size ≤ 40000) (y2 : P2.size ≤ 40000) (y3 : P3.size ≤ 40000) (y4 : P4.size ≤ 40000) (y5 : P5.size ≤ 40000)
    (F0 : Hid (b0 = false → S0 = S1)) (T0 : Hid (b0 = true → S0 ++ ⟨#[32]⟩ ++ P0 = S1))
    (F1 : Hid (b1 = false → S1 = S2)) (T1 : Hid (b1 = true → S1 ++ ⟨#[32]⟩ ++ P1 = S2))
    (F2 : Hid (b2 = false → S2 = S3)) (T2 : Hid (b2 = true → S2 ++ ⟨#[32]⟩ ++ P2 = S3))
    (F3 : Hid (b3 = false → S3 = S4)) (T3 : Hid (b3 = true → S3 ++ ⟨#[32]⟩ ++ P3 = S4))
    (F4 : Hid (b4 = false → S4 = S5)) (T4 : Hid (b4 = true → S4 ++ ⟨#[32]⟩ ++ P4 = S5))
    (F5 : Hid (b5 = false → S5 = S6)) (T5 : Hid (b5 = true → S5 ++ ⟨#[32]⟩ ++ P5 = S6))
    (H0 : Hid (∀ W, Calls Tryz.prog 45 #[.int .i64 (k : Nat), .int .u8 105] W fun r w' => r = .returned (.bool b0) ∧ Below W.heap.size W w'))
    (H1 : Hid (∀ W, Calls Tryz.prog 45 #[.int .i64 (k : Nat), .int .u8 110] W fun r w' => r = .returned (.bool b1) ∧ Below W.heap.size W w'))
    (H2 : Hid (∀ W, Calls Tryz.prog 45 #[.int .i64 (k : Nat), .int .u8 97] W fun r w' => r = .returned (.bool b2) ∧ Below W.heap.size W w'))
    (H3 : Hid (∀ W, Calls Tryz.prog 45 #[.int .i64 (k : Nat), .int .u8 115] W fun r w' => r = .returned (.bool b3) ∧ Below W.heap.size W w'))
    (H4 : Hid (∀ W, Calls Tryz.prog 45 #[.int .i64 (k : Nat), .int .u8 116] W fun r w' => r = .returned (.bool b4) ∧ Below W.heap.size W w'))
    (H5 : Hid (∀ W, Calls Tryz.prog 45 #[.int .i64 (k : Nat), .int .u8 118] W fun r w' => r = .returned (.bool b5) ∧ Below W.heap.size W w'))
    (HN : Hid (∀ W, Calls Tryz.prog 47 #[.int .i64 (k : Nat)] W fun r w' => r = .returned (.string S0) ∧ Below W.heap.size W w'))
    (HP0 : Hid (∀ W, Calls Tryz.prog 18 #[.int .u64 (id : Nat)] W fun r w' => r = .returned (.string P0) ∧ Below W.heap.size W w'))
    (HP1 : Hid (∀ W, Calls Tryz.prog 18 #[.int .u64 (n : Nat)] W fun r w' => r = .returned (.string P1) ∧ Below W.heap.size W w'))
    (HP2 : Hid (∀ W, Calls Tryz.prog 18 #[.int .u64 (at' : Nat)] W fun r w' => r = .returned (.string P2) ∧ Below W.heap.size W w'))
    (HP3 : Hid (∀ W, Calls Tryz.prog 48 #[.string name] W fun r w' => r = .returned (.string P3) ∧ Below W.heap.size W w'))
    (HP4 : Hid (∀ W, Calls Tryz.prog 48 #[.string text] W fun r w' => r = .returned (.string P4) ∧ Below W.heap.size W w'))
    (hP5 : ∀ W, Below w.heap.size w W → Calls Tryz.prog 49 #[.agg #[.int .i64 vk, .int .i64 vn, .float .f64 vf, .string vs, .slice A m c]] W fun r w' => r = .returned (.string P5) ∧ Below W.heap.size W w')
    (hV : ∀ W, Below w.heap.size w W → Calls Tryz.prog 31 #[.agg #[.int .i64 (k : Nat), .int .u64 (id : Nat), .int .i64 (n : Nat), .int .u64 (at' : Nat), .string name, .string text, .int .i64 vk, .int .i64 vn, .float .f64 vf, .string vs, .slice A m c]] W fun r w' => r = .returned (.bool true) ∧ Below W.heap.size W w') :
    Calls Tryz.prog 32 #[.agg #[.int .i64 (k : Nat), .int .u64 (id : Nat), .int .i64 (n : Nat), .int .u64 (at' : Nat), .string name, .string text, .int .i64 vk, .int .i64 vn, .float .f64 vf, .string vs, .slice A m c]] w fun r w' => r = .returned (.string S6) ∧ Below w.heap.size w w' := by
  obtain ⟨W0, hW0⟩ : ∃ W0, W0 = w.alloc (.cells #[.int .i64 (k : Nat), .int .u64 (id : Nat), .int .i64 (n : Nat), .int .u64 (at' : Nat), .string name, .string text, .int .i64 vk, .int .i64 vn, .float .f64 vf, .string vs, .slice A m c] 31) := ⟨_, rfl⟩
  have HB0 : Hid (Below w.heap.size w W0) := Lib.hid (by rw [hW0]; exact (Below.refl _ _).alloc (Nat.le_refl _) _)
  have hbx : EBox W0 w.heap.size #[.int .i64 (k : Nat), .int .u64 (id : Nat), .int .i64 (n : Nat), .int .u64 (at' : Nat), .string name, .string text, .int .i64 vk, .int .i64 vn, .float .f64 vf, .string vs, .slice A m c] := by rw [hW0]; exact heap_alloc_new w _
  have hzz : w.heap.size < W0.heap.size := by rw [hW0]; simp
  have HX : Hid (∀ W, Below W0.heap.size W0 W → EBox W w.heap.size #[.int .i64 (k : Nat), .int .u64 (id : Nat), .int .i64 (n : Nat), .int .u64 (at' : Nat), .string name, .string text, .int .i64 vk, .int .i64 vn, .float .f64 vf, .string vs, .slice A m c]) := Lib.hid fun W hW => hbx.later hW hzz
  have HP5 : Hid (∀ W, Below W0.heap.size W0 W → Calls Tryz.prog 49 #[.agg #[.int .i64 vk, .int .i64 vn, .float .f64 vf, .string vs, .slice A m c]] W fun r w' => r = .returned (.string P5) ∧ Below W.heap.size W w') := Lib.hid fun W hW => hP5 W (HB0.out.trans (hW.mono HB0.out.size))
  have HV := Lib.hid (hV W0 HB0.out)
  have HWN : Hid (IntKind.u64.wrap (n : Int) = (n : Int)) := Lib.hid (IntWalk.u64_in _ (by omega))
  have s0 : ¬ (9223372036854775807 < S0.size + 1) := by omega
  have t0 : ¬ (9223372036854775807 < S0.size + 1 + P0.size) := by omega
  have s1 : ¬ (9223372036854775807 < S1.size + 1) := by omega
  have t1 : ¬ (9223372036854775807 < S1.size + 1 + P1.size) := by omega
  have s2 : ¬ (9223372036854775807 < S2.size + 1) := by omega
  have t2 : ¬ (9223372036854775807 < S2.size + 1 + P2.size) := by omega
  have s3 : ¬ (9223372036854775807 < S3.size + 1) := by omega
  have t3 : ¬ (9223372036854775807 < S3.size + 1 + P3.size) := by omega
  have s4 : ¬ (9223372036854775807 < S4.size + 1) := by omega
  have t4 : ¬ (9223372036854775807 < S4.size + 1 + P4.size) := by omega
  have s5 : ¬ (9223372036854775807 < S5.size + 1) := by omega
  have t5 : ¬ (9223372036854775807 < S5.size + 1 + P5.size) := by omega
  clear hbx hP5 hV z0 z1 z2 z3 z4 z5 y0 y1 y2 y3 y4 y5
  obtain ⟨a0, a1, a2, a3, a4, a5, a6, a7, a8, a9, a10⟩ := EBox.cells (HX.out W0 (Below.refl _ _))
  replace hW0 := Lib.hid hW0
  go_enter Tryz.func32, Tryz.ntmps32
  go_upto_region 1 with fail
  rw [← hW0.out]
  go_wp2_with fail
  refine HV.out.mono ?_
  rintro x w1 ⟨rfl, hb1⟩
  have HB1 := Lib.hid hb1
  clear hb1 a0 a1 a2 a3 a4 a5 a6 a7 a8 a9 a10
  obtain ⟨a0, a1, a2, a3, a4, a5, a6, a7, a8, a9, a10⟩ := EBox.cells (HX.out w1 HB1.out)
  go_wp2_with fail
  refine (HN.out _).mono ?_
  rintro x w2 ⟨rfl, hb2⟩
  have HB := Lib.hid (HB1.out.trans (hb2.mono HB1.out.size))
  clear hb2 a0 a1 a2 a3 a4 a5 a6 a7 a8 a9 a10
  obtain ⟨a0, a1, a2, a3, a4, a5, a6, a7, a8, a9, a10⟩ := EBox.cells (HX.out w2 HB.out)
  go_upto_region 4 with fail
  go_cut [3, 12] from 10 to 12 (fun z z2 wx => z = .string S0 ∧ z2 = .bool b0 ∧ Below W0.heap.size W0 wx)
  case first =>
    go_wp2_with fail
    refine (H0.out _).mono ?_
    rintro x wq ⟨rfl, hbq⟩
    have HC := Lib.hid (HB.out.trans (hbq.mono HB.out.size))
    clear hbq
    go_wp2_with fail
    go_meet
    case rel => exact ⟨rfl, rfl, HC.out⟩
  case rest =>
    obtain ⟨rfl, rfl, hbc⟩ := hcut
    clear HB a0 a1 a2 a3 a4 a5 a6 a7 a8 a9 a10
    have HB := Lib.hid hbc
    clear hbc
    obtain ⟨a0, a1, a2, a3, a4, a5, a6, a7, a8, a9, a10⟩ := EBox.cells (HX.out wc HB.out)
    go_step
    go_cut [3, 12] from 13 to 18 (fun z z2 wx => z = .string S1 ∧ Below W0.heap.size W0 wx)
    case first =>
      cases hbb : b0 with
      | false =>
        have HE := Lib.hid (F0.out hbb)
        go_wp2_with fail
        go_meet
        case rel => exact ⟨by rw [HE.out], HB.out⟩
      | true =>
        have HE := Lib.hid (T0.out hbb)
        go_wp2_with fail
        refine (HP0.out _).mono ?_
        rintro x wp ⟨rfl, hbq⟩
        have HD := Lib.hid (HB.out.trans (hbq.mono HB.out.size))
        clear hbq
        go_wp2_with fail
        go_meet
        case rel => exact ⟨congrArg Value.string HE.out, HD.out⟩
    case rest =>
      obtain ⟨rfl, hbc⟩ := hcut
      clear HB a0 a1 a2 a3 a4 a5 a6 a7 a8 a9 a10
      have HB := Lib.hid hbc
      clear hbc
      obtain ⟨a0, a1, a2, a3, a4, a5, a6, a7, a8, a9, a10⟩ := EBox.cells (HX.out wc HB.out)
      go_upto_region 6 with fail
      go_cut [3, 21] from 19 to 21 (fun z z2 wx => z = .string S1 ∧ z2 = .bool b1 ∧ Below W0.heap.size W0 wx)
      case first =>
        go_wp2_with fail
        refine (H1.out _).mono ?_
        rintro x wq ⟨rfl, hbq⟩
        have HC := Lib.hid (HB.out.trans (hbq.mono HB.out.size))
        clear hbq
        go_wp2_with fail
        go_meet
        case rel => exact ⟨rfl, rfl, HC.out⟩
      case rest =>
        obtain ⟨rfl, rfl, hbc⟩ := hcut
        clear HB a0 a1 a2 a3 a4 a5 a6 a7 a8 a9 a10
        have HB := Lib.hid hbc
        clear hbc
        obtain ⟨a0, a1, a2, a3, a4, a5, a6, a7, a8, a9, a10⟩ := EBox.cells (HX.out wc HB.out)
        go_step
        go_cut [3, 21] from 22 to 28 (fun z z2 wx => z = .string S2 ∧ Below W0.heap.size W0 wx)
        case first =>
          cases hbb : b1 with
          | false =>
            have HE := Lib.hid (F1.out hbb)
            go_wp2_with fail
            go_meet
            case rel => exact ⟨by rw [HE.out], HB.out⟩
          | true =>
            have HE := Lib.hid (T1.out hbb)
            go_wp2_with fail
            refine (HP1.out _).mono ?_
            rintro x wp ⟨rfl, hbq⟩
            have HD := Lib.hid (HB.out.trans (hbq.mono HB.out.size))
            clear hbq
            go_wp2_with fail
            go_meet
            case rel => exact ⟨congrArg Value.string HE.out, HD.out⟩
        case rest =>
          obtain ⟨rfl, hbc⟩ := hcut
          clear HB a0 a1 a2 a3 a4 a5 a6 a7 a8 a9 a10
          have HB := Lib.hid hbc
          clear hbc
          obtain ⟨a0, a1, a2, a3, a4, a5, a6, a7, a8, a9, a10⟩ := EBox.cells (HX.out wc HB.out)
          go_upto_region 8 with fail
          go_cut [3, 31] from 29 to 31 (fun z z2 wx => z = .string S2 ∧ z2 = .bool b2 ∧ Below W0.heap.size W0 wx)
          case first =>
            go_wp2_with fail
            refine (H2.out _).mono ?_
            rintro x wq ⟨rfl, hbq⟩
            have HC := Lib.hid (HB.out.trans (hbq.mono HB.out.size))
            clear hbq
            go_wp2_with fail
            go_meet
            case rel => exact ⟨rfl, rfl, HC.out⟩
          case rest =>
            obtain ⟨rfl, rfl, hbc⟩ := hcut
            clear HB a0 a1 a2 a3 a4 a5 a6 a7 a8 a9 a10
            have HB := Lib.hid hbc
            clear hbc
            obtain ⟨a0, a1, a2, a3, a4, a5, a6, a7, a8, a9, a10⟩ := EBox.cells (HX.out wc HB.out)
            go_step
            go_cut [3, 31] from 32 to 37 (fun z z2 wx => z = .string S3 ∧ Below W0.heap.size W0 wx)
            case first =>
              cases hbb : b2 with
              | false =>
                have HE := Lib.hid (F2.out hbb)
                go_wp2_with fail
                go_meet
                case rel => exact ⟨by rw [HE.out], HB.out⟩
              | true =>
                have HE := Lib.hid (T2.out hbb)
                go_wp2_with fail
                refine (HP2.out _).mono ?_
                rintro x wp ⟨rfl, hbq⟩
                have HD := Lib.hid (HB.out.trans (hbq.mono HB.out.size))
                clear hbq
                go_wp2_with fail
                go_meet
                case rel => exact ⟨congrArg Value.string HE.out, HD.out⟩
            case rest =>
              obtain ⟨rfl, hbc⟩ := hcut
              clear HB a0 a1 a2 a3 a4 a5 a6 a7 a8 a9 a10
              have HB := Lib.hid hbc
              clear hbc
              obtain ⟨a0, a1, a2, a3, a4, a5, a6, a7, a8, a9, a10⟩ := EBox.cells (HX.out wc HB.out)
              go_upto_region 10 with fail
              go_cut [3, 40] from 38 to 40 (fun z z2 wx => z = .string S3 ∧ z2 = .bool b3 ∧ Below W0.heap.size W0 wx)
              case first =>
                go_wp2_with fail
                refine (H3.out _).mono ?_
                rintro x wq ⟨rfl, hbq⟩
                have HC := Lib.hid (HB.out.trans (hbq.mono HB.out.size))
                clear hbq
                go_wp2_with fail
                go_meet
                case rel => exact ⟨rfl, rfl, HC.out⟩
              case rest =>
                obtain ⟨rfl, rfl, hbc⟩ := hcut
                clear HB a0 a1 a2 a3 a4 a5 a6 a7 a8 a9 a10
                have HB := Lib.hid hbc
                clear hbc
                obtain ⟨a0, a1, a2, a3, a4, a5, a6, a7, a8, a9, a10⟩ := EBox.cells (HX.out wc HB.out)
                go_step
                go_cut [3, 40] from 41 to 46 (fun z z2 wx => z = .string S4 ∧ Below W0.heap.size W0 wx)
                case first =>
                  cases hbb : b3 with
                  | false =>
                    have HE := Lib.hid (F3.out hbb)
                    go_wp2_with fail
                    go_meet
                    case rel => exact ⟨by rw [HE.out], HB.out⟩
                  | true =>
                    have HE := Lib.hid (T3.out hbb)
                    go_wp2_with fail
                    refine (HP3.out _).mono ?_
                    rintro x wp ⟨rfl, hbq⟩
                    have HD := Lib.hid (HB.out.trans (hbq.mono HB.out.size))
                    clear hbq
                    go_wp2_with fail
                    go_meet
                    case rel => exact ⟨congrArg Value.string HE.out, HD.out⟩
                case rest =>
                  obtain ⟨rfl, hbc⟩ := hcut
                  clear HB a0 a1 a2 a3 a4 a5 a6 a7 a8 a9 a10
                  have HB := Lib.hid hbc
                  clear hbc
                  obtain ⟨a0, a1, a2, a3, a4, a5, a6, a7, a8, a9, a10⟩ := EBox.cells (HX.out wc HB.out)
                  go_upto_region 12 with fail
                  go_cut [3, 49] from 47 to 49 (fun z z2 wx => z = .string S4 ∧ z2 = .bool b4 ∧ Below W0.heap.size W0 wx)
                  case first =>
                    go_wp2_with fail
                    refine (H4.out _).mono ?_
                    rintro x wq ⟨rfl, hbq⟩
                    have HC := Lib.hid (HB.out.trans (hbq.mono HB.out.size))
                    clear hbq
                    go_wp2_with fail
                    go_meet
                    case rel => exact ⟨rfl, rfl, HC.out⟩
                  case rest =>
                    obtain ⟨rfl, rfl, hbc⟩ := hcut
                    clear HB a0 a1 a2 a3 a4 a5 a6 a7 a8 a9 a10
                    have HB := Lib.hid hbc
                    clear hbc
                    obtain ⟨a0, a1, a2, a3, a4, a5, a6, a7, a8, a9, a10⟩ := EBox.cells (HX.out wc HB.out)
                    go_step
                    go_cut [3, 49] from 50 to 55 (fun z z2 wx => z = .string S5 ∧ Below W0.heap.size W0 wx)
                    case first =>
                      cases hbb : b4 with
                      | false =>
                        have HE := Lib.hid (F4.out hbb)
                        go_wp2_with fail
                        go_meet
                        case rel => exact ⟨by rw [HE.out], HB.out⟩
                      | true =>
                        have HE := Lib.hid (T4.out hbb)
                        go_wp2_with fail
                        refine (HP4.out _).mono ?_
                        rintro x wp ⟨rfl, hbq⟩
                        have HD := Lib.hid (HB.out.trans (hbq.mono HB.out.size))
                        clear hbq
                        go_wp2_with fail
                        go_meet
                        case rel => exact ⟨congrArg Value.string HE.out, HD.out⟩
                    case rest =>
                      obtain ⟨rfl, hbc⟩ := hcut
                      clear HB a0 a1 a2 a3 a4 a5 a6 a7 a8 a9 a10
                      have HB := Lib.hid hbc
                      clear hbc
                      obtain ⟨a0, a1, a2, a3, a4, a5, a6, a7, a8, a9, a10⟩ := EBox.cells (HX.out wc HB.out)
                      go_upto_region 14 with fail
                      go_cut [3, 58] from 56 to 58 (fun z z2 wx => z = .string S5 ∧ z2 = .bool b5 ∧ Below W0.heap.size W0 wx)
                      case first =>
                        go_wp2_with fail
                        refine (H5.out _).mono ?_
                        rintro x wq ⟨rfl, hbq⟩
                        have HC := Lib.hid (HB.out.trans (hbq.mono HB.out.size))
                        clear hbq
                        go_wp2_with fail
                        go_meet
                        case rel => exact ⟨rfl, rfl, HC.out⟩
                      case rest =>
                        obtain ⟨rfl, rfl, hbc⟩ := hcut
                        clear HB a0 a1 a2 a3 a4 a5 a6 a7 a8 a9 a10
                        have HB := Lib.hid hbc
                        clear hbc
                        obtain ⟨a0, a1, a2, a3, a4, a5, a6, a7, a8, a9, a10⟩ := EBox.cells (HX.out wc HB.out)
                        go_step
                        go_cut [3, 58] from 59 to 64 (fun z z2 wx => z = .string S6 ∧ Below W0.heap.size W0 wx)
                        case first =>
                          cases hbb : b5 with
                          | false =>
                            have HE := Lib.hid (F5.out hbb)
                            go_wp2_with fail
                            go_meet
                            case rel => exact ⟨by rw [HE.out], HB.out⟩
                          | true =>
                            have HE := Lib.hid (T5.out hbb)
                            go_wp2_with fail
                            refine (HP5.out _ HB.out).mono ?_
                            rintro x wp ⟨rfl, hbq⟩
                            have HD := Lib.hid (HB.out.trans (hbq.mono HB.out.size))
                            clear hbq
                            go_wp2_with fail
                            go_meet
                            case rel => exact ⟨congrArg Value.string HE.out, HD.out⟩
                        case rest =>
                          obtain ⟨rfl, hbc⟩ := hcut
                          clear HB a0 a1 a2 a3 a4 a5 a6 a7 a8 a9 a10
                          have HB := Lib.hid hbc
                          clear hbc
                          obtain ⟨a0, a1, a2, a3, a4, a5, a6, a7, a8, a9, a10⟩ := EBox.cells (HX.out wc HB.out)
                          go_wp2_with fail
                          go_ret
                          exact ⟨rfl, HB0.out.trans (HB.out.mono HB0.out.size)⟩

theorem optT_true {b : Bool} (p : List UInt8) (h : b = true) : optT b p = 32 :: p := by subst h; rfl
theorem optT_false {b : Bool} (p : List UInt8) (h : b = false) : optT b p = [] := by subst h; rfl
theorem optT_len (b : Bool) (p : List UInt8) : (optT b p).length ≤ p.length + 1 := by cases b <;> simp [optT]
theorem bs_opt (b : Bool) (a p : List UInt8) : Hid (b = false → bs a = bs (a ++ optT b p)) ∧ Hid (b = true → bs a ++ ⟨#[32]⟩ ++ bs p = bs (a ++ optT b p)) :=
  ⟨Lib.hid fun h => by rw [optT_false p h, List.append_nil], Lib.hid fun h => by rw [optT_true p h, show (⟨#[32]⟩ : ByteArray) = bs [32] from rfl, bs_append, bs_append]; simp⟩
set_option maxHeartbeats 1000000 in
theorem retext_any (e : EV) (hval : e.valid = true) (hf : FieldsOk e) (hfew : e.v.few = true) (lo hi : Nat) (vk vn : Int) (vf : Nat) (vs : ByteArray) (A : Option Addr) (m c : Nat) (w : World) (hv : Rep w lo hi e.v (vCells vk vn vf vs A m c)) (hz : hi ≤ w.heap.size) :
    Calls Tryz.prog 32 #[.agg (evCells e vk vn vf vs A m c)] w fun r w' => r = .returned (.string (etextB e)) ∧ Below w.heap.size w w' := by
  have V := Vf.ve_of hval
  have hfine := Pf.Rep.fine hv
  have hvl := Vf.text_len_few hfine hfew
  have HVA := fun W (hW : Below w.heap.size w W) => Rd.rvalid_all e lo hi vk vn vf vs A m c W (hv.later (hW.mono hz)) (Nat.le_trans hz hW.size)
  obtain ⟨kn, hkn⟩ : ∃ kn : Nat, e.k = kn := ⟨e.k.toNat, by have := V.k1; omega⟩
  obtain ⟨nn, hnn⟩ : ∃ nn : Nat, e.n = nn := ⟨e.n.toNat, by have := V.n1; omega⟩
  have k1 := V.k1; have k2 := V.k2; have n2 := V.n2
  have hkt : e.k.toNat = kn := by omega
  have hit : Lib.itoa e.n = Lib.decDigits nn := by rw [hnn, itoa_pos (by omega)]; rfl
  have hE : etextB e = bs ((nameOf kn).data.toList ++ optT (hasF e 0) (Lib.decDigits e.id) ++ optT (hasF e 1) (Lib.decDigits nn) ++ optT (hasF e 2) (Lib.decDigits e.at') ++ optT (hasF e 3) (stext e.name) ++ optT (hasF e 4) (stext e.text) ++ optT (hasF e 5) (Pf.VT.text e.v)) := by
    unfold etextB etext
    rw [tail_selT, hkt, hit]
    simp only [List.append_assoc]; rfl
  rw [hE]
  have hh : ∀ cc q, (cc, q) ∈ [(105, 0), (110, 1), (97, 2), (115, 3), (116, 4), (118, 5)] → Hid (∀ W, Calls Tryz.prog 45 #[.int .i64 (kn : Nat), .int .u8 (cc : Nat)] W fun r w' => r = .returned (.bool (hasF e q)) ∧ Below W.heap.size W w') := fun cc q hq => Lib.hid fun W => by
    unfold hasF; rw [hkt]; exact has_field kn (by omega) (by omega) cc q hq W
  unfold evCells at HVA ⊢
  rw [hkn, hnn, hval] at HVA
  rw [hkn, hnn]
  have ln := Vf.name_len kn
  have d0 := Vf.dec_len e.id hf.i1; have d1 := Vf.dec_len nn (by omega); have d2 := Vf.dec_len e.at' hf.a1
  have d3 := Vf.stext_len e.name; have d4 := Vf.stext_len e.text
  have s1 := V.s1; have s2 := V.t1
  have o0 := optT_len (hasF e 0) (Lib.decDigits e.id); have o1 := optT_len (hasF e 1) (Lib.decDigits nn); have o2 := optT_len (hasF e 2) (Lib.decDigits e.at'); have o3 := optT_len (hasF e 3) (stext e.name); have o4 := optT_len (hasF e 4) (stext e.text)
  refine retext_walk kn e.id nn e.at' e.name e.text (by omega) vk vn vf vs A m c (hasF e 0) (hasF e 1) (hasF e 2) (hasF e 3) (hasF e 4) (hasF e 5) (bs (nameOf kn).data.toList) (bs _) (bs _) (bs _) (bs _) (bs _) (bs _) (bs (Lib.decDigits e.id)) (bs (Lib.decDigits nn)) (bs (Lib.decDigits e.at')) (bs (stext e.name)) (bs (stext e.text)) (bs (Pf.VT.text e.v)) w
    ?_ ?_ ?_ ?_ ?_ ?_ ?_ ?_ ?_ ?_ ?_ ?_ (bs_opt _ _ _).1 (bs_opt _ _ _).2 (bs_opt _ _ _).1 (bs_opt _ _ _).2 (bs_opt _ _ _).1 (bs_opt _ _ _).2 (bs_opt _ _ _).1 (bs_opt _ _ _).2 (bs_opt _ _ _).1 (bs_opt _ _ _).2 (bs_opt _ _ _).1 (bs_opt _ _ _).2
    (hh 105 0 (by simp)) (hh 110 1 (by simp)) (hh 97 2 (by simp)) (hh 115 3 (by simp)) (hh 116 4 (by simp)) (hh 118 5 (by simp)) (Lib.hid fun W => by rw [bs_list]; exact rname_any kn (by omega) (by omega) W)
    (Lib.hid fun W => runsigned_any e.id hf.i1 W) (Lib.hid fun W => runsigned_any nn (by omega) W) (Lib.hid fun W => runsigned_any e.at' hf.a1 W) (Lib.hid fun W => rquoted_any e.name s1 W) (Lib.hid fun W => rquoted_any e.text s2 W)
    (fun W hW => rvtext_any e.v (by omega) (Vf.slim_up (Vt.slim_of_few e.v hfew)) lo hi _ W (hv.later (hW.mono hz)) (Nat.le_trans hz hW.size) V.v1) HVA
  all_goals (rw [bs_size]; try simp only [List.length_append]); omega

end Rg
end Go.Proofs.YtjfhnkhabipbdaaGreatDoor
