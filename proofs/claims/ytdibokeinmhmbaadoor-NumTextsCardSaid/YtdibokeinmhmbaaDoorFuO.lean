/- The listed tables; retry.Text of a policy. -/
import Derived.Test.YtdibokeinmhmbaaDoorFuL
import Derived.Test.YtdibokeinmhmbaaDoorFuN
import Derived.Lib.LaidTab
import Derived.LaidSub
namespace Go.Proofs.YtdibokeinmhmbaaDoor
open Go.RowKit
set_option linter.unusedVariables false
namespace Fu
open _root_.Go.Proofs.YtdibokeinmhmbaaDoor.Nm (bitsW bitsW_lt)
open _root_.Go.Proofs.YtdibokeinmhmbaaDoor.Rt (pol Vld valid_yes valid_no PolAt polAt_new)
/-- The listed tables that texts lean on. -/
def Tabs (w : World) : Prop := Lib.TabIs Tryd.prog w "internal/strconv.uint64pow10" .u64 Lib.pow10Tab ∧ w.cell? ⟨6, 15, none⟩ = some (.int .u8 4) ∧ 6 < w.heap.size
theorem Tabs.later {w w' : World} (h : Tabs w) (hb : Below w.heap.size w w') : Tabs w' :=
  ⟨tab_later h.1 hb, (hb.cell (p := ⟨6, 15, none⟩) h.2.2).trans h.2.1, Nat.lt_of_lt_of_le h.2.2 hb.size⟩
def deb64 : List Int := [0, 1, 56, 2, 57, 49, 28, 3, 61, 58, 42, 50, 38, 29, 17, 4, 62, 47, 59, 36, 45, 43, 51, 22, 53, 39, 33, 30, 24, 18, 12, 5, 63, 55, 48, 27, 60, 41, 37, 16, 46, 35, 44, 21, 52, 32, 23, 11, 54, 26, 40, 15, 34, 20, 31, 10, 25, 14, 19, 9, 13, 8, 7, 6]
theorem tabs_of_laid {l : List (String × DataW Unit)} {W : World}
    (h1 : ((l.filter fun x => x.2.handleName?.isNone).filter fun x => x.1 == "internal/strconv.uint64pow10") = [("internal/strconv.uint64pow10", Lib.tabData .u64 Lib.pow10Tab)])
    (h2 : ((l.filter fun x => x.2.handleName?.isNone).filter fun x => x.1 == "math/bits.deBruijn64tab") = [("math/bits.deBruijn64tab", Lib.tabData .u8 deb64)])
    (h : laidMetH Tryd.prog l W) : Tabs W := by
  obtain ⟨hm, -⟩ := laidMetH_iff.1 h
  have k1 := hm.filter (fun x => x.1 == "internal/strconv.uint64pow10")
  have k2 := hm.filter (fun x => x.1 == "math/bits.deBruijn64tab")
  rw [h1] at k1
  rw [h2] at k2
  have t1 := Lib.tabIs_of_head (g := 1) (t := 111) (e := 22) (n := 20) (by kernel_rfl) (by kernel_rfl) Tryd.underlying111 Tryd.underlying22 (by kernel_rfl) (by kernel_rfl) k1
  have t2 := Lib.tabIs_of_head (g := 6) (t := 129) (e := 5) (n := 64) (by kernel_rfl) (by kernel_rfl) Tryd.underlying129 Tryd.underlying5 (by kernel_rfl) (by kernel_rfl) k2
  have c2 := Lib.TabIs.cell t2 (g := 6) (by kernel_rfl) 15 (by decide)
  refine ⟨t1, c2, ?_⟩
  rcases Nat.lt_or_ge 6 W.heap.size with h' | h'
  · exact h'
  · simp [World.cell?, Array.getElem?_eq_none h'] at c2
theorem dec_any (u : Nat) (hu : u < 18446744073709551616) (w : World) (ht : Tabs w) :
    Calls Tryd.prog 27 #[.int .u64 u] w fun e w' => e = .returned (.string (decB u)) ∧ Below w.heap.size w w' := by
  have H : Hid (Calls Tryd.prog 28 #[.int .u64 u, .int .i64 10] w fun e w' => e = .returned (.string (decB u)) ∧ Below w.heap.size w w') := Lib.hid (fmtu_any u hu w ht.1)
  generalize decB u = r at *
  clear hu ht
  go_enter Tryd.func27, Tryd.ntmps27
  go_wp2_with fail
  refine H.out.mono ?_
  rintro e w1 ⟨rfl, hb⟩
  go_wp2_with fail
  go_ret
  exact ⟨rfl, hb⟩
theorem ptext_no (most : Int) (wt fb lim tmo : Nat) (hv : ¬ Vld most wt lim tmo) (w : World) :
    Calls Tryd.prog 10 #[pol most wt fb lim tmo] w fun e w' => e = .returned (.string ⟨#[]⟩) ∧ Below w.heap.size w w' := by
  have HV := Lib.hid (fun w => valid_no most wt fb lim tmo hv w)
  clear hv
  unfold pol at *
  go_enter Tryd.func10, Tryd.ntmps10
  go_wp2_with fail
  refine (HV.out _).mono ?_
  rintro e w1 ⟨rfl, hb⟩
  go_wp2_with fail
  go_ret
  exact ⟨rfl, ((Below.refl _ w).alloc (Nat.le_refl _) _).trans (hb.mono (by simp))⟩
theorem len_size (b : ByteArray) : b.data.toList.length = b.size := by cases b; rfl
theorem ptext_yes (most : Int) (wt fb lim tmo : Nat) (hfb : fb < 18446744073709551616) (hv : Vld most wt lim tmo) (w : World) (ht : Tabs w) :
    Calls Tryd.prog 10 #[pol most wt fb lim tmo] w fun e w' => e = .returned (.string (polText most wt (bitsW fb) lim tmo)) ∧ Below w.heap.size w w' := by
  have hv0 := hv
  obtain ⟨v1, v2, v3, v4, v5⟩ := hv0
  have hj := joinT_pol most wt (bitsW fb) lim tmo
  refine ptext_walk most wt fb lim tmo (decB most.toNat) (decB wt) (textW (bitsW fb)) (decB lim) (decB tmo) _ hv w hj ?_ (fun W hW => ?_) (fun W hW => dec_any wt (by omega) W (ht.later hW)) (fun W hW => ntext_any fb hfb W (ht.later hW).2.1 (ht.later hW).2.2) (fun W hW => dec_any lim (by omega) W (ht.later hW)) (fun W hW => dec_any tmo (by omega) W (ht.later hW))
  · have h2 := congrArg (fun b : ByteArray => b.data.toList.length) hj
    simp only at h2
    rw [h2]
    have l0 := decB_size most.toNat (by omega)
    have l1 := decB_size wt (by omega)
    have l2 := textW_size (bitsW fb)
    have l3 := decB_size lim (by omega)
    have l4 := decB_size tmo (by omega)
    rw [len_size]
    unfold polText
    simp only [ByteArray.size_append]
    have h4 : (⟨#[47]⟩ : ByteArray).size = 1 := rfl
    omega
  · have h := itoa_any most (by omega) (by omega) W (ht.later hW).1
    have e : (⟨(Lib.itoa most).toArray⟩ : ByteArray) = decB most.toNat := by
      unfold decB Lib.itoa
      rw [if_neg (by omega)]
    rw [e] at h
    exact h
end Fu
end Go.Proofs.YtdibokeinmhmbaaDoor
