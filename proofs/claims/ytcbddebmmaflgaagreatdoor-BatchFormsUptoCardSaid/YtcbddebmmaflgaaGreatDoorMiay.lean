/- bin.Reader's Uint, Int, Take, Bytes, Text as pure steps. -/
/- bin.Reader's Int. -/
/- Values and events that are read, as pure steps. No program in sight. -/
/- What is read is a form: values. No program in sight. -/
/- The reference's Valid answers as the program's of any event of a kind from 1 to 11. -/
/- The reference's readers: number, ReadUint, ReadInt. -/
/- The reference's ReadUint, ReadInt, Take, ReadBytes. -/
import Derived.Test.YtcbddebmmaflgaaGreatDoorMiax
import Derived.Test.YtcbddebmmaflgaaGreatDoorMiat
import Derived.Laws.BitsAllLaws
import Derived.Test.YtcbddebmmaflgaaGreatDoorMiab
import Derived.Test.YtcbddebmmaflgaaGreatDoorMiaj
import Derived.Test.YtcbddebmmaflgaaGreatDoorMiah
namespace Go.Proofs.YtcbddebmmaflgaaGreatDoor
open Go.RowKit
set_option linter.unusedVariables false
set_option linter.unusedSimpArgs false
namespace Rd
open _root_.Go.Proofs.YtcbddebmmaflgaaGreatDoor.Nm (ret_int ret_bool)
open Vt (below_drew)
open Bt (BOwn BIn bv ubytes sb)
open Cn (BRd brd_own)
open Cm (OnlyAt)

/-- A reader's state: what is left, is it bad? -/
abbrev St := List Nat × Bool
def nxt (s : St) : Option (Nat × Nat) := if s.2 then none else num s.1
def rUint (s : St) : St × Nat := match nxt s with | some (x, n) => ((s.1.drop n, false), x) | none => ((s.1, true), 0)
def rTake (s : St) (n : Nat) : St × List Nat := if s.2 = false ∧ n ≤ s.1.length then ((s.1.drop n, false), s.1.take n) else ((s.1, true), [])
def rBytes (s : St) : St × List Nat := match nxt s with
  | some (x, n) => if x ≤ s.1.length - n then ((s.1.drop (n + x), false), (s.1.drop n).take x) else ((s.1, true), [])
  | none => ((s.1, true), [])
/-- Bytes as a string. -/
def strOf (l : List Nat) : ByteArray := ⟨(l.map UInt8.ofNat).toArray⟩

/-- A reader in a memory. -/
def RS (w : World) (g : Nat) (s : St) : Prop := (∃ v, RAt w g v s.1 s.2) ∧ Byt s.1 ∧ s.1.length ≤ 1099511627776
theorem RS.later {w w' : World} {g : Nat} {s : St} (h : RS w g s) (hb : Below w.heap.size w w') : RS w' g s := ⟨h.1.imp fun v hv => hv.later hb, h.2⟩
theorem RS.frame {w w' : World} {g : Nat} {s : St} (h : RS w g s) (hz : w.heap.size ≤ w'.heap.size) (hk : ∀ b, b ≤ g → w'.heap[b]? = w.heap[b]?) : RS w' g s := ⟨h.1.imp fun v hv => hv.frame hz hk, h.2⟩
theorem RS.lt {w : World} {g : Nat} {s : St} (h : RS w g s) : g < w.heap.size := by obtain ⟨⟨v, hv⟩, -⟩ := h; exact hv.cells.2.2.2
theorem byt_drop {l : List Nat} (h : Byt l) (n : Nat) : Byt (l.drop n) := fun b hb => h b (List.mem_of_mem_drop hb)
theorem byt_take {l : List Nat} (h : Byt l) (n : Nat) : Byt (l.take n) := fun b hb => h b (List.mem_of_mem_take hb)
theorem nxt_le {s : St} (hb : Byt s.1) {x n : Nat} (h : nxt s = some (x, n)) : s.2 = false ∧ n ≤ s.1.length ∧ x < 18446744073709551616 := by
  unfold nxt at h
  cases hs : s.2 with
  | true => rw [hs] at h; cases h
  | false =>
    rw [hs, if_neg (by simp)] at h
    obtain ⟨h1, -, -, h4, -⟩ := num_some hb h
    exact ⟨rfl, h4, h1⟩
theorem rUint_byt {s : St} (hb : Byt s.1) (hl : s.1.length ≤ 1099511627776) : Byt (rUint s).1.1 ∧ (rUint s).1.1.length ≤ 1099511627776 := by
  unfold rUint
  split
  · exact ⟨byt_drop hb _, by simp only [List.length_drop]; omega⟩
  · exact ⟨hb, hl⟩
theorem rTake_byt {s : St} (hb : Byt s.1) (hl : s.1.length ≤ 1099511627776) (n : Nat) : Byt (rTake s n).1.1 ∧ (rTake s n).1.1.length ≤ 1099511627776 := by
  unfold rTake
  split
  · exact ⟨byt_drop hb _, by simp only [List.length_drop]; omega⟩
  · exact ⟨hb, hl⟩
theorem rBytes_byt {s : St} (hb : Byt s.1) (hl : s.1.length ≤ 1099511627776) : Byt (rBytes s).1.1 ∧ (rBytes s).1.1.length ≤ 1099511627776 ∧ Byt (rBytes s).2 := by
  unfold rBytes
  split
  · split
    · exact ⟨byt_drop hb _, by simp only [List.length_drop]; omega, byt_take (byt_drop hb _) _⟩
    · exact ⟨hb, hl, fun b h => by simp at h⟩
  · exact ⟨hb, hl, fun b h => by simp at h⟩

set_option maxRecDepth 100000 in
set_option maxHeartbeats 1000000 in
theorem uint_any (g : Nat) (s : St) (w : World) (h : RS w g s) :
    Calls Tryz.prog 31 #[.pointer (some ⟨g, 0, none⟩)] w fun r w' => r = .returned (.int .u64 (rUint s).2) ∧ RS w' g (rUint s).1 ∧ OnlyAt w w' g none := by
  obtain ⟨⟨v, hr⟩, hb, hl⟩ := h
  obtain ⟨c0, c1, c2, c3⟩ := hr.cells
  have HP := Lib.hid (peek_any g v s.1 s.2 hb w hr)
  have HR := Lib.hid hr
  have HBY := Lib.hid (rUint_byt hb hl)
  unfold Peeked at HP
  have hx : (if s.2 = true then none else num s.1) = nxt s := rfl
  rw [hx] at HP
  clear c2 hx hr
  cases hn : nxt s with
  | none =>
    have HU : Hid (rUint s = ((s.1, true), 0)) := Lib.hid (by unfold rUint; rw [hn])
    rw [hn] at HP
    have HF := Lib.hid fun W (hW : RAt W g v s.1 s.2) => fail_any g v s.1 s.2 W hW
    rw [HU.out] at HBY ⊢
    clear hn hb hl
    go_enter Tryz.func31, Tryz.ntmps31
    go_wp2_with fail
    refine HP.out.mono ?_
    rintro e w1 ⟨rfl, hb1⟩
    have HB1 := Lib.hid hb1; clear hb1
    go_wp2_with fail
    refine (HF.out _ (HR.out.later HB1.out)).mono ?_
    rintro e w2 ⟨rfl, hr2, ho2⟩
    have HR2 := Lib.hid hr2; have HO2 := Lib.hid ho2; clear hr2 ho2
    go_wp2_with fail
    go_ret
    exact ⟨rfl, ⟨⟨v, HR2.out⟩, HBY.out⟩, (OnlyAt.of_below HB1.out).trans HO2.out⟩
  | some p =>
    obtain ⟨x, n⟩ := p
    obtain ⟨hs2, hnl, hx⟩ := nxt_le hb hn
    have HU : Hid (rUint s = ((s.1.drop n, false), x)) := Lib.hid (by unfold rUint; rw [hn])
    rw [hn] at HP
    have HC := Lib.hid fun W (hW : RAt W g v s.1 false) => cut_ok g v s.1 n hnl W hW
    unfold Cut at HC
    rw [hs2] at HR
    rw [HU.out] at HBY ⊢
    clear hn hb hl hs2
    go_enter Tryz.func31, Tryz.ntmps31
    go_wp2_with fail
    refine HP.out.mono ?_
    rintro e w1 ⟨rfl, hb1⟩
    have HB1 := Lib.hid hb1; clear hb1
    go_wp2_with fail
    refine (HC.out _ (HR.out.later HB1.out)).mono ?_
    rintro e w2 ⟨v', x', rfl, hx', hf', hr2, ho2⟩
    have HR2 := Lib.hid hr2; have HO2 := Lib.hid ho2; clear hr2 ho2 hx' hf'
    go_wp2_with fail
    go_ret
    exact ⟨rfl, ⟨⟨v', HR2.out⟩, HBY.out⟩, (OnlyAt.of_below HB1.out).trans HO2.out⟩

theorem take_any (g : Nat) (s : St) (n : Nat) (w : World) (h : RS w g s) :
    Calls Tryz.prog 30 #[.pointer (some ⟨g, 0, none⟩), .int .i64 n] w fun r w' => ∃ x, r = .returned x ∧ BRd w' x (rTake s n).2 ∧ RS w' g (rTake s n).1 ∧ OnlyAt w w' g none := by
  obtain ⟨⟨v, hr⟩, hb, hl⟩ := h
  have hby := rTake_byt hb hl n
  by_cases hc : s.2 = false ∧ n ≤ s.1.length
  · have hU : rTake s n = ((s.1.drop n, false), s.1.take n) := by unfold rTake; rw [if_pos hc]
    rw [hU] at hby ⊢
    rw [hc.1] at hr
    refine (take_ok g v s.1 (by omega) n hc.2 w hr).mono fun r w' ⟨v', x, h1, h2, h3, h4⟩ => ⟨x, h1, h2, ⟨⟨v', h3⟩, hby⟩, h4⟩
  · have hU : rTake s n = ((s.1, true), []) := by unfold rTake; rw [if_neg hc]
    rw [hU] at hby ⊢
    have hn : s.2 = true ∨ (s.1.length : Int) < n := by
      cases h2 : s.2 with
      | true => exact .inl rfl
      | false => exact .inr (by have := Nat.lt_of_not_le fun h => hc ⟨h2, h⟩; omega)
    refine (take_no g v s.1 s.2 n (by omega) hn w hr).mono fun r w' ⟨h1, h3, h4⟩ => ⟨_, h1, .inl ⟨rfl, rfl⟩, ⟨⟨v, h3⟩, hby⟩, h4⟩

set_option maxRecDepth 100000 in
set_option maxHeartbeats 1000000 in
theorem bytes_any (g : Nat) (s : St) (w : World) (h : RS w g s) :
    Calls Tryz.prog 78 #[.pointer (some ⟨g, 0, none⟩)] w fun r w' => ∃ x, r = .returned x ∧ BRd w' x (rBytes s).2 ∧ RS w' g (rBytes s).1 ∧ OnlyAt w w' g none := by
  obtain ⟨⟨v, hr⟩, hb, hl⟩ := h
  obtain ⟨c0, c1, c2, c3⟩ := hr.cells
  have HP := Lib.hid (peek_any g v s.1 s.2 hb w hr)
  have HR := Lib.hid hr
  have HBY : Hid (Byt (rBytes s).1.1 ∧ (rBytes s).1.1.length ≤ 1099511627776) := Lib.hid (by obtain ⟨h1, h2, -⟩ := rBytes_byt hb hl; exact ⟨h1, h2⟩)
  unfold Peeked at HP
  have hx : (if s.2 = true then none else num s.1) = nxt s := rfl
  rw [hx] at HP
  have HF := Lib.hid fun W (hW : RAt W g v s.1 s.2) => fail_any g v s.1 s.2 W hW
  clear c2 hx hr
  cases hn : nxt s with
  | none =>
    have HU : Hid (rBytes s = ((s.1, true), [])) := Lib.hid (by unfold rBytes; rw [hn])
    rw [hn] at HP
    rw [HU.out] at HBY ⊢
    clear hn hb hl
    go_enter Tryz.func78, Tryz.ntmps78
    go_wp2_with fail
    refine HP.out.mono ?_
    rintro e w1 ⟨rfl, hb1⟩
    have HB1 := Lib.hid hb1; clear hb1
    go_wp2_with fail
    refine (HF.out _ (HR.out.later HB1.out)).mono ?_
    rintro e w2 ⟨rfl, hr2, ho2⟩
    have HR2 := Lib.hid hr2; have HO2 := Lib.hid ho2; clear hr2 ho2
    go_wp2_with fail
    go_ret
    exact ⟨_, rfl, .inl ⟨rfl, rfl⟩, ⟨⟨v, HR2.out⟩, HBY.out⟩, (OnlyAt.of_below HB1.out).trans HO2.out⟩
  | some p =>
    obtain ⟨x, n⟩ := p
    obtain ⟨hs2, hnl, hx⟩ := nxt_le hb hn
    rw [hn] at HP
    rw [hs2] at HR HF
    obtain ⟨A, cap, hv⟩ := HR.out.rd.form
    have KS : Hid (∀ W, Below w.heap.size w W → W.cell? ⟨g, 0, none⟩ = some (.slice A s.1.length cap)) := Lib.hid fun W hW => by
      have := (HR.out.later hW).cells.1
      rw [hv] at this
      exact this
    have hwr : IntKind.u64.wrap ((s.1.length : Int) - (n : Int)) = ((s.1.length - n : Nat) : Int) := by rw [IntKind.wrap_u64]; omega
    obtain ⟨m, hm⟩ : ∃ m, m = s.1.length - n := ⟨_, rfl⟩
    by_cases hxm : x ≤ s.1.length - n
    · have HU : Hid (rBytes s = ((s.1.drop (n + x), false), (s.1.drop n).take x)) := Lib.hid (by unfold rBytes; rw [hn]; simp only; rw [if_pos hxm])
      have HC := Lib.hid fun W (hW : RAt W g v s.1 false) => cut_ok g v s.1 n hnl W hW
      unfold Cut at HC
      have HT := Lib.hid fun W v' (hW : RAt W g v' (s.1.drop n) false) => take_ok g v' (s.1.drop n) (by rw [List.length_drop]; omega) x (by rw [List.length_drop]; exact hxm) W hW
      unfold Took at HT
      rw [HU.out] at HBY ⊢
      have k1 : decide ((x : Int) > (m : Int)) = false := decide_eq_false (by omega)
      have k2 : decide ((m : Int) < (x : Int)) = false := decide_eq_false (by omega)
      have k3 : decide (m < x) = false := decide_eq_false (by omega)
      rw [← hm] at hwr
      have hwx : IntKind.i64.wrap (x : Int) = (x : Int) := by rw [IntKind.wrap_i64]; omega
      have HL := Lib.hid hl
      have HD : Hid ((s.1.drop n).drop x = s.1.drop (n + x)) := Lib.hid (List.drop_drop ..)
      clear hn hb hs2 hv hm hxm
      go_enter Tryz.func78, Tryz.ntmps78
      go_wp2_with fail
      refine HP.out.mono ?_
      rintro e w1 ⟨rfl, hb1⟩
      have HB1 := Lib.hid hb1
      have d0 := KS.out w1 hb1
      clear hb1
      go_wp2_with fail
      refine (HC.out _ (HR.out.later HB1.out)).mono ?_
      rintro e w2 ⟨v', x', rfl, hx', hf', hr2, ho2⟩
      have HR2 := Lib.hid hr2; have HO2 := Lib.hid ho2; clear hr2 ho2 hx' hf' d0
      go_wp2_with fail
      refine (HT.out _ v' HR2.out).mono ?_
      rintro e w3 ⟨v3, x3, rfl, hx3, hr3, ho3⟩
      have HX3 := Lib.hid hx3; have HR3 := Lib.hid hr3; have HO3 := Lib.hid ho3; clear hr3 ho3 hx3
      go_wp2_with fail
      go_ret
      exact ⟨x3, rfl, HX3.out, ⟨⟨v3, by have := HR3.out; rw [HD.out] at this; exact this⟩, HBY.out⟩, ((OnlyAt.of_below HB1.out).trans HO2.out).trans HO3.out⟩
    · have HU : Hid (rBytes s = ((s.1, true), [])) := Lib.hid (by unfold rBytes; rw [hn]; simp only; rw [if_neg hxm])
      rw [HU.out] at HBY ⊢
      have k1 : decide ((x : Int) > (m : Int)) = true := decide_eq_true (by omega)
      have k2 : decide ((m : Int) < (x : Int)) = true := decide_eq_true (by omega)
      have k3 : decide (m < x) = true := decide_eq_true (by omega)
      rw [← hm] at hwr
      clear hn hb hs2 hv hm hxm
      go_enter Tryz.func78, Tryz.ntmps78
      go_wp2_with fail
      refine HP.out.mono ?_
      rintro e w1 ⟨rfl, hb1⟩
      have HB1 := Lib.hid hb1
      have d0 := KS.out w1 hb1
      clear hb1
      go_wp2_with fail
      refine (HF.out _ (HR.out.later HB1.out)).mono ?_
      rintro e w2 ⟨rfl, hr2, ho2⟩
      have HR2 := Lib.hid hr2; have HO2 := Lib.hid ho2; clear hr2 ho2 d0
      go_wp2_with fail
      go_ret
      exact ⟨_, rfl, .inl ⟨rfl, rfl⟩, ⟨⟨v, HR2.out⟩, HBY.out⟩, (OnlyAt.of_below HB1.out).trans HO2.out⟩

set_option maxRecDepth 100000 in
theorem text_any (g : Nat) (s : St) (w : World) (h : RS w g s) :
    Calls Tryz.prog 37 #[.pointer (some ⟨g, 0, none⟩)] w fun r w' => r = .returned (.string (strOf (rBytes s).2)) ∧ RS w' g (rBytes s).1 ∧ OnlyAt w w' g none := by
  have HC := Lib.hid (bytes_any g s w h)
  have HY := Lib.hid (rBytes_byt h.2.1 h.2.2).2.2
  clear h
  go_enter Tryz.func37, Tryz.ntmps37
  go_wp2_with fail
  refine HC.out.mono ?_
  rintro e w1 ⟨x, rfl, hx, hr, ho⟩
  have hcv := (brd_in hx).toText HY.out
  have HR := Lib.hid hr; have HO := Lib.hid ho; clear hx hr ho
  obtain ⟨tx, htx⟩ : ∃ tx : ByteArray, tx = ⟨((rBytes s).2.map UInt8.ofNat).toArray⟩ := ⟨_, rfl⟩
  rw [← htx] at hcv
  have HTX := Lib.hid htx; clear htx
  go_wp2_with fail
  go_ret
  exact ⟨congrArg (fun b => Ending.returned (Value.string b)) HTX.out, HR.out, HO.out⟩
end Rd
end Go.Proofs.YtcbddebmmaflgaaGreatDoor
namespace Go.Proofs.YtcbddebmmaflgaaGreatDoor
open Go.RowKit
set_option linter.unusedVariables false
set_option linter.unusedSimpArgs false
namespace Rd
open _root_.Go.Proofs.YtcbddebmmaflgaaGreatDoor.Nm (ret_int ret_bool)
open Cm (OnlyAt)

/-- The number with a sign that a number stands for. -/
def unzz (x : Nat) : Int := if x % 2 = 0 then ((x / 2 : Nat) : Int) else -((x / 2 : Nat) : Int) - 1
theorem xor_m1 (y : Nat) (h : y < 9223372036854775808) : bits BinOp.xor IntKind.i64 (y : Int) (-1) = -(y : Int) - 1 := by
  show IntKind.i64.wrap (((BitVec.ofInt 64 (y : Int)) ^^^ (BitVec.ofInt 64 (-1))).toNat : Int) = _
  rw [show BitVec.ofInt 64 (-1) = BitVec.allOnes 64 from by decide, BitVec.ofInt_natCast, BitVec.xor_allOnes, BitVec.toNat_not, BitVec.toNat_ofNat, IntKind.wrap_i64]
  omega
theorem xor_0 (y : Nat) (h : y < 9223372036854775808) : bits BinOp.xor IntKind.i64 (y : Int) 0 = (y : Int) := by
  show IntKind.i64.wrap (((BitVec.ofInt 64 (y : Int)) ^^^ (BitVec.ofInt 64 0)).toNat : Int) = _
  rw [show BitVec.ofInt 64 0 = 0#64 from by decide, BitVec.ofInt_natCast, BitVec.xor_zero, BitVec.toNat_ofNat, IntKind.wrap_i64]
  omega
theorem unzz_bits (x : Nat) (h : x < 18446744073709551616) : bits BinOp.xor IntKind.i64 ((x : Int) / 2) (wrap64 (-wrap64 (bits BinOp.and IntKind.u64 (x : Int) 1))) = unzz x := by
  have e1 : bits BinOp.and IntKind.u64 (x : Int) 1 = ((x % 2 : Nat) : Int) := by
    have := bits_and_u64_nat x 1 h (by omega)
    rw [Nat.and_one_is_mod] at this
    exact this
  rw [e1, show (x : Int) / 2 = ((x / 2 : Nat) : Int) from by omega]
  unfold unzz
  rcases Nat.mod_two_eq_zero_or_one x with h0 | h0
  · rw [h0, if_pos rfl, show wrap64 (-wrap64 ((0 : Nat) : Int)) = 0 from by simp [wrap64]]
    exact xor_0 (x / 2) (by omega)
  · rw [h0, if_neg (by omega), show wrap64 (-wrap64 ((1 : Nat) : Int)) = -1 from by simp [wrap64]]
    exact xor_m1 (x / 2) (by omega)

set_option maxRecDepth 100000 in
theorem int_any (g : Nat) (s : St) (w : World) (h : RS w g s) :
    Calls Tryz.prog 106 #[.pointer (some ⟨g, 0, none⟩)] w fun r w' => r = .returned (.int .i64 (unzz (rUint s).2)) ∧ RS w' g (rUint s).1 ∧ OnlyAt w w' g none := by
  have HC := Lib.hid (uint_any g s w h)
  obtain ⟨x, hx⟩ : ∃ x, x = (rUint s).2 := ⟨_, rfl⟩
  have hxl : x < 18446744073709551616 := by
    rw [hx]; unfold rUint
    split
    · rename_i a b hn
      exact (nxt_le h.2.1 hn).2.2
    · show (0 : Nat) < _
      omega
  rw [hx] at hxl
  have HXL := Lib.hid hxl
  clear h
  go_enter Tryz.func106, Tryz.ntmps106
  go_wp2_with fail
  refine HC.out.mono ?_
  rintro e w1 ⟨rfl, hr, ho⟩
  have HR := Lib.hid hr; have HO := Lib.hid ho; clear hr ho
  go_wp2_with fail
  go_ret
  exact ⟨congrArg (fun n => Ending.returned (Value.int .i64 n)) (unzz_bits _ HXL.out), HR.out, HO.out⟩
end Rd
end Go.Proofs.YtcbddebmmaflgaaGreatDoor
namespace Go.Proofs.YtcbddebmmaflgaaGreatDoor
open Go.RowKit
set_option linter.unusedVariables false
set_option linter.unusedSimpArgs false
namespace Rd
open _root_.Go.Proofs.YtcbddebmmaflgaaGreatDoor.Nm (bitsW ofW okW)
open Bt (ubytes sb)
open Vt (VT)
open Ev (EV fieldsOf)

/-- n readings, one behind another. -/
def rep {α : Type} (p : St → Option (St × α)) : Nat → St → Option (St × List α)
  | 0, s => some (s, [])
  | n + 1, s => match p s with
    | none => none
    | some (s1, t) => match rep p n s1 with
      | none => none
      | some (s2, ts) => some (s2, t :: ts)
theorem rep_some {α : Type} {p : St → Option (St × α)} {n : Nat} {s s1 : St} {t : α} (h : p s = some (s1, t)) : rep p (n + 1) s = (rep p n s1).map fun q => (q.1, t :: q.2) := by
  rw [rep, h]
  cases h2 : rep p n s1 with
  | none => simp [h2]
  | some q => obtain ⟨a, b⟩ := q; simp [h2]
theorem rep_none {α : Type} {p : St → Option (St × α)} {n : Nat} {s : St} (h : p s = none) : rep p (n + 1) s = none := by
  rw [rep, h]
/-- Bytes as a number, the highest first. -/
def beN (l : List Nat) : Nat := l.foldl (fun a b => a * 256 + b) 0

/-- A value's reading. -/
def pv : Nat → St → Option (St × VT)
  | left, s =>
    let q := rUint s
    if q.1.2 = true ∨ 4 < q.2 then none
    else if q.2 = 0 then some (q.1, .mk 0 0 0 ⟨#[]⟩ [])
    else if q.2 = 1 then (let z := rUint q.1; if z.1.2 = true then none else some (z.1, .mk 1 (unzz z.2) 0 ⟨#[]⟩ []))
    else if q.2 = 2 then (let z := rTake q.1 8; if z.1.2 = true ∨ okW (beN z.2) = false then none else some (z.1, .mk 2 0 (ofW (beN z.2)) ⟨#[]⟩ []))
    else if q.2 = 3 then (let z := rBytes q.1; if z.1.2 = true then none else some (z.1, .mk 3 0 0 (strOf z.2) []))
    else match left with
      | 0 => none
      | left + 1 => let z := rUint q.1; match rep (pv left) z.2 z.1 with
        | none => none
        | some (s3, ts) => if s3.2 = true then none else some (s3, .mk 4 0 0 ⟨#[]⟩ ts)

theorem pv_eq (left : Nat) (s : St) : pv left s = (if (rUint s).1.2 = true ∨ 4 < (rUint s).2 then none
    else if (rUint s).2 = 0 then some ((rUint s).1, .mk 0 0 0 ⟨#[]⟩ [])
    else if (rUint s).2 = 1 then (if (rUint (rUint s).1).1.2 = true then none else some ((rUint (rUint s).1).1, .mk 1 (unzz (rUint (rUint s).1).2) 0 ⟨#[]⟩ []))
    else if (rUint s).2 = 2 then (if (rTake (rUint s).1 8).1.2 = true ∨ okW (beN (rTake (rUint s).1 8).2) = false then none else some ((rTake (rUint s).1 8).1, .mk 2 0 (ofW (beN (rTake (rUint s).1 8).2)) ⟨#[]⟩ []))
    else if (rUint s).2 = 3 then (if (rBytes (rUint s).1).1.2 = true then none else some ((rBytes (rUint s).1).1, .mk 3 0 0 (strOf (rBytes (rUint s).1).2) []))
    else match left with
      | 0 => none
      | left + 1 => match rep (pv left) (rUint (rUint s).1).2 (rUint (rUint s).1).1 with
        | none => none
        | some (s3, ts) => if s3.2 = true then none else some (s3, .mk 4 0 0 ⟨#[]⟩ ts)) := by
  cases left <;> rw [pv]

theorem rUint_le (s : St) : (rUint s).1.1.length ≤ s.1.length := by
  unfold rUint; split
  · simp only [List.length_drop]; omega
  · exact Nat.le_refl _
theorem rTake_le (s : St) (n : Nat) : (rTake s n).1.1.length ≤ s.1.length := by
  unfold rTake; split
  · simp only [List.length_drop]; omega
  · exact Nat.le_refl _
theorem rBytes_le (s : St) : (rBytes s).1.1.length ≤ s.1.length := by
  unfold rBytes; split
  · split
    · simp only [List.length_drop]; omega
    · exact Nat.le_refl _
  · exact Nat.le_refl _
theorem rUint_lt {s : St} (hb : Byt s.1) (h : (rUint s).1.2 = false) : (rUint s).1.1.length < s.1.length := by
  unfold rUint at h ⊢
  split at h
  · rename_i x n hn
    simp only [hn, List.length_drop]
    have h1 : s.2 = false := (nxt_le hb hn).1
    unfold nxt at hn
    rw [h1, if_neg (by simp)] at hn
    obtain ⟨-, -, -, h4, h5⟩ := num_some hb hn
    omega
  · cases h
theorem rep_le {α : Type} {p : St → Option (St × α)} (hp : ∀ s s' t, p s = some (s', t) → s'.1.length ≤ s.1.length) : ∀ (n : Nat) (s s' : St) (ts : List α), rep p n s = some (s', ts) → s'.1.length ≤ s.1.length := by
  intro n
  induction n with
  | zero => intro s s' ts h; rw [rep] at h; injection h with h; injection h with h _; rw [h]; exact Nat.le_refl _
  | succ n ih =>
    intro s s' ts h
    rw [rep] at h
    split at h
    · cases h
    · rename_i s1 t h1
      split at h
      · cases h
      · rename_i s2 ts2 h2
        injection h with h; injection h with h _
        have := hp _ _ _ h1
        have := ih _ _ _ h2
        rw [← h]; omega
theorem pv_rest (left : Nat) : ∀ (s s' : St) (t : VT), pv left s = some (s', t) → (rUint s).1.2 = false ∧ s'.1.length ≤ (rUint s).1.1.length ∧ s'.2 = false := by
  induction left with
  | zero =>
    intro s s' t h
    rw [pv_eq] at h
    split at h
    · cases h
    · rename_i h0
      have h0' : (rUint s).1.2 = false := by cases hh : (rUint s).1.2 with
        | true => exact absurd (.inl hh) h0
        | false => rfl
      refine ⟨h0', ?_⟩
      split at h
      · injection h with h; injection h with h _; rw [← h]; exact ⟨Nat.le_refl _, h0'⟩
      · split at h
        · split at h
          · cases h
          · rename_i h9; injection h with h; injection h with h _; rw [← h]; exact ⟨rUint_le _, by simpa using h9⟩
        · split at h
          · split at h
            · cases h
            · rename_i h9; injection h with h; injection h with h _; rw [← h]; exact ⟨rTake_le _ _, by simp at h9; exact h9.1⟩
          · split at h
            · split at h
              · cases h
              · rename_i h9; injection h with h; injection h with h _; rw [← h]; exact ⟨rBytes_le _, by simpa using h9⟩
            · cases h
  | succ left ih =>
    intro s s' t h
    rw [pv_eq] at h
    split at h
    · cases h
    · rename_i h0
      have h0' : (rUint s).1.2 = false := by cases hh : (rUint s).1.2 with
        | true => exact absurd (.inl hh) h0
        | false => rfl
      refine ⟨h0', ?_⟩
      split at h
      · injection h with h; injection h with h _; rw [← h]; exact ⟨Nat.le_refl _, h0'⟩
      · split at h
        · split at h
          · cases h
          · rename_i h9; injection h with h; injection h with h _; rw [← h]; exact ⟨rUint_le _, by simpa using h9⟩
        · split at h
          · split at h
            · cases h
            · rename_i h9; injection h with h; injection h with h _; rw [← h]; exact ⟨rTake_le _ _, by simp at h9; exact h9.1⟩
          · split at h
            · split at h
              · cases h
              · rename_i h9; injection h with h; injection h with h _; rw [← h]; exact ⟨rBytes_le _, by simpa using h9⟩
            · cases h3 : rep (pv left) (rUint (rUint s).1).2 (rUint (rUint s).1).1 with
              | none => simp only [h3] at h; cases h
              | some q =>
                obtain ⟨s3, ts⟩ := q
                simp only [h3] at h
                cases h9 : s3.2 with
                | true => rw [if_pos h9] at h; cases h
                | false =>
                  rw [if_neg (by simp [h9])] at h
                  injection h with h; injection h with h _
                  have := rep_le (fun s s' t hh => Nat.le_trans (ih s s' t hh).2.1 (rUint_le s)) _ _ _ _ h3
                  have := rUint_le (rUint s).1
                  rw [← h]
                  exact ⟨by omega, h9⟩
theorem pv_lt {left : Nat} {s s' : St} {t : VT} (hb : Byt s.1) (h : pv left s = some (s', t)) : s'.1.length < s.1.length := by
  obtain ⟨h1, h2, -⟩ := pv_rest left s s' t h
  have := rUint_lt hb h1
  omega
/-- A list that is read, after some of its values. -/
theorem rep_acc {α : Type} {p : St → Option (St × α)} {n j : Nat} {s sj sj' : St} {acc : List α} {t : α} (h : rep p n s = (rep p (n - j) sj).map fun q => (q.1, acc ++ q.2)) (hj : j < n) (hp : p sj = some (sj', t)) : rep p n s = (rep p (n - (j + 1)) sj').map fun q => (q.1, (acc ++ [t]) ++ q.2) := by
  rw [h, show n - j = (n - (j + 1)) + 1 by omega, rep_some hp]
  cases rep p (n - (j + 1)) sj' <;> simp
theorem rep_stop {α : Type} {p : St → Option (St × α)} {n j : Nat} {s sj : St} {acc : List α} (h : rep p n s = (rep p (n - j) sj).map fun q => (q.1, acc ++ q.2)) (hj : j < n) (hp : p sj = none) : rep p n s = none := by
  rw [h, show n - j = (n - (j + 1)) + 1 by omega, rep_none hp]; rfl
theorem rep_end {α : Type} {p : St → Option (St × α)} {n : Nat} {s sj : St} {acc : List α} (h : rep p n s = (rep p (n - n) sj).map fun q => (q.1, acc ++ q.2)) : rep p n s = some (sj, acc) := by
  rw [h, Nat.sub_self, rep]; simp
end Rd
end Go.Proofs.YtcbddebmmaflgaaGreatDoor
namespace Go.Proofs.YtcbddebmmaflgaaGreatDoor
open Go.RowKit
set_option linter.unusedVariables false
set_option linter.unusedSimpArgs false
namespace Rd
open _root_.Go.Proofs.YtcbddebmmaflgaaGreatDoor.Nm (bitsW ofW okW)
open Bt (ubytes sb sb_len)
open Vt (VT)
open Pf (sform zz be8 form_mk fine_mk)

theorem byt_map {l : List Nat} (h : Byt l) : (l.map UInt8.ofNat).map (·.toNat) = l := by
  rw [List.map_map]
  refine (List.map_congr_left fun b hb => ?_).trans (List.map_id l)
  simp only [Function.comp]
  rw [UInt8.toNat_ofNat']
  have := h b hb
  show b % 256 = b
  omega
theorem sb_strOf {l : List Nat} (h : Byt l) : sb (strOf l) = l := by
  show (((l.map UInt8.ofNat).toArray).toList).map (·.toNat) = l
  exact byt_map h
theorem strOf_size (l : List Nat) : (strOf l).size = l.length := by
  show ((l.map UInt8.ofNat).toArray).size = l.length
  simp
theorem rUint_form {s : St} (hb : Byt s.1) (h : (rUint s).1.2 = false) : s.2 = false ∧ s.1 = ubytes 10 (rUint s).2 ++ (rUint s).1.1 ∧ (rUint s).2 < 18446744073709551616 := by
  unfold rUint at h ⊢
  split at h
  · rename_i x n hn
    simp only [hn]
    have h1 : s.2 = false := (nxt_le hb hn).1
    have hn' := hn
    unfold nxt at hn'
    rw [h1, if_neg (by simp)] at hn'
    obtain ⟨h2, -, h4, -, -⟩ := num_some hb hn'
    exact ⟨h1, h4, h2⟩
  · cases h
theorem rTake_form {s : St} {n : Nat} (h : (rTake s n).1.2 = false) : s.2 = false ∧ s.1 = (rTake s n).2 ++ (rTake s n).1.1 ∧ (rTake s n).2.length = n := by
  unfold rTake at h ⊢
  split at h
  · rename_i hc
    rw [if_pos hc]
    exact ⟨hc.1, (List.take_append_drop n s.1).symm, by rw [List.length_take]; omega⟩
  · cases h
theorem rBytes_eq {s : St} {x n : Nat} (hn : nxt s = some (x, n)) : rBytes s = if x ≤ s.1.length - n then ((s.1.drop (n + x), false), (s.1.drop n).take x) else ((s.1, true), []) := by unfold rBytes; rw [hn]
theorem rBytes_no {s : St} (hn : nxt s = none) : rBytes s = ((s.1, true), []) := by unfold rBytes; rw [hn]
theorem rBytes_form {s : St} (hb : Byt s.1) (h : (rBytes s).1.2 = false) : s.2 = false ∧ s.1 = sform (strOf (rBytes s).2) ++ (rBytes s).1.1 ∧ (rBytes s).2.length < 18446744073709551616 := by
  cases hn : nxt s with
  | none => rw [rBytes_no hn] at h; cases h
  | some p =>
    obtain ⟨x, n⟩ := p
    rw [rBytes_eq hn] at h ⊢
    have h1 : s.2 = false := (nxt_le hb hn).1
    have hn' := hn
    unfold nxt at hn'
    rw [h1, if_neg (by simp)] at hn'
    obtain ⟨h2, -, h4, h5, -⟩ := num_some hb hn'
    by_cases hx : x ≤ s.1.length - n
    · rw [if_pos hx]
      have hlen : ((s.1.drop n).take x).length = x := by rw [List.length_take, List.length_drop]; omega
      refine ⟨h1, ?_, by rw [hlen]; exact h2⟩
      unfold sform
      rw [strOf_size, sb_strOf (byt_take (byt_drop hb _) _), hlen, List.append_assoc, ← List.drop_drop, List.take_append_drop]
      exact h4
    · rw [if_neg hx] at h; cases h

theorem zz_unzz (x : Nat) (h : x < 18446744073709551616) : zz (unzz x) = x ∧ -9223372036854775808 ≤ unzz x ∧ unzz x ≤ 9223372036854775807 := by
  unfold zz unzz
  split
  · rename_i h0
    rw [if_pos (by omega)]
    omega
  · rename_i h0
    rw [if_neg (by omega)]
    omega
theorem unzz_zz (n : Int) (h0 : -9223372036854775808 ≤ n) (h1 : n ≤ 9223372036854775807) : unzz (zz n) = n := by
  unfold zz unzz
  split <;> split <;> omega
theorem be8_beN {l : List Nat} (hb : Byt l) (hl : l.length = 8) : be8 (beN l) = l ∧ beN l < 18446744073709551616 := by
  match l, hl with
  | [a, b, c, d, e, f, g, h], _ =>
    have ha := hb a (by simp); have hb' := hb b (by simp); have hc := hb c (by simp); have hd := hb d (by simp)
    have he := hb e (by simp); have hf := hb f (by simp); have hg := hb g (by simp); have hh := hb h (by simp)
    simp only [beN, List.foldl_cons, List.foldl_nil, be8, List.cons.injEq, and_true]
    omega
theorem beN_be8 (v : Nat) (h : v < 18446744073709551616) : beN (be8 v) = v := by
  simp only [beN, be8, List.foldl_cons, List.foldl_nil]
  omega
theorem bits_of {b : Nat} (h : okW b = true) : bitsW (ofW b) = b := by
  unfold ofW
  rw [if_pos h]
  unfold okW at h
  unfold bitsW
  split
  · rename_i hn
    rw [hn] at h
    simp at h
    exact h.symm
  · rfl
theorem ok_bits (f : Nat) : okW (bitsW f) = true := by
  unfold okW bitsW
  split
  · simp
  · rename_i h; simp [h]
theorem of_bits (f : Nat) : bitsW (ofW (bitsW f)) = bitsW f := bits_of (ok_bits f)

theorem rep_form {α : Type} {p : St → Option (St × α)} {F : α → List Nat} {Q : α → Prop} (hp : ∀ s s' t, Byt s.1 → p s = some (s', t) → s.2 = false ∧ s'.2 = false ∧ s.1 = F t ++ s'.1 ∧ Q t) :
    ∀ (n : Nat) (s s' : St) (ts : List α), Byt s.1 → s.2 = false → rep p n s = some (s', ts) → s'.2 = false ∧ s.1 = (ts.map F).flatten ++ s'.1 ∧ ts.length = n ∧ (∀ t ∈ ts, Q t) := by
  intro n
  induction n with
  | zero =>
    intro s s' ts hb h2 h
    rw [rep] at h; injection h with h; injection h with h h'
    subst h h'
    exact ⟨h2, by simp, rfl, fun t ht => absurd ht (by simp)⟩
  | succ n ih =>
    intro s s' ts hb h2 h
    rw [rep] at h
    split at h
    · cases h
    · rename_i s1 t h1
      split at h
      · cases h
      · rename_i s2 ts2 h3
        injection h with h; injection h with h h'
        subst h h'
        obtain ⟨a1, a2, a3, a4⟩ := hp _ _ _ hb h1
        obtain ⟨b1, b2, b3, b4⟩ := ih s1 _ _ (fun b hb' => hb b (by rw [a3]; exact List.mem_append_right _ hb')) a2 h3
        refine ⟨b1, by rw [List.map_cons, List.flatten_cons, List.append_assoc, ← b2]; exact a3, by rw [List.length_cons, b3], fun x hx => ?_⟩
        rcases List.mem_cons.1 hx with rfl | hx
        · exact a4
        · exact b4 x hx

theorem bool_of {b : Bool} (h : ¬ b = true) : b = false := by simpa using h
theorem bits0 : bitsW 0 = 0 := by decide
theorem sz0 : (⟨#[]⟩ : ByteArray).size = 0 := rfl
/-- A value that is read is valid, and its form was there. -/
theorem pv_form (d : Nat) : ∀ (s s' : St) (t : VT), Byt s.1 → pv d s = some (s', t) → s.2 = false ∧ s'.2 = false ∧ s.1 = Pf.VT.form t ++ s'.1 ∧ (t.valid d = true ∧ Pf.VT.fine t) := by
  have key : ∀ (d : Nat) (s s' : St) (t : VT), Byt s.1 → (∀ d', d = d' + 1 → ∀ (s s' : St) (t : VT), Byt s.1 → pv d' s = some (s', t) → s.2 = false ∧ s'.2 = false ∧ s.1 = Pf.VT.form t ++ s'.1 ∧ (t.valid d' = true ∧ Pf.VT.fine t)) → pv d s = some (s', t) →
      s.2 = false ∧ s'.2 = false ∧ s.1 = Pf.VT.form t ++ s'.1 ∧ (t.valid d = true ∧ Pf.VT.fine t) := by
    intro d s s' t hb ih h
    rw [pv_eq] at h
    split at h
    · cases h
    · rename_i h0
      have h0' : (rUint s).1.2 = false := bool_of fun hh => h0 (.inl hh)
      obtain ⟨e1, e2, e3⟩ := rUint_form hb h0'
      have hb1 : Byt (rUint s).1.1 := fun b hb' => hb b (by rw [e2]; exact List.mem_append_right _ hb')
      generalize rUint s = q at *
      obtain ⟨s1, k⟩ := q
      simp only at *
      refine ⟨e1, ?_⟩
      split at h
      · rename_i hk
        injection h with h; injection h with h h'
        subst h h' hk
        refine ⟨h0', ?_, ?_, ?_⟩
        · rw [form_mk]; simpa using e2
        · rw [Vt.valid_mk, bits0, sz0]; simp
        · rw [fine_mk, sz0]; simp
      · split at h
        · rename_i hk
          split at h
          · cases h
          · rename_i h9
            injection h with h; injection h with h h'
            obtain ⟨f1, f2, f3⟩ := rUint_form hb1 (bool_of h9)
            obtain ⟨z1, z2, z3⟩ := zz_unzz _ f3
            subst h h' hk
            refine ⟨bool_of h9, ?_, ?_, ?_⟩
            · rw [form_mk, if_pos rfl, z1, List.append_assoc, ← f2]; exact e2
            · rw [Vt.valid_mk, bits0, sz0]; simp
            · rw [fine_mk, sz0]; exact ⟨⟨z2, z3, by decide, by decide, by decide⟩, fun t ht => absurd ht (by simp)⟩
        · split at h
          · rename_i hk
            split at h
            · cases h
            · rename_i h9
              injection h with h; injection h with h h'
              have h9a : (rTake s1 8).1.2 = false := bool_of fun hh => h9 (.inl hh)
              have h9b : okW (beN (rTake s1 8).2) = true := by
                cases hh : okW (beN (rTake s1 8).2) with
                | true => rfl
                | false => exact absurd (.inr hh) h9
              obtain ⟨f1, f2, f3⟩ := rTake_form h9a
              have hb2 : Byt (rTake s1 8).2 := fun b hb' => hb1 b (by rw [f2]; exact List.mem_append_left _ hb')
              obtain ⟨g1, g2⟩ := be8_beN hb2 f3
              subst h h' hk
              refine ⟨h9a, ?_, ?_, ?_⟩
              · rw [form_mk, if_neg (by decide), if_pos rfl, bits_of h9b, g1, List.append_assoc, ← f2]; exact e2
              · rw [Vt.valid_mk, sz0]; simp
              · rw [fine_mk]
                refine ⟨⟨by decide, by decide, ?_, by decide, by simp⟩, fun t ht => absurd ht (by simp)⟩
                unfold ofW
                split <;> omega
          · split at h
            · rename_i hk
              split at h
              · cases h
              · rename_i h9
                injection h with h; injection h with h h'
                obtain ⟨f1, f2, f3⟩ := rBytes_form hb1 (bool_of h9)
                subst h h' hk
                refine ⟨bool_of h9, ?_, ?_, ?_⟩
                · rw [form_mk, if_neg (by decide), if_neg (by decide), if_pos rfl, List.append_assoc, ← f2]; exact e2
                · rw [Vt.valid_mk, bits0]; simp
                · rw [fine_mk]
                  exact ⟨⟨by decide, by decide, by decide, by rw [strOf_size]; exact f3, by simp⟩, fun t ht => absurd ht (by simp)⟩
            · have hk4 : k = 4 := by omega
              cases d with
              | zero => cases h
              | succ d =>
                simp only at h
                cases h3 : rep (pv d) (rUint s1).2 (rUint s1).1 with
                | none => simp only [h3] at h; cases h
                | some q3 =>
                  obtain ⟨s3, ts⟩ := q3
                  simp only [h3] at h
                  cases h9 : s3.2 with
                  | true => rw [if_pos h9] at h; cases h
                  | false =>
                    rw [if_neg (by simp [h9])] at h
                    injection h with h; injection h with h h'
                    cases hbad : (rUint s1).1.2 with
                    | true =>
                      exfalso
                      have hz : rUint s1 = ((s1.1, true), 0) := by
                        cases hn : nxt s1 with
                        | none => unfold rUint; rw [hn]
                        | some p => unfold rUint at hbad; rw [hn] at hbad; cases hbad
                      rw [hz, rep] at h3
                      injection h3 with h3; injection h3 with h3 _
                      rw [← h3] at h9; cases h9
                    | false =>
                      obtain ⟨f1, f2, f3⟩ := rUint_form hb1 hbad
                      have hb2 : Byt (rUint s1).1.1 := fun b hb' => hb1 b (by rw [f2]; exact List.mem_append_right _ hb')
                      obtain ⟨g1, g2, g3, g4⟩ := rep_form (F := Pf.VT.form) (Q := fun t => t.valid d = true ∧ Pf.VT.fine t) (ih d rfl) _ _ _ _ hb2 hbad h3
                      subst h h' hk4
                      refine ⟨g1, ?_, ?_, ?_⟩
                      · rw [form_mk, if_neg (by decide), if_neg (by decide), if_neg (by decide), if_pos rfl, g3, List.append_assoc, List.append_assoc, ← g2, ← f2]; exact e2
                      · rw [Vt.valid_mk, bits0, sz0]
                        have := List.all_eq_true.2 fun t ht => (g4 t ht).1
                        simp [this]
                      · rw [fine_mk]
                        exact ⟨⟨by decide, by decide, by decide, by decide, by rw [g3]; exact f3⟩, fun t ht => (g4 t ht).2⟩
  induction d with
  | zero => exact fun s s' t hb h => key 0 s s' t hb (fun d' h => by omega) h
  | succ d ih => exact fun s s' t hb h => key (d + 1) s s' t hb (fun d' h => by obtain rfl : d = d' := by omega
                                                                                exact ih) h
def rText (s : St) : St × ByteArray := ((rBytes s).1, strOf (rBytes s).2)
theorem rText_size {s : St} (hb : Byt s.1) (hl : s.1.length ≤ 1099511627776) : (rText s).2.size ≤ 1099511627776 := by
  show (strOf (rBytes s).2).size ≤ _
  rw [strOf_size]
  unfold rBytes
  split
  · split
    · simp only [List.length_take, List.length_drop]; omega
    · simp
  · simp
theorem rUint_val {s : St} (hb : Byt s.1) : (rUint s).2 < 18446744073709551616 := by
  unfold rUint
  split
  · rename_i x n hn; exact (nxt_le hb hn).2.2
  · show (0 : Nat) < _; omega
end Rd
end Go.Proofs.YtcbddebmmaflgaaGreatDoor
namespace Go.Proofs.YtcbddebmmaflgaaGreatDoor
open Go.RowKit
set_option linter.unusedVariables false
set_option linter.unusedSimpArgs false
namespace Rd
open _root_.Go.Proofs.YtcbddebmmaflgaaGreatDoor.Nm (bitsW ret_int ret_bool)
open Vt (VT Rep)
open Ev (EV FieldsOk evCells vCells ERep zeroT fieldsOf goodL pickB)
open Cm (has_field)

theorem rv1 (b : Bool) (id : Nat) : (!(b != ((id : Int) != 0))) = pickB b (decide (0 < id)) ((id : Int) == 0) := by
  by_cases h : id = 0
  · subst h; cases b <;> rfl
  · have h1 : ((id : Int) == 0) = false := beq_eq_false_iff_ne.2 (by omega)
    have h2 : ((id : Int) != 0) = true := by simp [bne, h1]
    rw [h1, h2, decide_eq_true (by omega)]
    cases b <;> rfl
theorem rv2 (b : Bool) (n : Int) : (!((b && (decide (n < 1) || decide (2147483647 < n))) || (!b && (n != 0)))) = pickB b (decide (1 ≤ n ∧ n ≤ 2147483647)) (n == 0) := by
  cases b with
  | true =>
    unfold pickB
    rw [if_pos rfl]
    by_cases h1 : n < 1
    · rw [decide_eq_true h1, decide_eq_false (by omega : ¬ (1 ≤ n ∧ n ≤ 2147483647))]; rfl
    · by_cases h2 : 2147483647 < n
      · rw [decide_eq_false h1, decide_eq_true h2, decide_eq_false (by omega : ¬ (1 ≤ n ∧ n ≤ 2147483647))]; rfl
      · rw [decide_eq_false h1, decide_eq_false h2, decide_eq_true (by omega : (1 ≤ n ∧ n ≤ 2147483647))]; rfl
  | false =>
    unfold pickB
    rw [if_neg (by simp)]
    simp [bne]
theorem rv3 (b : Bool) (a : Nat) : (!(decide ((9223372036854775807 : Int) < (a : Int)) || (!b && ((a : Int) != 0)))) = pickB b (decide (a ≤ 9223372036854775807)) ((a : Int) == 0) := by
  by_cases h : (9223372036854775807 : Int) < (a : Int)
  · rw [decide_eq_true h, decide_eq_false (by omega : ¬ a ≤ 9223372036854775807), beq_eq_false_iff_ne.2 (by omega : (a : Int) ≠ 0)]
    cases b <;> rfl
  · rw [decide_eq_false h, decide_eq_true (by omega : a ≤ 9223372036854775807)]
    cases b <;> simp [pickB, bne]
theorem size_empty {s : ByteArray} (h : s.toList.isEmpty = true) : s.size = 0 := by rw [Vf.toList_nil h]; rfl
theorem rv4 (b c : Bool) (s t : ByteArray) : (!((b != !s.toList.isEmpty) || decide ((1000 : Int) < (s.size : Int)) || decide ((1000 : Int) < (t.size : Int)) || (!c && !t.toList.isEmpty))) = (pickB b (!s.toList.isEmpty && decide (s.size ≤ 1000)) s.toList.isEmpty && pickB c (decide (t.size ≤ 1000)) t.toList.isEmpty) := by
  have e1 : ∀ x : ByteArray, decide ((1000 : Int) < (x.size : Int)) = !decide (x.size ≤ 1000) := fun x => by
    by_cases h : x.size ≤ 1000
    · rw [decide_eq_true h, decide_eq_false (by omega)]; rfl
    · rw [decide_eq_false h, decide_eq_true (by omega)]; rfl
  rw [e1, e1]
  have hs : s.toList.isEmpty = true → decide (s.size ≤ 1000) = true := fun h => decide_eq_true (by rw [size_empty h]; omega)
  have ht : t.toList.isEmpty = true → decide (t.size ≤ 1000) = true := fun h => decide_eq_true (by rw [size_empty h]; omega)
  revert hs ht
  generalize s.toList.isEmpty = E
  generalize t.toList.isEmpty = T
  generalize decide (s.size ≤ 1000) = x
  generalize decide (t.size ≤ 1000) = y
  unfold pickB
  revert b c E T x y
  decide
theorem rv5 (b : Bool) (v : VT) : (v.valid 8 && (b || (v.k == 0))) = pickB b (v.valid 8) (v.same zeroT) := by
  cases b with
  | true => unfold pickB; simp
  | false =>
    unfold pickB
    rw [if_neg (by simp), Bool.false_or, Bool.eq_iff_iff, Bool.and_eq_true, beq_iff_eq]
    obtain ⟨k, n, f, s, l⟩ := v
    constructor
    · rintro ⟨h, rfl⟩
      rcases Pf.valid_cases h with ⟨-, rfl, h3, h4, rfl⟩ | ⟨h0, -⟩ | ⟨h0, -⟩ | ⟨h0, -⟩ | ⟨h0, -⟩
      · obtain rfl := Pf.size_zero h4
        exact Pf.same_mk_of (by rw [h3, bits0]) rfl fun i hi => absurd hi (by simp)
      all_goals exact absurd h0 (by decide)
    · intro h
      refine ⟨by rw [Vt.same_valid _ _ 8 h]; exact Vf.zero_val, ?_⟩
      exact ((Vt.same_iff ..).1 h).1
theorem rvalid_ev2 (e : EV) (h1 : 1 ≤ e.k) (h2 : e.k ≤ 11) (lo hi : Nat) (vk vn : Int) (vf : Nat) (vs : ByteArray) (A : Option Addr) (m c : Nat) (w : World) (hv : Rep w lo hi e.v (vCells vk vn vf vs A m c)) (hz : hi ≤ w.heap.size) :
    Calls Tryz.prog 47 #[.agg (evCells e vk vn vf vs A m c)] w fun r w' => r = .returned (.bool e.valid) ∧ Below w.heap.size w w' := by
  obtain ⟨k, id, n, at', name, text, v⟩ := e
  simp only at h1 h2 hv
  obtain ⟨k', rfl⟩ : ∃ k' : Nat, k = k' := ⟨k.toNat, by omega⟩
  have hvk : vk = v.k := by
    obtain ⟨kk, nn, ff, ss, ll⟩ := v
    obtain ⟨A', cap, heq, -⟩ := hv.head
    unfold vCells at heq
    injection heq with heq
    simp at heq
    exact heq.1
  have hf : ∀ cc q, (cc, q) ∈ [(105, 0), (110, 1), (97, 2), (115, 3), (116, 4), (118, 5)] → Hid (∀ W, Calls Tryz.prog 44 #[.int .i64 (k' : Nat), .int .u8 (cc : Nat)] W fun r w' => r = .returned (.bool ((fieldsOf k').contains q)) ∧ Below W.heap.size W w') := fun cc q hq => Lib.hid fun W => has_field k' (by omega) (by omega) cc q hq W
  have := rvalid_gen k' id n at' name text v lo hi vk vn vf vs A m c w hv hz (by omega) (by omega) ((fieldsOf k').contains 0) ((fieldsOf k').contains 1) ((fieldsOf k').contains 2) ((fieldsOf k').contains 3) ((fieldsOf k').contains 4) ((fieldsOf k').contains 5)
    _ _ _ _ _ _ _ _ _ _ _ rfl rfl rfl rfl rfl rfl rfl rfl rfl rfl rfl _ _ _ _ rfl rfl rfl rfl (hf 105 0 (by simp)) (hf 110 1 (by simp)) (hf 97 2 (by simp)) (hf 115 3 (by simp)) (hf 116 4 (by simp)) (hf 118 5 (by simp))
  refine this.mono fun r w' h => ⟨?_, h.2⟩
  rw [h.1]
  congr 2
  unfold EV.valid goodL
  simp only [Int.toNat_natCast, List.all_cons, List.all_nil, Bool.and_true]
  rw [decide_eq_true (show (1 : Int) ≤ (k' : Int) ∧ (k' : Int) ≤ 11 from ⟨h1, h2⟩), Bool.true_and, rv1, rv2, rv3, rv4, hvk, rv5]
  simp only [Bool.and_assoc]
end Rd
end Go.Proofs.YtcbddebmmaflgaaGreatDoor
namespace Go.Proofs.YtcbddebmmaflgaaGreatDoor
open Go.RowKit
set_option linter.unusedVariables false
set_option linter.unusedSimpArgs false
namespace Rd
open _root_.Go.Proofs.YtcbddebmmaflgaaGreatDoor.Nm (ret_int ret_bool)
open Cn (BRd brd_own)

end Rd
end Go.Proofs.YtcbddebmmaflgaaGreatDoor
namespace Go.Proofs.YtcbddebmmaflgaaGreatDoor
open Go.RowKit
set_option linter.unusedVariables false
set_option linter.unusedSimpArgs false
namespace Rd
open _root_.Go.Proofs.YtcbddebmmaflgaaGreatDoor.Nm (ret_int ret_bool)
open Cn (BRd brd_own)
open Vt (below_drew)
open Ev (take_drop tk cons_drop)
open _root_.Go.Proofs.YtcbddebmmaflgaaGreatDoor.Bt (ownBlock_slice)

/-- A reference's reader as a value; its bytes lie below B. -/
def RV (w : World) (B : Nat) (s : St) (x : Value) : Prop := (∃ v, x = .agg #[v, .bool s.2] ∧ BRd w v s.1 ∧ Far v B) ∧ Byt s.1 ∧ s.1.length ≤ 1099511627776
theorem RV.keep {w w' : World} {B : Nat} {s : St} {x : Value} (h : RV w B s x) (hz : w.heap.size ≤ w'.heap.size) (hk : ∀ b, b < B → w'.heap[b]? = w.heap[b]?) : RV w' B s x :=
  ⟨h.1.imp fun v hv => ⟨hv.1, brd_keep hv.2.1 hz fun k e => hk k (hv.2.2 k e), hv.2.2⟩, h.2⟩
/-- A box with a reference's reader. -/
def QB (w : World) (b : Nat) (v : Value) (bad : Bool) : Prop := w.heap[b]? = some (.cells #[v, .bool bad] 36 (0, 0))
theorem QB.cells {w : World} {b : Nat} {v : Value} {bad : Bool} (h : QB w b v bad) : w.cell? ⟨b, 0, none⟩ = some v ∧ w.cell? ⟨b, 1, none⟩ = some (.bool bad) ∧ w.frozen? ⟨b, 0, none⟩ = false ∧ w.frozen? ⟨b, 1, none⟩ = false := by
  unfold QB at h; simp [World.cell?, World.frozen?, h]
theorem QB.lt {w : World} {b : Nat} {v : Value} {bad : Bool} (h : QB w b v bad) : b < w.heap.size := (Array.getElem?_eq_some_iff.1 h).1
theorem QB.later {w w' : World} {b B : Nat} {v : Value} {bad : Bool} (h : QB w b v bad) (hb : Below B w w') (hg : b < B) : QB w' b v bad := (hb.block b hg).trans h
theorem below_set2 {B : Nat} {w W : World} {b : Nat} (h : Below B w W) (hb : B ≤ b) (o : Nat) (v : Value) : Below B w (W.setCell ⟨b, o, none⟩ v) := h.setCell hb v
end Rd
end Go.Proofs.YtcbddebmmaflgaaGreatDoor
