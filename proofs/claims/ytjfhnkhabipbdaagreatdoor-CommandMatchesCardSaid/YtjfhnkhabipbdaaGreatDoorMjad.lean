/- Contracts of package value's Valid of a tree. -/
/- Contract of package value's Valid of a tree, whole. -/
/- The program's order of numbers (num.Compare, num.Same) is the reference's; the law NumOrders. -/
import Derived.Test.YtjfhnkhabipbdaaGreatDoorMjac
import Derived.Test.YtjfhnkhabipbdaaGreatDoorMjab
import Derived.Laws.EntriesVeiled
namespace Go.Proofs.YtjfhnkhabipbdaaGreatDoor
open Go.RowKit
set_option linter.unusedVariables false
namespace Vt
open Nm (bitsW ret_int ret_bool)

theorem bv0 (n : Int) (f : Nat) (s : ByteArray) (A : Option Addr) (m c : Nat) : blankV 0 n f s A m c = .agg #[.int .i64 0, .int .i64 n, .float .f64 f, .string s, .slice A m c] := by simp [blankV]
theorem bv1 (n : Int) (f : Nat) (s : ByteArray) (A : Option Addr) (m c : Nat) : blankV 1 n f s A m c = .agg #[.int .i64 1, .int .i64 0, .float .f64 f, .string s, .slice A m c] := by simp [blankV]
theorem bv2 (n : Int) (f : Nat) (s : ByteArray) (A : Option Addr) (m c : Nat) : blankV 2 n f s A m c = .agg #[.int .i64 2, .int .i64 n, .float .f64 0, .string s, .slice A m c] := by simp [blankV]
theorem bv3 (n : Int) (f : Nat) (s : ByteArray) (A : Option Addr) (m c : Nat) : blankV 3 n f s A m c = .agg #[.int .i64 3, .int .i64 n, .float .f64 f, .string ⟨#[]⟩, .slice A m c] := by simp [blankV]
theorem bv4 (n : Int) (f : Nat) (s : ByteArray) (A : Option Addr) (m c : Nat) : blankV 4 n f s A m c = .agg #[.int .i64 4, .int .i64 n, .float .f64 f, .string s, .slice none 0 0] := by simp [blankV]

/-- The cell of Valid's own 'walk'. -/
def WalkAt (w : World) (g : Nat) : Prop := w.cell? ⟨g, 0, none⟩ = some (.func (.func 58) #[] #[.pointer (some ⟨g, 0, none⟩)]) ∧ g < w.heap.size
theorem WalkAt.later {w w' : World} {g : Nat} (h : WalkAt w g) (hb : Below w.heap.size w w') : WalkAt w' g := ⟨(hb.cell (p := ⟨g, 0, none⟩) h.2).trans h.1, Nat.lt_of_lt_of_le h.2 hb.size⟩

theorem bits0 : bitsW 0 = 0 := by decide +kernel

set_option maxRecDepth 100000 in
set_option maxHeartbeats 2000000 in
theorem vfail_0 (n : Int) (f : Nat) (s : ByteArray) (m cap : Nat) (A : Option Addr) (h : ¬ HeadV 0 n f s m) (x : Int) (g : Nat) (w : World) :
    Calls Tryz.prog 58 #[.agg #[.int .i64 0, .int .i64 n, .float .f64 f, .string s, .slice A m cap], .int .i64 x, .pointer (some ⟨g, 0, none⟩)] w fun e w' => e = .returned (.bool false) ∧ Below w.heap.size w w' := by
  have H := Lib.hid h; clear h
  have HAB := Lib.hid (box_below w 0 n f s A m cap)
  have HBX := Lib.hid (BoxAt.new w 0 n f s A m cap)
  have BL := blank_any 0 n f s A m cap
  rw [bv0] at BL
  have BL := Lib.hid BL
  have O := Lib.hid (of_any 0)
  rw [kv0] at O
  have BI := Lib.hid (Nm.bits_any)
  go_enter Tryz.func58, Tryz.ntmps58
  go_wp2_with fail
  refine (BL.out _).mono ?_
  rintro e w1 ⟨rfl, hb1⟩
  have hbox := HBX.out.later hb1 (by simp)
  obtain ⟨c0, c1, c2, c3, c4⟩ := hbox.cells
  have hlt := hbox.lt
  have HB1 := Lib.hid (HAB.out.trans (hb1.mono (by simp)))
  clear hbox
  clear hb1 HBX HAB BL
  go_wp2_with fail
  refine (O.out _).mono ?_
  rintro e w' ⟨rfl, rfl⟩
  go_wp2_with (go_at_call 61; refine (BI.out _ _).mono ?_; rintro e w' ⟨rfl, rfl⟩)
  all_goals first
    | (go_ret; exact ⟨rfl, HB1.out.alloc (by omega) _⟩)
    | (exfalso
       refine H.out ⟨?_, ?_, ?_, ?_⟩
       all_goals clear H HB1 O BI
       all_goals first
         | omega
         | (right; assumption)
         | (right; omega))

set_option maxRecDepth 100000 in
set_option maxHeartbeats 2000000 in
theorem vfail_1 (n : Int) (f : Nat) (s : ByteArray) (m cap : Nat) (A : Option Addr) (h : ¬ HeadV 1 n f s m) (x : Int) (g : Nat) (w : World) :
    Calls Tryz.prog 58 #[.agg #[.int .i64 1, .int .i64 n, .float .f64 f, .string s, .slice A m cap], .int .i64 x, .pointer (some ⟨g, 0, none⟩)] w fun e w' => e = .returned (.bool false) ∧ Below w.heap.size w w' := by
  have H := Lib.hid h; clear h
  have HAB := Lib.hid (box_below w 1 n f s A m cap)
  have HBX := Lib.hid (BoxAt.new w 1 n f s A m cap)
  have BL := blank_any 1 n f s A m cap
  rw [bv1] at BL
  have BL := Lib.hid BL
  have O := Lib.hid (of_any 1)
  rw [kv1] at O
  have BI := Lib.hid (Nm.bits_any)
  go_enter Tryz.func58, Tryz.ntmps58
  go_wp2_with fail
  refine (BL.out _).mono ?_
  rintro e w1 ⟨rfl, hb1⟩
  have hbox := HBX.out.later hb1 (by simp)
  obtain ⟨c0, c1, c2, c3, c4⟩ := hbox.cells
  have hlt := hbox.lt
  have HB1 := Lib.hid (HAB.out.trans (hb1.mono (by simp)))
  clear hbox
  clear hb1 HBX HAB BL
  go_wp2_with fail
  refine (O.out _).mono ?_
  rintro e w' ⟨rfl, rfl⟩
  go_wp2_with (go_at_call 61; refine (BI.out _ _).mono ?_; rintro e w' ⟨rfl, rfl⟩)
  all_goals first
    | (go_ret; exact ⟨rfl, HB1.out.alloc (by omega) _⟩)
    | (exfalso
       refine H.out ⟨?_, ?_, ?_, ?_⟩
       all_goals clear H HB1 O BI
       all_goals first
         | omega
         | (right; assumption)
         | (right; omega))

set_option maxRecDepth 100000 in
set_option maxHeartbeats 2000000 in
theorem vfail_2 (n : Int) (f : Nat) (s : ByteArray) (m cap : Nat) (A : Option Addr) (h : ¬ HeadV 2 n f s m) (x : Int) (g : Nat) (w : World) :
    Calls Tryz.prog 58 #[.agg #[.int .i64 2, .int .i64 n, .float .f64 f, .string s, .slice A m cap], .int .i64 x, .pointer (some ⟨g, 0, none⟩)] w fun e w' => e = .returned (.bool false) ∧ Below w.heap.size w w' := by
  have H := Lib.hid h; clear h
  have HAB := Lib.hid (box_below w 2 n f s A m cap)
  have HBX := Lib.hid (BoxAt.new w 2 n f s A m cap)
  have BL := blank_any 2 n f s A m cap
  rw [bv2] at BL
  have BL := Lib.hid BL
  have O := Lib.hid (of_any 2)
  rw [kv2] at O
  have BI := Lib.hid (Nm.bits_any)
  have b00 := bits0
  go_enter Tryz.func58, Tryz.ntmps58
  go_wp2_with fail
  refine (BL.out _).mono ?_
  rintro e w1 ⟨rfl, hb1⟩
  have hbox := HBX.out.later hb1 (by simp)
  obtain ⟨c0, c1, c2, c3, c4⟩ := hbox.cells
  have hlt := hbox.lt
  have HB1 := Lib.hid (HAB.out.trans (hb1.mono (by simp)))
  clear hbox
  clear hb1 HBX HAB BL
  go_wp2_with fail
  refine (O.out _).mono ?_
  rintro e w' ⟨rfl, rfl⟩
  go_wp2_with (go_at_call 61; refine (BI.out _ _).mono ?_; rintro e w' ⟨rfl, rfl⟩)
  all_goals first
    | (go_ret; exact ⟨rfl, HB1.out.alloc (by omega) _⟩)
    | (exfalso
       refine H.out ⟨?_, ?_, ?_, ?_⟩
       all_goals clear H HB1 O BI
       all_goals first
         | omega
         | (right; assumption)
         | (right; omega))

set_option maxRecDepth 100000 in
set_option maxHeartbeats 2000000 in
theorem vfail_3 (n : Int) (f : Nat) (s : ByteArray) (m cap : Nat) (A : Option Addr) (h : ¬ HeadV 3 n f s m) (x : Int) (g : Nat) (w : World) :
    Calls Tryz.prog 58 #[.agg #[.int .i64 3, .int .i64 n, .float .f64 f, .string s, .slice A m cap], .int .i64 x, .pointer (some ⟨g, 0, none⟩)] w fun e w' => e = .returned (.bool false) ∧ Below w.heap.size w w' := by
  have H := Lib.hid h; clear h
  have HAB := Lib.hid (box_below w 3 n f s A m cap)
  have HBX := Lib.hid (BoxAt.new w 3 n f s A m cap)
  have BL := blank_any 3 n f s A m cap
  rw [bv3] at BL
  have BL := Lib.hid BL
  have O := Lib.hid (of_any 3)
  rw [kv3] at O
  have BI := Lib.hid (Nm.bits_any)
  go_enter Tryz.func58, Tryz.ntmps58
  go_wp2_with fail
  refine (BL.out _).mono ?_
  rintro e w1 ⟨rfl, hb1⟩
  have hbox := HBX.out.later hb1 (by simp)
  obtain ⟨c0, c1, c2, c3, c4⟩ := hbox.cells
  have hlt := hbox.lt
  have HB1 := Lib.hid (HAB.out.trans (hb1.mono (by simp)))
  clear hbox
  clear hb1 HBX HAB BL
  go_wp2_with fail
  refine (O.out _).mono ?_
  rintro e w' ⟨rfl, rfl⟩
  go_wp2_with (go_at_call 61; refine (BI.out _ _).mono ?_; rintro e w' ⟨rfl, rfl⟩)
  all_goals first
    | (go_ret; exact ⟨rfl, HB1.out.alloc (by omega) _⟩)
    | (exfalso
       refine H.out ⟨?_, ?_, ?_, ?_⟩
       all_goals clear H HB1 O BI
       all_goals first
         | omega
         | (right; assumption)
         | (right; omega))

set_option maxRecDepth 100000 in
set_option maxHeartbeats 2000000 in
theorem vfail_4 (n : Int) (f : Nat) (s : ByteArray) (m cap : Nat) (A : Option Addr) (h : ¬ HeadV 4 n f s m) (x : Int) (g : Nat) (w : World) :
    Calls Tryz.prog 58 #[.agg #[.int .i64 4, .int .i64 n, .float .f64 f, .string s, .slice A m cap], .int .i64 x, .pointer (some ⟨g, 0, none⟩)] w fun e w' => e = .returned (.bool false) ∧ Below w.heap.size w w' := by
  have H := Lib.hid h; clear h
  have HAB := Lib.hid (box_below w 4 n f s A m cap)
  have HBX := Lib.hid (BoxAt.new w 4 n f s A m cap)
  have BL := blank_any 4 n f s A m cap
  rw [bv4] at BL
  have BL := Lib.hid BL
  have O := Lib.hid (of_any 4)
  rw [kv4] at O
  have BI := Lib.hid (Nm.bits_any)
  go_enter Tryz.func58, Tryz.ntmps58
  go_wp2_with fail
  refine (BL.out _).mono ?_
  rintro e w1 ⟨rfl, hb1⟩
  have hbox := HBX.out.later hb1 (by simp)
  obtain ⟨c0, c1, c2, c3, c4⟩ := hbox.cells
  have hlt := hbox.lt
  have HB1 := Lib.hid (HAB.out.trans (hb1.mono (by simp)))
  clear hbox
  clear hb1 HBX HAB BL
  go_wp2_with fail
  refine (O.out _).mono ?_
  rintro e w' ⟨rfl, rfl⟩
  go_wp2_with (go_at_call 61; refine (BI.out _ _).mono ?_; rintro e w' ⟨rfl, rfl⟩)
  all_goals first
    | (go_ret; exact ⟨rfl, HB1.out.alloc (by omega) _⟩)
    | (exfalso
       refine H.out ⟨?_, ?_, ?_, ?_⟩
       all_goals clear H HB1 O BI
       all_goals first
         | omega
         | (right; assumption)
         | (right; omega))

set_option maxRecDepth 100000 in
set_option maxHeartbeats 1000000 in
theorem vpass_0 (f : Nat) (s : ByteArray) (hb0 : bitsW f = 0) (hs0 : s.toList = []) (A : Option Addr) (cap : Nat) (x : Int) (g : Nat) (w : World) :
    Calls Tryz.prog 58 #[.agg #[.int .i64 0, .int .i64 0, .float .f64 f, .string s, .slice A 0 cap], .int .i64 x, .pointer (some ⟨g, 0, none⟩)] w fun e w' => e = .returned (.bool true) ∧ Below w.heap.size w w' := by
  have HAB := Lib.hid (box_below w 0 0 f s A 0 cap)
  have HBX := Lib.hid (BoxAt.new w 0 0 f s A 0 cap)
  have BL := blank_any 0 0 f s A 0 cap
  rw [bv0] at BL
  have BL := Lib.hid BL
  have O := Lib.hid (of_any 0)
  rw [kv0] at O
  have BI := Lib.hid (Nm.bits_any)
  go_enter Tryz.func58, Tryz.ntmps58
  go_wp2_with fail
  refine (BL.out _).mono ?_
  rintro e w1 ⟨rfl, hb1⟩
  have hbox := HBX.out.later hb1 (by simp)
  obtain ⟨c0, c1, c2, c3, c4⟩ := hbox.cells
  have hlt := hbox.lt
  have HB1 := Lib.hid (HAB.out.trans (hb1.mono (by simp)))
  clear hbox
  clear hb1 HBX HAB BL
  go_wp2_with fail
  refine (O.out _).mono ?_
  rintro e w' ⟨rfl, rfl⟩
  go_wp2_with (go_at_call 61; refine (BI.out _ _).mono ?_; rintro e w' ⟨rfl, rfl⟩)
  go_loop [49] (fun i => i = .int .i64 0) (fun _ => 0)
  case atStart => exact rfl
  case round =>
    subst hrel
    go_wp2_with fail
    go_ret
    exact ⟨rfl, HB1.out.alloc (by omega) _⟩

set_option maxRecDepth 100000 in
set_option maxHeartbeats 1000000 in
theorem vpass_1 (n : Int) (f : Nat) (s : ByteArray) (hb0 : bitsW f = 0) (hs0 : s.toList = []) (A : Option Addr) (cap : Nat) (x : Int) (g : Nat) (w : World) :
    Calls Tryz.prog 58 #[.agg #[.int .i64 1, .int .i64 n, .float .f64 f, .string s, .slice A 0 cap], .int .i64 x, .pointer (some ⟨g, 0, none⟩)] w fun e w' => e = .returned (.bool true) ∧ Below w.heap.size w w' := by
  have HAB := Lib.hid (box_below w 1 n f s A 0 cap)
  have HBX := Lib.hid (BoxAt.new w 1 n f s A 0 cap)
  have BL := blank_any 1 n f s A 0 cap
  rw [bv1] at BL
  have BL := Lib.hid BL
  have O := Lib.hid (of_any 1)
  rw [kv1] at O
  have BI := Lib.hid (Nm.bits_any)
  go_enter Tryz.func58, Tryz.ntmps58
  go_wp2_with fail
  refine (BL.out _).mono ?_
  rintro e w1 ⟨rfl, hb1⟩
  have hbox := HBX.out.later hb1 (by simp)
  obtain ⟨c0, c1, c2, c3, c4⟩ := hbox.cells
  have hlt := hbox.lt
  have HB1 := Lib.hid (HAB.out.trans (hb1.mono (by simp)))
  clear hbox
  clear hb1 HBX HAB BL
  go_wp2_with fail
  refine (O.out _).mono ?_
  rintro e w' ⟨rfl, rfl⟩
  go_wp2_with (go_at_call 61; refine (BI.out _ _).mono ?_; rintro e w' ⟨rfl, rfl⟩)
  go_loop [49] (fun i => i = .int .i64 0) (fun _ => 0)
  case atStart => exact rfl
  case round =>
    subst hrel
    go_wp2_with fail
    go_ret
    exact ⟨rfl, HB1.out.alloc (by omega) _⟩

set_option maxRecDepth 100000 in
set_option maxHeartbeats 1000000 in
theorem vpass_2 (f : Nat) (s : ByteArray) (hs0 : s.toList = []) (A : Option Addr) (cap : Nat) (x : Int) (g : Nat) (w : World) :
    Calls Tryz.prog 58 #[.agg #[.int .i64 2, .int .i64 0, .float .f64 f, .string s, .slice A 0 cap], .int .i64 x, .pointer (some ⟨g, 0, none⟩)] w fun e w' => e = .returned (.bool true) ∧ Below w.heap.size w w' := by
  have HAB := Lib.hid (box_below w 2 0 f s A 0 cap)
  have HBX := Lib.hid (BoxAt.new w 2 0 f s A 0 cap)
  have BL := blank_any 2 0 f s A 0 cap
  rw [bv2] at BL
  have BL := Lib.hid BL
  have O := Lib.hid (of_any 2)
  rw [kv2] at O
  have BI := Lib.hid (Nm.bits_any)
  have b00 := bits0
  go_enter Tryz.func58, Tryz.ntmps58
  go_wp2_with fail
  refine (BL.out _).mono ?_
  rintro e w1 ⟨rfl, hb1⟩
  have hbox := HBX.out.later hb1 (by simp)
  obtain ⟨c0, c1, c2, c3, c4⟩ := hbox.cells
  have hlt := hbox.lt
  have HB1 := Lib.hid (HAB.out.trans (hb1.mono (by simp)))
  clear hbox
  clear hb1 HBX HAB BL
  go_wp2_with fail
  refine (O.out _).mono ?_
  rintro e w' ⟨rfl, rfl⟩
  go_wp2_with (go_at_call 61; refine (BI.out _ _).mono ?_; rintro e w' ⟨rfl, rfl⟩)
  go_loop [49] (fun i => i = .int .i64 0) (fun _ => 0)
  case atStart => exact rfl
  case round =>
    subst hrel
    go_wp2_with fail
    go_ret
    exact ⟨rfl, HB1.out.alloc (by omega) _⟩

set_option maxRecDepth 100000 in
set_option maxHeartbeats 1000000 in
theorem vpass_3 (f : Nat) (s : ByteArray) (hb0 : bitsW f = 0) (A : Option Addr) (cap : Nat) (x : Int) (g : Nat) (w : World) :
    Calls Tryz.prog 58 #[.agg #[.int .i64 3, .int .i64 0, .float .f64 f, .string s, .slice A 0 cap], .int .i64 x, .pointer (some ⟨g, 0, none⟩)] w fun e w' => e = .returned (.bool true) ∧ Below w.heap.size w w' := by
  have HAB := Lib.hid (box_below w 3 0 f s A 0 cap)
  have HBX := Lib.hid (BoxAt.new w 3 0 f s A 0 cap)
  have BL := blank_any 3 0 f s A 0 cap
  rw [bv3] at BL
  have BL := Lib.hid BL
  have O := Lib.hid (of_any 3)
  rw [kv3] at O
  have BI := Lib.hid (Nm.bits_any)
  go_enter Tryz.func58, Tryz.ntmps58
  go_wp2_with fail
  refine (BL.out _).mono ?_
  rintro e w1 ⟨rfl, hb1⟩
  have hbox := HBX.out.later hb1 (by simp)
  obtain ⟨c0, c1, c2, c3, c4⟩ := hbox.cells
  have hlt := hbox.lt
  have HB1 := Lib.hid (HAB.out.trans (hb1.mono (by simp)))
  clear hbox
  clear hb1 HBX HAB BL
  go_wp2_with fail
  refine (O.out _).mono ?_
  rintro e w' ⟨rfl, rfl⟩
  go_wp2_with (go_at_call 61; refine (BI.out _ _).mono ?_; rintro e w' ⟨rfl, rfl⟩)
  go_loop [49] (fun i => i = .int .i64 0) (fun _ => 0)
  case atStart => exact rfl
  case round =>
    subst hrel
    go_wp2_with fail
    go_ret
    exact ⟨rfl, HB1.out.alloc (by omega) _⟩

set_option maxRecDepth 100000 in
set_option maxHeartbeats 2000000 in
theorem vlist (f : Nat) (s : ByteArray) (l : List VT) (A : Option Addr) (cap : Nat) (hb0 : bitsW f = 0) (hs0 : s.toList = []) (hl : l.length ≤ cap) (hc : cap ≤ maxLen) (x : Int) (hx0 : 0 ≤ x) (hx1 : x ≤ 8) (g : Nat)
    (ih : ∀ (i : Nat) (hi : i < l.length) (x : Int) (_ : 0 ≤ x) (_ : x ≤ 8) (w : World) (lo hi : Nat) (v : Value) (_ : Rep w lo hi l[i] v) (_ : hi ≤ w.heap.size) (_ : WalkAt w g),
      Calls Tryz.prog 58 #[v, .int .i64 x, .pointer (some ⟨g, 0, none⟩)] w fun e w' => e = .returned (.bool (l[i].valid x.toNat)) ∧ Below w.heap.size w w')
    (w : World) (lo hi : Nat) (hk : KidsAt w lo hi l A) (hz : hi ≤ w.heap.size) (hw : WalkAt w g) :
    Calls Tryz.prog 58 #[.agg #[.int .i64 4, .int .i64 0, .float .f64 f, .string s, .slice A l.length cap], .int .i64 x, .pointer (some ⟨g, 0, none⟩)] w fun e w' =>
      e = .returned (.bool (decide (x ≠ 0) && l.all (fun t => t.valid (x - 1).toNat))) ∧ Below w.heap.size w w' := by
  unfold maxLen at hc
  have IH := Lib.hid ih; have HK := Lib.hid hk; clear ih hk
  have HWK := Lib.hid hw; clear hw
  by_cases hx : x = 0
  · subst hx
    have HAB := Lib.hid (box_below w 4 0 f s A l.length cap)
    have HBX := Lib.hid (BoxAt.new w 4 0 f s A l.length cap)
    have BL := blank_any 4 0 f s A l.length cap
    rw [bv4] at BL
    have BL := Lib.hid BL
    have O := Lib.hid (of_any 4)
    rw [kv4] at O
    have BI := Lib.hid (Nm.bits_any)
    go_enter Tryz.func58, Tryz.ntmps58
    go_wp2_with fail
    refine (BL.out _).mono ?_
    rintro e w1 ⟨rfl, hb1⟩
    have hbox := HBX.out.later hb1 (by simp)
    obtain ⟨c0, c1, c2, c3, c4⟩ := hbox.cells
    have hlt := hbox.lt
    have HB1 := Lib.hid (HAB.out.trans (hb1.mono (by simp)))
    clear hbox
    clear hb1 HBX HAB BL
    go_wp2_with fail
    refine (O.out _).mono ?_
    rintro e w' ⟨rfl, rfl⟩
    go_wp2_with (go_at_call 61; refine (BI.out _ _).mono ?_; rintro e w' ⟨rfl, rfl⟩)
    go_ret
    exact ⟨ret_bool (by simp), HB1.out.alloc (by omega) _⟩
  · have hxb : (x == 0) = false := by simpa using hx
    have hxp : 1 ≤ x := by omega
    have HX : Hid (decide (x ≠ 0) = true) := Lib.hid (by simpa using hx)
    clear hx
    have HAB := Lib.hid (box_below w 4 0 f s A l.length cap)
    have HBX := Lib.hid (BoxAt.new w 4 0 f s A l.length cap)
    have BL := blank_any 4 0 f s A l.length cap
    rw [bv4] at BL
    have BL := Lib.hid BL
    have O := Lib.hid (of_any 4)
    rw [kv4] at O
    have BI := Lib.hid (Nm.bits_any)
    go_enter Tryz.func58, Tryz.ntmps58
    go_wp2_with fail
    refine (BL.out _).mono ?_
    rintro e w1 ⟨rfl, hb1⟩
    have hbox := HBX.out.later hb1 (by simp)
    obtain ⟨c0, c1, c2, c3, c4⟩ := hbox.cells
    have hlt := hbox.lt
    have HB1 := Lib.hid (HAB.out.trans (hb1.mono (by simp)))
    have HBX1 := Lib.hid hbox
    clear hbox
    clear hb1 HBX HAB BL
    go_wp2_with fail
    refine (O.out _).mono ?_
    rintro e w' ⟨rfl, rfl⟩
    go_wp2_with (go_at_call 61; refine (BI.out _ _).mono ?_; rintro e w' ⟨rfl, rfl⟩)
    have HB2 := Lib.hid (HB1.out.alloc (Nat.le_of_lt hlt) (.cells #[.int .i64 4, .int .i64 0, .float .f64 f, .string s, .slice none 0 0] 29))
    go_loopw [5, 49] (fun r i wr => ∃ (j : Nat), j ≤ l.length ∧ i = .int .i64 j ∧ r = .bool false ∧ (l.take j).all (fun t => t.valid (x - 1).toNat) = true ∧ w.heap.size < wr.heap.size ∧ Below w.heap.size w wr) (fun _ i _ => l.length - (intOf i).toNat)
    case atStart => exact ⟨0, by omega, rfl, rfl, rfl, by simp; omega, HB2.out⟩
    case round =>
      obtain ⟨j, hj, rfl, rfl, hy, hzr, hb⟩ := hrel
      have HY := Lib.hid hy; clear hy
      have HB := Lib.hid hb; clear hb
      by_cases hlt : j < l.length
      · obtain ⟨b, off, hA, h1, h2, h3⟩ := (HK.out.later (HB.out.mono hz)).at_ (by omega)
        obtain ⟨k', n', f', s', L', A', cap', e, d0, d1, d2, d3, d4, hr⟩ := h3 j hlt
        subst hA
        have hwk : WalkAt wr g := HWK.out.later HB.out
        have hwc := hwk.1
        have hwl := hwk.2
        have HWR := Lib.hid hwk
        have HR := Lib.hid hr
        clear h3 e hr hwk
        go_wp2_with fail
        refine (IH.out j hlt (x - 1) (by omega) (by omega) _ lo hi _ (HR.out.alloc (by omega) _) (by simp; omega) (HWR.out.later ((Below.refl _ _).alloc (Nat.le_refl _) _))).mono ?_
        rintro e w2 ⟨rfl, hb1⟩
        have HZ2 : w.heap.size < w2.heap.size := by have := hb1.size; simp at this; omega
        have HB1 := Lib.hid ((HB.out.alloc (by omega) _).trans (hb1.mono (by simp; omega)))
        clear HB HR hb1 c0 c1 c2 c3 c4 d0 d1 d2 d3 d4 hwc hwl HWR
        cases hp : l[j].valid (x - 1).toNat with
        | true =>
          have HP := Lib.hid hp; clear hp
          go_wp2_with fail
          go_roundw
          case rel => exact ⟨j + 1, by omega, by go_num, rfl, by rw [all_take_succ _ _ _ hlt, HY.out, HP.out]; rfl, HZ2, HB1.out⟩
          case measure => simp [intOf]; omega
        | false =>
          have HP := Lib.hid hp; clear hp
          go_wp2_with fail
          go_ret
          exact ⟨ret_bool (by rw [HX.out, all_false _ _ j hlt HP.out]; rfl), HB1.out⟩
      · have hj' : j = l.length := by omega
        have HJ := Lib.hid hj'
        clear hj'
        go_wp2_with fail
        go_ret
        have hall : l.all (fun t => t.valid (x - 1).toNat) = true := by have := HY.out; rw [HJ.out, List.take_length] at this; exact this
        exact ⟨ret_bool (by rw [HX.out, hall]; rfl), HB.out⟩
end Vt
end Go.Proofs.YtjfhnkhabipbdaaGreatDoor
namespace Go.Proofs.YtjfhnkhabipbdaaGreatDoor
open Go.RowKit
set_option linter.unusedVariables false
namespace Vt
open Nm (bitsW ret_int ret_bool)

set_option maxRecDepth 100000 in
set_option maxHeartbeats 1000000 in
theorem vout (k : Int) (hk : k < 0 ∨ 4 < k) (n : Int) (f : Nat) (s : ByteArray) (m cap : Nat) (A : Option Addr) (x : Int) (g : Nat) (w : World) :
    Calls Tryz.prog 58 #[.agg #[.int .i64 k, .int .i64 n, .float .f64 f, .string s, .slice A m cap], .int .i64 x, .pointer (some ⟨g, 0, none⟩)] w fun e w' => e = .returned (.bool false) ∧ Below w.heap.size w w' := by
  have HAB := Lib.hid (box_below w k n f s A m cap)
  have HBX := Lib.hid (BoxAt.new w k n f s A m cap)
  have BL := blank_any k n f s A m cap
  have e0 : blankV k n f s A m cap = .agg #[.int .i64 k, .int .i64 n, .float .f64 f, .string s, .slice A m cap] := by unfold blankV; rw [if_neg (by omega), if_neg (by omega), if_neg (by omega), if_neg (by omega)]
  have e1 : kindV k = .nilIface := by unfold kindV; rw [if_neg (by omega), if_neg (by omega), if_neg (by omega), if_neg (by omega), if_neg (by omega)]
  rw [e0] at BL
  have BL := Lib.hid BL
  have O := of_any k
  rw [e1] at O
  have O := Lib.hid O
  clear e0 e1
  go_enter Tryz.func58, Tryz.ntmps58
  go_wp2_with fail
  refine (BL.out _).mono ?_
  rintro e w1 ⟨rfl, hb1⟩
  have hbox := HBX.out.later hb1 (by simp)
  obtain ⟨c0, c1, c2, c3, c4⟩ := hbox.cells
  have hlt := hbox.lt
  have HB1 := Lib.hid (HAB.out.trans (hb1.mono (by simp)))
  clear hbox hb1 HBX HAB BL
  go_wp2_with fail
  refine (O.out _).mono ?_
  rintro e w' ⟨rfl, rfl⟩
  go_wp2_with fail
  go_ret
  exact ⟨rfl, HB1.out.alloc (by omega) _⟩

theorem walk_any (t : VT) : ∀ (x : Int) (_ : 0 ≤ x) (_ : x ≤ 8) (g : Nat) (w : World) (lo hi : Nat) (v : Value) (_ : Rep w lo hi t v) (_ : hi ≤ w.heap.size) (_ : WalkAt w g),
    Calls Tryz.prog 58 #[v, .int .i64 x, .pointer (some ⟨g, 0, none⟩)] w fun e w' => e = .returned (.bool (t.valid x.toNat)) ∧ Below w.heap.size w w' := by
  induction t using VT.ind with
  | _ k n f s l ih =>
    intro x hx0 hx1 g w lo hi v hR hz hw
    obtain ⟨A, cap, rfl, ho, hl, hk⟩ := hR.head
    have hp := parts_iff k n f s l x hx0
    generalize (VT.mk k n f s l).valid x.toNat = R at hp ⊢
    by_cases hh : HeadV k n f s l.length
    · rcases (by omega : k = 0 ∨ k = 1 ∨ k = 2 ∨ k = 3 ∨ k = 4 ∨ (k < 0 ∨ 4 < k)) with rfl | rfl | rfl | rfl | rfl | h6
      · rcases headV_cases hh with ⟨q, -⟩ | ⟨q, -⟩ | ⟨q, -⟩ | ⟨q, -⟩ | ⟨e1, e2, e3, e4, rfl, q1, q2, q3⟩ <;> first | (exfalso; omega) | skip
        obtain rfl := List.eq_nil_of_length_eq_zero q3
        refine (vpass_0 f s q1 q2 A cap x g w).mono fun e w' h => ⟨?_, h.2⟩
        rw [h.1]
        exact parts_true hp ⟨by omega, by omega, .inr rfl, .inr q1, .inr q2, .inr rfl, by omega, rfl⟩
      · rcases headV_cases hh with ⟨-, q1, q2, q3⟩ | ⟨q, -⟩ | ⟨q, -⟩ | ⟨q, -⟩ | ⟨q, -⟩ <;> first | (exfalso; omega) | skip
        obtain rfl := List.eq_nil_of_length_eq_zero q3
        refine (vpass_1 n f s q1 q2 A cap x g w).mono fun e w' h => ⟨?_, h.2⟩
        rw [h.1]
        exact parts_true hp ⟨by omega, by omega, .inl rfl, .inr q1, .inr q2, .inr rfl, by omega, rfl⟩
      · rcases headV_cases hh with ⟨q, -⟩ | ⟨-, rfl, q2, q3⟩ | ⟨q, -⟩ | ⟨q, -⟩ | ⟨-, q, -⟩ <;> first | (exfalso; omega) | skip
        obtain rfl := List.eq_nil_of_length_eq_zero q3
        refine (vpass_2 f s q2 A cap x g w).mono fun e w' h => ⟨?_, h.2⟩
        rw [h.1]
        exact parts_true hp ⟨by omega, by omega, .inr rfl, .inl rfl, .inr q2, .inr rfl, by omega, rfl⟩
      · rcases headV_cases hh with ⟨q, -⟩ | ⟨q, -⟩ | ⟨-, rfl, q2, q3⟩ | ⟨q, -⟩ | ⟨-, -, q, -⟩ <;> first | (exfalso; omega) | skip
        obtain rfl := List.eq_nil_of_length_eq_zero q3
        refine (vpass_3 f s q2 A cap x g w).mono fun e w' h => ⟨?_, h.2⟩
        rw [h.1]
        exact parts_true hp ⟨by omega, by omega, .inr rfl, .inr q2, .inl rfl, .inr rfl, by omega, rfl⟩
      · rcases headV_cases hh with ⟨q, -⟩ | ⟨q, -⟩ | ⟨q, -⟩ | ⟨-, rfl, q2, q3⟩ | ⟨-, -, -, q, -⟩ <;> first | (exfalso; omega) | skip
        refine (vlist f s l A cap q2 q3 hl ho.m1 x hx0 hx1 g (fun i hi x a b w lo hi' v c d e => ih i hi x a b g w lo hi' v c d e) w lo hi hk hz hw).mono fun e w' h => ⟨?_, h.2⟩
        rw [h.1]
        congr 2
        rw [Bool.eq_iff_iff, hp]
        unfold Parts
        simp only [Bool.and_eq_true, decide_eq_true_iff]
        constructor
        · rintro ⟨h1, h2⟩
          exact ⟨by omega, by omega, by simp, .inr q2, .inr q3, by simp, fun _ => h1, h2⟩
        · rintro ⟨-, -, -, -, -, -, h1, h2⟩
          exact ⟨h1 (by simp), h2⟩
      · refine (vout k h6 n f s l.length cap A x g w).mono fun e w' h => ⟨?_, h.2⟩
        rw [h.1]
        exact parts_false hp fun q => by obtain ⟨a, b, -⟩ := q; omega
    · have ff : Calls Tryz.prog 58 #[.agg #[.int .i64 k, .int .i64 n, .float .f64 f, .string s, .slice A l.length cap], .int .i64 x, .pointer (some ⟨g, 0, none⟩)] w fun e w' => e = .returned (.bool false) ∧ Below w.heap.size w w' := by
        rcases (by omega : k = 0 ∨ k = 1 ∨ k = 2 ∨ k = 3 ∨ k = 4 ∨ (k < 0 ∨ 4 < k)) with rfl | rfl | rfl | rfl | rfl | h6
        · exact vfail_0 n f s l.length cap A hh x g w
        · exact vfail_1 n f s l.length cap A hh x g w
        · exact vfail_2 n f s l.length cap A hh x g w
        · exact vfail_3 n f s l.length cap A hh x g w
        · exact vfail_4 n f s l.length cap A hh x g w
        · exact vout k h6 n f s l.length cap A x g w
      refine ff.mono fun e w' h => ⟨?_, h.2⟩
      rw [h.1]
      exact parts_false hp fun q => hh (headV_of q)

set_option maxHeartbeats 1000000 in
theorem valid_any (t : VT) (w : World) (lo hi : Nat) (v : Value) (hR : Rep w lo hi t v) (hz : hi ≤ w.heap.size) :
    Calls Tryz.prog 40 #[v] w fun e w' => e = .returned (.bool (t.valid 8)) ∧ Below w.heap.size w w' := by
  have hv := hR
  obtain ⟨k, n, f, s, l, A, cap, rfl, rfl, ho, hl, hk⟩ := hR.open_
  generalize ht : VT.mk k n f s l = t at *
  have HV := Lib.hid hv
  have WA := Lib.hid (walk_any t 8 (by omega) (by omega))
  clear hv hR ho hk ht
  go_enter Tryz.func40, Tryz.ntmps40
  go_wp2_with fail
  refine (WA.out (w.heap.size + 1) _ lo hi _ ?h1 ?h2 ?h3).mono ?_
  case h1 => exact (HV.out.alloc hz _).alloc (by simp; omega) _
  case h2 => simp; omega
  case h3 => exact ⟨by simp [go_sem], by simp⟩
  rintro e w1 ⟨rfl, hb1⟩
  have HB2 := Lib.hid ((((Below.refl w.heap.size w).alloc (Nat.le_refl _) _).alloc (by simp) _).trans (hb1.mono (by simp; omega)))
  clear hb1
  go_wp2_with fail
  go_ret
  exact ⟨rfl, HB2.out⟩
end Vt
end Go.Proofs.YtjfhnkhabipbdaaGreatDoor
namespace Go.Proofs.YtjfhnkhabipbdaaGreatDoor
open Go.RowKit
namespace Nm

theorem misnan_any (b : Nat) (w : World) : Calls Tryz.prog 69 #[.float .f64 b] w fun e w' => e = .returned (.bool (Fm.isNan b)) ∧ w = w' := by
  have hs := neq_self b
  generalize Fm.isNan b = z at *
  go_enter Tryz.func69, Tryz.ntmps69
  go_wp2
  go_ret
  exact ⟨rfl, rfl⟩

theorem sign_any (b : Nat) (hb : b < 18446744073709551616) (w : World) : Calls Tryz.prog 71 #[.float .f64 b] w fun e w' => e = .returned (.int .i64 (if Fm.neg b = true then -1 else 1)) ∧ w = w' := by
  have C := Lib.hid (fun w => signbit_any b hb w)
  clear hb
  cases h : Fm.neg b with
  | true =>
    rw [h] at C; clear h
    go_enter Tryz.func71, Tryz.ntmps71
    go_wp2_with (go_at_call 87; refine (C.out _).mono ?_; rintro e w' ⟨rfl, rfl⟩)
    go_ret
    exact ⟨rfl, rfl⟩
  | false =>
    rw [h] at C; clear h
    go_enter Tryz.func71, Tryz.ntmps71
    go_wp2_with (go_at_call 87; refine (C.out _).mono ?_; rintro e w' ⟨rfl, rfl⟩)
    go_ret
    exact ⟨rfl, rfl⟩

def cmpI (a b : Int) : Int := if a < b then -1 else if b < a then 1 else 0

theorem cmpi_any (a b : Int) (w : World) : Calls Tryz.prog 70 #[.int .i64 a, .int .i64 b] w fun e w' => e = .returned (.int .i64 (cmpI a b)) ∧ w = w' := by
  unfold cmpI
  by_cases h : a < b
  · rw [if_pos h]
    go_enter Tryz.func70, Tryz.ntmps70
    go_wp2
    go_ret
    exact ⟨rfl, rfl⟩
  · rw [if_neg h]
    by_cases h2 : b < a
    · rw [if_pos h2]
      go_enter Tryz.func70, Tryz.ntmps70
      go_wp2
      go_ret
      exact ⟨rfl, rfl⟩
    · rw [if_neg h2]
      go_enter Tryz.func70, Tryz.ntmps70
      go_wp2
      go_ret
      exact ⟨rfl, rfl⟩

/-- How two words that are no NaN stand to each other. -/
theorem ord_sv (a b : Nat) (ha : Fm.isNan a = false) (hb : Fm.isNan b = false) : FloatKind.f64.format.order a b = some (compare (Fm.SV a) (Fm.SV b)) := Fm.order_eq a b ha hb

theorem cmpf_any (a b : Nat) (ha : Fm.isNan a = false) (hb : Fm.isNan b = false) (w : World) :
    Calls Tryz.prog 72 #[.float .f64 a, .float .f64 b] w fun e w' => e = .returned (.int .i64 (cmpI (Fm.SV a) (Fm.SV b))) ∧ w = w' := by
  have h1 := neq_self a
  have h2 := neq_self b
  have h3 := ord_sv a b ha hb
  rw [ha] at h1
  rw [hb] at h2
  unfold cmpI
  by_cases h : Fm.SV a < Fm.SV b
  · rw [if_pos h]
    rw [Int.compare_eq_lt.2 h] at h3
    clear h ha hb
    go_enter Tryz.func72, Tryz.ntmps72
    go_wp2
    go_ret
    exact ⟨rfl, rfl⟩
  · rw [if_neg h]
    by_cases h' : Fm.SV b < Fm.SV a
    · rw [if_pos h']
      rw [Int.compare_eq_gt.2 h'] at h3
      clear h h' ha hb
      go_enter Tryz.func72, Tryz.ntmps72
      go_wp2
      go_ret
      exact ⟨rfl, rfl⟩
    · rw [if_neg h']
      have e : Fm.SV a = Fm.SV b := by omega
      rw [e] at h3
      have h4 : FloatKind.f64.format.order a b = some Ordering.eq := by rw [h3]; simp
      clear h h' ha hb e h3
      go_enter Tryz.func72, Tryz.ntmps72
      go_wp2
      go_ret
      exact ⟨rfl, rfl⟩

/-! ### The two orders are one -/
theorem sv_zero_iff (b : Nat) : Fm.SV b = 0 ↔ b % 2 ^ 63 = 0 := by
  have h1 := Fm.SV_abs b
  constructor
  · intro h
    refine Classical.byContradiction fun hn => ?_
    have := V_pos hn
    omega
  · intro h
    rw [h, Fm.V_zero] at h1
    omega

theorem cmp_num (a b : Nat) (ha : a < 18446744073709551616) (hb : b < 18446744073709551616) (h1 : Fm.isNan a = false) (h2 : Fm.isNan b = false) (hz : ¬ (Fm.SV a = 0 ∧ Fm.SV b = 0)) :
    cmpI (Fm.SV a) (Fm.SV b) = rcmpW a b := by
  have ea : bitsW a = a := by unfold bitsW; rw [h1]; rfl
  have eb : bitsW b = b := by unfold bitsW; rw [h2]; rfl
  have za := sv_zero_iff a
  have zb := sv_zero_iff b
  have hl := Fm.V_lt_iff (a % 2 ^ 63) (b % 2 ^ 63)
  have hg := Fm.V_lt_iff (b % 2 ^ 63) (a % 2 ^ 63)
  have na : Fm.neg a = decide (9223372036854775808 ≤ a) := by
    unfold Fm.neg; rw [Bool.eq_iff_iff]; simp only [beq_iff_eq, decide_eq_true_eq]; omega
  have nb : Fm.neg b = decide (9223372036854775808 ≤ b) := by
    unfold Fm.neg; rw [Bool.eq_iff_iff]; simp only [beq_iff_eq, decide_eq_true_eq]; omega
  have c3 := cmp3_cases (rankW a) (rankW b)
  unfold rcmpW
  rw [ea, eb]
  unfold cmpI
  have sa : Fm.SV a = if 9223372036854775808 ≤ a then -(Fm.V (a % 2 ^ 63) : Int) else Fm.V (a % 2 ^ 63) := by
    unfold Fm.SV; rw [na]; simp only [decide_eq_true_eq]
  have sb : Fm.SV b = if 9223372036854775808 ≤ b then -(Fm.V (b % 2 ^ 63) : Int) else Fm.V (b % 2 ^ 63) := by
    unfold Fm.SV; rw [nb]; simp only [decide_eq_true_eq]
  generalize Fm.V (a % 2 ^ 63) = va at *
  generalize Fm.V (b % 2 ^ 63) = vb at *
  generalize Fm.SV a = x at *
  generalize Fm.SV b = y at *
  unfold rankW at *
  clear na nb ea eb h1 h2
  by_cases p : 9223372036854775808 ≤ a
  · rw [if_pos p] at sa c3
    by_cases q : 9223372036854775808 ≤ b
    · rw [if_pos q] at sb c3
      rw [if_pos p, if_pos q]
      by_cases l : x < y
      · rw [if_pos l]; omega
      · rw [if_neg l]
        by_cases g : y < x
        · rw [if_pos g]; omega
        · rw [if_neg g]; omega
    · rw [if_neg q] at sb c3
      rw [if_pos p, if_neg q]
      by_cases l : x < y
      · rw [if_pos l]; omega
      · rw [if_neg l]
        by_cases g : y < x
        · rw [if_pos g]; omega
        · rw [if_neg g]; omega
  · rw [if_neg p] at sa c3
    by_cases q : 9223372036854775808 ≤ b
    · rw [if_pos q] at sb c3
      rw [if_neg p, if_pos q]
      by_cases l : x < y
      · rw [if_pos l]; omega
      · rw [if_neg l]
        by_cases g : y < x
        · rw [if_pos g]; omega
        · rw [if_neg g]; omega
    · rw [if_neg q] at sb c3
      rw [if_neg p, if_neg q]
      by_cases l : x < y
      · rw [if_pos l]; omega
      · rw [if_neg l]
        by_cases g : y < x
        · rw [if_pos g]; omega
        · rw [if_neg g]; omega
end Nm
end Go.Proofs.YtjfhnkhabipbdaaGreatDoor
