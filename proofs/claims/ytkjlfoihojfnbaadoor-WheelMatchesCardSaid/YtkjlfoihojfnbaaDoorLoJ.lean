/- Take of any slot. -/
import Derived.Test.YtkjlfoihojfnbaaDoorLoH
namespace Go.Proofs.YtkjlfoihojfnbaaDoor
open Go.RowKit
set_option linter.unusedVariables false
set_option linter.unusedSimpArgs false
namespace Lo
open Lv (W64 slotOf slotOf_lt fresh ret_int slot_any)
open Ln (lvCells LV upd only_set only_refl only_drew)
variable {w : World} {b k : Nat} {f : Nat → Value}
set_option maxRecDepth 100000 in
set_option maxHeartbeats 1000000 in
theorem take_any (s : Nat) (hs : s < 64) (base m : Nat) (hm : m < 18446744073709551616) (l : List (Nat × Nat)) (hl : l.length ≤ 1000) (row : IRow 34 w base (f s) l) (hne : ∀ g, (f s).ownBlock = some g → g ≠ b) (r : LV w b k f m) :
    Calls Tryd.prog 19 #[.pointer (some ⟨b, 0, none⟩), .int .i64 s] w fun e w' => e = .returned (f s) ∧ Lies w' (f s) (sortI l) ∧ LV w' b k (upd f s (.slice none 0 0)) (marked m s 0 : Nat) ∧ KB w w' (fun g => g = b ∨ (f s).ownBlock = some g) := by
  obtain ⟨A, cap, hfs, hcap, -⟩ := row.opened
  have c := r.slot s hs
  rw [hfs] at c
  have fz := r.free (1 + s)
  have hs0 : (0 : Int) ≤ s := by omega
  have hs1 : (s : Int) < 64 := by omega
  have hblt := r.lt
  have HM := Lib.hid (mark_exact s hs m hm none 0 0 (f := upd f s (.slice none 0 0)) (by simp [upd]) (r.setSlot s hs _))
  have HG := Lib.hid (only_set w w b (1 + s) (.slice none 0 0) (only_refl w b))
  have HSO := Lib.hid fun w9 (row9 : IRow 34 w9 base (f s) l) => sort_any l base (f s) w9 hl row9
  rw [hfs] at HSO
  have HROW := Lib.hid row
  have HNE := Lib.hid hne
  have HFS := Lib.hid hfs
  clear r row hne hfs
  go_enter Tryd.func19, Tryd.ntmps19
  go_wp2_with fail
  refine HM.out.mono ?_
  rintro e w9 ⟨⟨v9, rfl⟩, hlv9, hg9⟩
  have HLV := Lib.hid hlv9
  have HKB : Hid (KB w w9 (fun g => g = b)) := Lib.hid ((KB.of_grown (fun g => g = b) HG.out (fun g h => (by cases h; rfl))).trans (KB.of_grown (fun g => g = b) hg9 (fun g h => (by cases h; rfl))) (fun j _ h => h))
  have HR9 : Hid (IRow 34 w9 base (f s) l) := Lib.hid (HROW.out.keep fun g hg => HKB.out.block g (HROW.out.lt g hg).2 (fun e => HNE.out g hg e))
  have HS9 := Lib.hid (HSO.out w9 (by rw [← HFS.out]; exact HR9.out))
  clear hlv9 hg9 HM HG HSO
  go_wp2_with fail
  refine HS9.out.mono ?_
  rintro e w10 ⟨⟨v10, rfl⟩, hlies, hkb⟩
  have HL10 := Lib.hid hlies
  have HK10 := Lib.hid hkb
  clear hlies hkb HS9
  go_wp2_with fail
  go_ret
  have hf := HFS.out
  have hb9 : b < w9.heap.size := HLV.out.lt
  refine ⟨by rw [hf]; rfl, by rw [hf]; exact HL10.out, HLV.out.keep (HK10.out.block b hb9 (fun e => HNE.out b (by rw [hf]; exact e) rfl)), ?_⟩
  exact (show KB w w9 (fun g => g = b ∨ (f s).ownBlock = some g) from ⟨HKB.out.os, HKB.out.tape, HKB.out.output, HKB.out.size, fun j hj hn => HKB.out.block j hj (fun e => hn (.inl e))⟩).trans HK10.out (fun j _ h => .inr (by rw [hf]; exact h))
end Lo
end Go.Proofs.YtkjlfoihojfnbaaDoor
