/- Texts of values: what a text is, and where it ends. No program in sight. -/
import Derived.Test.YtjfhnkhabipbdaaGreatDoorMjal
import Derived.Test.YtjfhnkhabipbdaaGreatDoorMjap
namespace Go.Proofs.YtjfhnkhabipbdaaGreatDoor
open Go.RowKit
set_option linter.unusedVariables false
namespace Pf
open _root_.Go.Proofs.YtjfhnkhabipbdaaGreatDoor.Nm (bitsW)
open Vt (VT)
open Bt (sb sb_len)
open Fu (textW hd hd_lt bytes_ext)

/-- Two digits for each byte. -/
def hexL (l : List Nat) : List UInt8 := (l.map fun c => [UInt8.ofNat (hd (c / 16)), UInt8.ofNat (hd (c % 16))]).flatten
theorem hexL_cons (c : Nat) (l : List Nat) : hexL (c :: l) = UInt8.ofNat (hd (c / 16)) :: UInt8.ofNat (hd (c % 16)) :: hexL l := by simp [hexL]
theorem sb_lt (s : ByteArray) : ∀ b ∈ sb s, b < 256 := fun b hb => by
  simp only [sb, List.mem_map] at hb
  obtain ⟨x, -, rfl⟩ := hb
  exact x.toNat_lt
/-- The text of a string. -/
def stext (s : ByteArray) : List UInt8 := 34 :: (hexL (sb s) ++ [34])
/-- The text of a value. -/
def VT.text (t : VT) : List UInt8 := t.fold fun k n f s r => if k = 1 then Lib.itoa n else if k = 2 then 35 :: (textW (bitsW f)).data.toList else if k = 3 then stext s else if k = 4 then 91 :: (Lib.join r [32] ++ [93]) else [110, 105, 108]
theorem text_mk (k n : Int) (f : Nat) (s : ByteArray) (l : List VT) : VT.text (.mk k n f s l) = if k = 1 then Lib.itoa n else if k = 2 then 35 :: (textW (bitsW f)).data.toList else if k = 3 then stext s else if k = 4 then 91 :: (Lib.join (l.map VT.text) [32] ++ [93]) else [110, 105, 108] := by
  unfold VT.text; rw [VT.fold]

end Pf
end Go.Proofs.YtjfhnkhabipbdaaGreatDoor
