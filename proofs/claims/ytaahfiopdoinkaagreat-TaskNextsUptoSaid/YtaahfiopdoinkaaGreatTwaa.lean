/- Contracts of package level's arithmetic (New, Slot, Fits, Start, turn) and of the reference's (Width, Slot, Fits, Start): what each call computes. -/
import Derived.Test.YtaahfiopdoinkaaGreatRows
import Derived.WalkKit
import Derived.WalkLawsBesides
import Derived.WalkSpells
import Derived.RowKit3
import Derived.Outline
import Derived.Lib.Hide
import Derived.Laws.Bits64b
import Derived.Deep.QuietTactic
import Derived.BigQuiet
import Derived.Laws.Tables
import Derived.Below
open Go.RowKit
namespace Go.Proofs.YtaahfiopdoinkaaGreat
theorem O0{p:Prop}(h:p:=by omega):p:=h
theorem O1{p:Prop}(h:p:=by decide):p:=h
theorem O2{p:Prop}(h:p:=by kernel_rfl):p:=h
theorem O3{p:Prop}(h:p:=by simp):p:=h
theorem U {p:Prop}(h:p):Go.RowKit.Hid p:=h
theorem Rl {w:World}{o:Obj}:Go.RowKit.Below w.heap.size w (w.alloc o):=(Go.RowKit.Below.refl _ _).alloc (Nat.le_refl _) _
theorem Rm.{u} {α:Sort u}(a:α):∃x,x=a:=⟨a,rfl⟩
end Go.Proofs.YtaahfiopdoinkaaGreat
namespace Go.Proofs.YtaahfiopdoinkaaGreat
namespace Lv
theorem Dk {k:IntKind}{a b:Int}(h:a=b):Ending.returned (.int k a)= .returned (.int k b):=by rw[h]
def W64 (k:Nat):Nat:=64^k
theorem w0 : ((W64 0:Nat):Int)=1:=rfl
theorem w1 : ((W64 1:Nat):Int)=64:=rfl
theorem w2 : ((W64 2:Nat):Int)=4096:=rfl
theorem w3 : ((W64 3:Nat):Int)=262144:=rfl
theorem w4 : ((W64 4:Nat):Int)=16777216:=rfl
theorem De {a b:Bool}(h:a=b):Ending.returned (.bool a)= .returned (.bool b):=by rw[h]
end Lv
end Go.Proofs.YtaahfiopdoinkaaGreat
