/- Contract of the builder: number. -/
import Derived.Test.YtpneejlilgepfaaCwB
import Derived.Deep.RegionWith
namespace Go.Proofs.Ytpneejlilgepfaa
open Go.RowKit
set_option linter.unusedVariables false
namespace Cm
variable {X : Nat → Prop}
open Nm (ret_int ret_bool)
open Vt (VT Rep BoxAt below_drew)
open Ev (EV FieldsOk evCells vCells EBox ERep)

section
variable {P : Program} {ops : Array Oper} {Q : Exit → Act → World → Prop} {md : Region.Mode}
theorem takeA {i : Nat} {oi : Oper} {rest : List Oper} {v : Value} {fuel : Nat} {listed : Array Bool} {a : Act} {w : World} (hi : ops.toList.drop i = oi :: rest)
    (hs : Region.noSelect ops = true) (hf : Region.free md ops listed i = true) (hr : (Region.ready md ops listed).contains i = true)
    (hQ : ∀ c a w, Q (.panic c) (a.put oi.dst v) w → Q (.panic c) a w) (hy : Yields P ops oi v a)
    (h : wpAny P md ops Q fuel (listed.setIfInBounds i true) (a.put oi.dst v) w) : wpAny P md ops Q (fuel + 1) listed a w :=
  wpAny_take (Ev.drop_get hi) hs hf hr hQ hy h
theorem consA {fuel : Nat} {listed : Array Bool} {a : Act} {w : World} {i : Nat} {o : Oper} {rest : List Oper} {rs : List Nat} (ho : ops.toList.drop i = o :: rest)
    (h : ∀ K' : Act → World → Prop, (∀ a w, wpAny P md ops Q fuel (listed.setIfInBounds i true) a w → K' a w) → if Region.wanted o (yielded ops a.tmps) = true then Oper.wp P o a w K' Q else K' (a.put o.dst undef) w)
    (hs : AllReady P md ops Q fuel listed a w rs) : AllReady P md ops Q fuel listed a w (i :: rs) := AllReady.cons (Ev.drop_get ho) h hs
end

def withId (e : EV) (n : Nat) : EV := { e with id := n }

/-- event.Valid of an event whose value lies below. -/
theorem evalid_later (e : EV) (w : World) (lo hi : Nat) (vk vn : Int) (vf : Nat) (vs : ByteArray) (A' : Option Addr) (m c : Nat) (hf : FieldsOk e) (hv : Rep w lo hi e.v (vCells vk vn vf vs A' m c)) (hz : hi ≤ w.heap.size) (W : World) (hW : Below w.heap.size w W) :
    Calls Try.prog 36 #[.agg (evCells e vk vn vf vs A' m c)] W fun r w' => r = .returned (.bool e.valid) ∧ Below W.heap.size W w' :=
  Ev.evalid_any e W lo hi _ ⟨hf, vk, vn, vf, vs, A', m, c, rfl, hv.later (hW.mono hz)⟩ (Nat.le_trans hz hW.size)

end Cm
end Go.Proofs.Ytpneejlilgepfaa
