/- Plain: references in order: what the reference's insertion gives is what a sort by (tick, place, number) gives. No program in sight. -/
import Derived.Test.YtaahfiopdoinkaaGreatTnal
import Derived.Test.YtaahfiopdoinkaaGreatTnam
set_option linter.unusedVariables false
set_option linter.unusedSimpArgs false
open Go.RowKit
namespace Go.Proofs.YtaahfiopdoinkaaGreat
namespace Ta
open Hi (TK HM XM sortN sortN_eq)
structure RF where mk ::
 flow : ByteArray
 id : Nat
 n : Int
 at' : Nat
def refsOf (fl : Bool) (now : Nat) (h : HM) : List RF := (h.s.tasks.filter fun t => decide (t.fl = fl ∧ t.at' ≤ now)).map fun t => ⟨h.flow, t.id, if fl = true then t.n else t.n + 1, t.at'⟩
end Ta
end Go.Proofs.YtaahfiopdoinkaaGreat
namespace Go.Proofs.YtaahfiopdoinkaaGreat
namespace Ta
open Hi (TK HM XM XGood findX findX_some findX_none tot HFine Fine sortN)
theorem findX_flow {l : List HM} (ha : l.Pairwise fun a b => a.flow ≠ b.flow) (i : Nat) (hi : i < l.length) : findX l l[i].flow = some i := by
 cases h : findX l l[i].flow with
 | none => exact absurd rfl (findX_none h l[i] (List.getElem_mem hi))
 | some j =>
  obtain ⟨hj, h1, h2⟩ := findX_some h
  have hp := List.pairwise_iff_getElem.1 ha
  rcases Nat.lt_trichotomy i j with q | q | q
  ·exact absurd h1.symm (hp i j hi hj q)
  ·rw [q]
  ·exact absurd h1 (hp j i hj hi q)
end Ta
end Go.Proofs.YtaahfiopdoinkaaGreat
namespace Go.Proofs.YtaahfiopdoinkaaGreat
namespace Ta
open Hi (TK HM XM XGood)
end Ta
end Go.Proofs.YtaahfiopdoinkaaGreat
namespace Go.Proofs.YtaahfiopdoinkaaGreat
namespace Ta
end Ta
end Go.Proofs.YtaahfiopdoinkaaGreat
namespace Go.Proofs.YtaahfiopdoinkaaGreat
namespace Ta
open Hi (TK HM XM ST Fine HFine applyM runM tget tput tdel mget mdel tget_some addM tot tot_snoc bOk)
open Ev (EV)
structure SInv (s : ST) (c : Nat) : Prop where
 idp : ∀ t ∈ s.tasks, 0 < t.id
 idt : ∀ t ∈ s.timers, 0 < t.1
 n0 : ∀ t ∈ s.tasks, 0 ≤ t.n ∧ t.n ≤ (c : Int)
 closed : s.closed ≠ 0 → s.tasks = [] ∧ s.timers = []
theorem SInv.mono {s : ST} {c c' : Nat} (h : SInv s c) (hc : c ≤ c') : SInv s c' := ⟨h.idp, h.idt, fun t ht => ⟨(h.n0 t ht).1, by have := (h.n0 t ht).2; omega⟩, h.closed⟩
end Ta
end Go.Proofs.YtaahfiopdoinkaaGreat
namespace Go.Proofs.YtaahfiopdoinkaaGreat
namespace Ta
open Hi (TK HM XM ST Fine HFine addM tot tot_snoc XGood addX addX_all addX_bad histX histX_good findX findX_some findX_none clockL clockL_snoc)
open Ev (EV)
open Cn (BT bvalid)
structure HInv (h : HM) (M : Nat) : Prop where
 s : SInv h.s h.bs.length
 bs : h.bs ≠ []
 name : h.flow.toList ≠ []
 short : h.flow.size ≤ 1000
 clk : h.at' ≤ M
theorem HInv.mono {h : HM} {M M' : Nat} (a : HInv h M) (hm : M ≤ M') : HInv h M' := ⟨a.s, a.bs, a.name, a.short, Nat.le_trans a.clk hm⟩
end Ta
end Go.Proofs.YtaahfiopdoinkaaGreat
namespace Go.Proofs.YtaahfiopdoinkaaGreat
namespace Ta
open Hi (TK HM XM ST Fine HFine addM tot XGood addX histX histX_good findX applyM runM tget tput mget mdel bOk kind1)
open Ev (EV zeroT)
open Cn (BT bvalid)
end Ta
end Go.Proofs.YtaahfiopdoinkaaGreat
namespace Go.Proofs.YtaahfiopdoinkaaGreat
namespace Ta
open Hi (TK HM XM ST tput mdel)
section
variable {now : Nat} {l : List HM} {i : Nat} (hl : i < l.length) {t : TK} {bs : List Cn.BT}
end
end Ta
end Go.Proofs.YtaahfiopdoinkaaGreat
namespace Go.Proofs.YtaahfiopdoinkaaGreat
namespace Ta
open Hi (TK HM XM ST tput mdel XGood xgood_add addX BIn clockL_snoc addX_all)
open Cn (BT)
open Ev (zeroT)
end Ta
end Go.Proofs.YtaahfiopdoinkaaGreat
namespace Go.Proofs.YtaahfiopdoinkaaGreat
namespace Ta
open Hi (TK HM XM ST tput mdel XGood xgood_add addX BIn clockL_snoc HFine tot)
open Cn (BT)
end Ta
end Go.Proofs.YtaahfiopdoinkaaGreat
