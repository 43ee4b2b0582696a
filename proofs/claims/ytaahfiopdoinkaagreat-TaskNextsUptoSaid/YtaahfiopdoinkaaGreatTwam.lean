/- Sorting a row of elements by their numbers. -/
import Derived.Test.YtaahfiopdoinkaaGreatTwai
import Derived.Test.YtaahfiopdoinkaaGreatTwab
import Derived.Test.YtaahfiopdoinkaaGreatTwah
import Derived.Shelf.SlSortCmp.NoneTotal
set_option linter.unusedVariables false
set_option linter.unusedSimpArgs false
namespace Go.Proofs.YtaahfiopdoinkaaGreat
open Go.RowKit Go.Shelf Go.Lib Go.Sort
namespace Hi
def cfN (x y:Nat):Int:=Lv.DZ x y
theorem ltN (x y:Nat):ltOf cfN x y=decide (x<y):=by
 unfold ltOf cfN Lv.DZ
 by_cases h:x<y
 ·simp[h]
 ·by_cases h2:y<x<;>simp[h,h2]
theorem swoN : SWO (ltOf cfN) where
 irrefl x:=by rw[ltN];simp
 trans x y z h1 h2:=by rw[ltN] at *;simp only[decide_eq_true_eq] at *;omega
 ntrans x y z h1 h2:=by rw[ltN] at *;simp only[decide_eq_false_iff_not] at *;omega
theorem totN (x y:Nat)(h1:ltOf cfN x y=false)(h2:ltOf cfN y x=false):x=y:=by
 rw[ltN] at h1 h2
 simp only[decide_eq_false_iff_not] at h1 h2
 omega
def SO (l:List Nat):List Nat:=l.mergeSort fun x y=> !(ltOf cfN) y x
theorem YZ : ∀ l l' : List Nat, l.Perm l' -> l.Pairwise (· < ·) -> l'.Pairwise (· < ·) -> l = l'
 | [],l',h,_,_=>h.nil_eq
 | a::t,[],h,_,_=>absurd h.length_eq O3
 | a::t,b::t',h,p,q=>by
  have ha:a∈b::t':=h.mem_iff.1 List.mem_cons_self
  have hb:b∈a::t:=h.mem_iff.2 List.mem_cons_self
  have e:a=b:=by
   rcases List.mem_cons.1 ha with e|e
   ·exact e
   ·rcases List.mem_cons.1 hb with e2 | e2
    ·exact e2.symm
    ·have h1 := (List.pairwise_cons.1 p).1 b e2
     have h2:=(List.pairwise_cons.1 q).1 a e
     omega
  subst e
  rw[YZ t t' (List.Perm.cons_inv h) (List.pairwise_cons.1 p).2 (List.pairwise_cons.1 q).2]
theorem Uw {l l':List Nat}(h:l.Perm l')(hs:l'.Pairwise (· < ·)):SO l=l':=by
 have hp:(SO l).Perm l':=(List.mergeSort_perm _ _).trans h
 refine YZ _ _ hp ?_ hs
 have hnd:l'.Pairwise (· ≠ ·):=hs.imp fun h e=>by subst e;omega
 have hnd2:(SO l).Pairwise (· ≠ ·):=hp.symm.pairwise hnd (fun h e=>h e.symm)
 have hle:(SO l).Pairwise (fun x y=>(!(ltOf cfN) y x)=true):=List.pairwise_mergeSort (fun a b c h1 h2=>by
  simp only[Bool.not_eq_true',ltN,decide_eq_false_iff_not] at *;omega) (fun a b=>by
  simp only[Bool.or_eq_true,Bool.not_eq_true',ltN,decide_eq_false_iff_not];omega) l
 refine(hle.and hnd2).imp fun {x y} ⟨h1,h2⟩=> ?_
 simp only[Bool.not_eq_true',ltN,decide_eq_false_iff_not] at h1
 omega
theorem Gm {α : Type} (enc : α -> List Value) (k : Nat) (hk : ∀ x, (enc x).length = k) : ∀ (l : List α) (i q : Nat) (h : i < l.length), q < k -> (l.flatMap enc)[i * k + q]? = (enc l[i])[q]?
 | a::t,0,q,h,hq=>by
  rw[List.flatMap_cons,Nat.zero_mul,Nat.zero_add,List.getElem?_append_left (by rw[hk];exact hq)];rfl
 | a::t,i+1,q,h,hq=>by
  rw[List.flatMap_cons,List.getElem?_append_right (by rw[hk,Nat.succ_mul];omega),hk,show (i+1)*k+q-k=i*k+q by rw[Nat.succ_mul];omega,Gm enc k hk t i q (by simpa using h) hq]
  rfl
theorem Pc {α : Type} (enc : α -> List Value) (k : Nat) (hk : ∀ x, (enc x).length = k) : ∀ (l : List α), (l.flatMap enc).length = l.length * k
 | []=>O3
 | a::t=>by rw[List.flatMap_cons,List.length_append,hk,Pc enc k hk t,List.length_cons,Nat.succ_mul];omega
theorem Nz {α:Type} [Inhabited α] {w:World}{base blk cap k:Nat}{E:TypeId}(enc:α->List Value)(hk:∀x,(enc x).length=k)(hk0:0<k){ids:List α}(h:w.ownsRow base E k (.slice (some ⟨blk,0,none⟩) ids.length cap) ids.length (ids.flatMap enc)):HoldsK enc k w blk 0 ids.toArray:=by
 obtain⟨h1,h2,-,-⟩:=DP h
 intro j hj
 rw[size_flatK] at hj
 rw[get_flatK _ _ _ _ hj,Nat.zero_add]
 have hj2:j<ids.length*k:=by simpa using hj
 have hd:j/k<ids.length:=Nat.div_lt_of_lt_mul (by rw[Nat.mul_comm];exact hj2)
 have hm:j%k<k:=Nat.mod_lt _ hk0
 have e:=Gm enc k hk ids (j/k) (j%k) hd hm
 have ej:j/k*k+j%k=j:=Nat.div_add_mod' j k
 rw[ej] at e
 refine⟨?_,h2 j⟩
 rw[h1 j hj2,e]
 have hx:ids.toArray[j/k]! =ids[j/k]:=by simp[hd]
 rw[hx]
 simp[hk,hm]
theorem UT {α:Type} [Inhabited α] {w:World}{blk k:Nat}{enc:α->List Value}(hk:∀x,(enc x).length=k){ids:List α}(h:HoldsK enc k w blk 0 ids.toArray)(i:Nat)(hi:i<ids.length)(q:Nat)(hq:q<k):w.cell? ⟨blk,i*k+q,none⟩=(enc ids[i])[q]?/\w.frozen? ⟨blk,i*k+q,none⟩=false:=by
 have hlt:i*k+q<ids.length*k:=by
  have:(i+1)*k<=ids.length*k:=Nat.mul_le_mul_right k hi
  rw[Nat.succ_mul] at this;omega
 obtain⟨h1,h2⟩:=h (i*k+q) (by rw[size_flatK];simpa using hlt)
 rw[Nat.zero_add] at h1 h2
 refine⟨?_,h2⟩
 rw[h1,get_flatK _ _ _ _ (by simpa using hlt)]
 have hk0:0<k:=O0
 have e1:(i*k+q)/k=i:=by rw[Nat.mul_comm,Nat.mul_add_div hk0,Nat.div_eq_of_lt hq];omega
 have e2:(i*k+q)%k=q:=by rw[Nat.mul_comm,Nat.mul_add_mod,Nat.mod_eq_of_lt hq]
 rw[e1,e2]
 have hx:ids.toArray[i]! =ids[i]:=by simp[hi]
 rw[hx]
 simp[hk,hq]
theorem Kv {α:Type} [Inhabited α] {base:Nat}(w:World)(enc:α->List Value)(k g n:Nat)(d:Array α)(os:Array Obj)(hg:base<=g)(hz:base<=w.heap.size):Go.RowKit.Below base w (sortWorldK enc k w g 0 n d os):=by
 refine⟨rfl,rfl,rfl,size_sortWorldK_c enc k w g 0 n d os,fun j hj=> ?_⟩
 unfold sortWorldK putRowK putRow mapBlock grow Sort.ahead
 simp only
 rw[Array.getElem?_append_left (by simpa using (show j<w.heap.size by omega))]
 simp[Array.getElem?_modify,show g≠j by omega]
theorem Ys {ρ : Ren} (L : SlLaysF0.n6 Tryz.prog ρ) (k : Nat) (hk0 : 0 < k) (aE : ∀ w, (isAgg (ρ.t 24)).run Tryz.prog w = .ok true w) (zE : ∀ w, (Go.sizeOf (ρ.t 24)).run Tryz.prog w = .ok k w) (enc : Nat -> List Value) (hk : ∀ x, (enc x).length = k) (h1 : ∀ x, ∀ v ∈ enc x, v.oneCell' = true)
  (g:Nat) (eg:∀args w,(callFunc g args).run Tryz.prog w= .ok (.enter g args) w) (hcmp:∀(i j:Nat) (W:World),Calls Tryz.prog g #[.agg (enc i).toArray,.agg (enc j).toArray] W fun e w'=>e= .returned (.int .i64 (Lv.DZ i j))/\∃q os,w'=grow (W.drewN q) os)
  (base blk cap:Nat) (E:TypeId) (ids:List Nat) (w:World) (hl:ids.length<4611686018427387904) (hz:base<=w.heap.size) (hown:w.ownsRow base E k (.slice (some ⟨blk,0,none⟩) ids.length cap) ids.length (ids.flatMap enc)) :
  Calls Tryz.prog (ρ.f 6) #[.slice (some ⟨blk,0,none⟩) ids.length cap,.func (.func g) #[] #[]] w fun e w'=>e= .returned (.tuple #[])/\Go.RowKit.Below base w w'/\blk<w'.heap.size/\HoldsK enc k w' blk 0 (SO ids).toArray:=by
 obtain⟨-,-,hg,hb⟩:=DP hown
 have hH:=Nz enc hk hk0 hown
 have hcon:=AnyQ.slices_SortFunc_total L k aE zE enc hk h1 cfN swoN g #[] blk 0 cap ids.toArray w eg (fun _ _ _ _ x y=>hcmp x y _) hH hg (by simpa using hl) totN
 refine hcon.mono ?_
 rintro e w' ⟨rfl,n,os,rfl⟩
 exact⟨rfl,Kv w enc k blk n _ os hb hz,Nat.lt_of_lt_of_le hg (size_sortWorldK_c enc k w blk 0 n _ os),holdsK_sortWorldK_c enc k w blk 0 ids.toArray (SO ids).toArray n os hH hg (by simp[SO,List.length_mergeSort])⟩
end Hi
end Go.Proofs.YtaahfiopdoinkaaGreat
