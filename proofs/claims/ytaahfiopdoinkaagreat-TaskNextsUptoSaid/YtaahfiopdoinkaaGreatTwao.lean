/- Plain: references in order: what the reference's insertion gives is what a sort by (tick, place, number) gives. No program in sight. -/
import Derived.Test.YtaahfiopdoinkaaGreatTwam
import Derived.Test.YtaahfiopdoinkaaGreatTwan
variable {p : Prop}
set_option linter.unusedVariables false
set_option linter.unusedSimpArgs false
open Go.RowKit
namespace Go.Proofs.YtaahfiopdoinkaaGreat
namespace Ta
open Hi (TK HM XM SO Uw)
structure RF where mk ::
 flow:ByteArray
 id:Nat
 n:Int
 at':Nat
def Ft (l:List RF)(r:RF):List RF:=l.takeWhile (fun x=>decide (x.at'<=r.at'))++r::l.dropWhile (fun x=>decide (x.at'<=r.at'))
def DQ (l:List RF):List RF:=l.foldl Ft []
theorem Gl (l:List RF)(r:RF):DQ (l++ [r])=Ft (DQ l) r:=by simp[DQ,List.foldl_append]
theorem Pr (l:List RF)(r:RF):(l++ [r]).Perm (Ft l r):=by
 unfold Ft
 refine(List.perm_append_comm).trans ?_
 rw[List.singleton_append]
 refine List.Perm.trans ?_ List.perm_middle.symm
 rw[List.takeWhile_append_dropWhile]
def code (K:Nat)(kf:RF->Nat)(r:RF):Nat:=r.at'*K+kf r
theorem XF {K:Nat}{kf:RF->Nat}{a b:RF}(ha:kf a<K)(h:a.at'<b.at'\/a.at'=b.at'/\kf a<kf b):code K kf a<code K kf b:=by
 unfold code
 rcases h with h|⟨h,h2⟩
 ·have : (a.at' + 1) * K <= b.at' * K := Nat.mul_le_mul_right K h
  rw[Nat.succ_mul] at this;omega
 ·rw[h];omega
theorem code_at {K:Nat}{kf:RF->Nat}{a b:RF}(hb:kf b<K)(h:code K kf a<code K kf b):a.at'<=b.at':=by
 unfold code at h
 rcases Nat.lt_or_ge b.at' a.at' with q|q
 ·have : (b.at' + 1) * K <= a.at' * K := Nat.mul_le_mul_right K q
  rw[Nat.succ_mul] at this;omega
 ·exact q
theorem Lj (p : RF -> Bool) : ∀ (l : List RF) (y : RF), y ∈ l.dropWhile p -> ∃ x t, l.dropWhile p = x :: t /\ p x = false /\ y ∈ x :: t
 | [],y,h=>by simp at h
 | a::t,y,h=>by
  by_cases q:p a=true
  ·rw [List.dropWhile_cons_of_pos q] at h ⊢
   exact Lj p t y h
  ·rw [List.dropWhile_cons_of_neg (by simpa using q)] at h ⊢
   exact⟨a,t,rfl,by simpa using q,h⟩
theorem KW (p : RF -> Bool) : ∀ (l : List RF) (y : RF), y ∈ l.takeWhile p -> p y = true /\ y ∈ l
 | [],y,h=>by simp at h
 | a::t,y,h=>by
  by_cases q:p a=true
  ·rw [List.takeWhile_cons_of_pos q] at h
   rcases List.mem_cons.1 h with e|e
   ·subst e;exact⟨q,List.mem_cons_self⟩
   ·obtain ⟨h1, h2⟩ := KW p t y e
    exact⟨h1,List.mem_cons_of_mem _ h2⟩
  ·rw[List.takeWhile_cons_of_neg (by simpa using q)] at h;simp at h
theorem YP {K:Nat}{kf:RF->Nat}{l:List RF}{r:RF}(hs:l.Pairwise fun a b=>code K kf a<code K kf b)(hK:∀x∈l,kf x<K)(hr:kf r<K)(hlt:∀x∈l,kf x<kf r) :
  (Ft l r).Pairwise fun a b=>code K kf a<code K kf b:=by
 unfold Ft
 have hsub1:(l.takeWhile fun x=>decide (x.at'<=r.at')).Sublist l:=List.takeWhile_sublist _
 have hsub2:(l.dropWhile fun x=>decide (x.at'<=r.at')).Sublist l:=List.dropWhile_sublist _
 have hgt:∀y∈l.dropWhile fun x=>decide (x.at'<=r.at'),r.at'<y.at':=by
  intro y hy
  obtain⟨x,t,e,hx,hm⟩:=Lj _ l y hy
  have hx':r.at'<x.at':=by simpa using hx
  rcases List.mem_cons.1 hm with q|q
  ·subst q;exact hx'
  ·have hp := hs.sublist hsub2
   rw[e] at hp
   have h1:=(List.pairwise_cons.1 hp).1 y q
   have hy2:y∈l:=hsub2.subset hy
   exact Nat.lt_of_lt_of_le hx' (code_at (hK y hy2) h1)
 refine List.pairwise_append.2 ⟨hs.sublist hsub1,List.pairwise_cons.2 ⟨fun y hy=>XF hr (.inl (hgt y hy)),hs.sublist hsub2⟩,?_⟩
 intro x hx y hy
 obtain⟨hx1,hx2⟩:=KW _ l x hx
 have hx3:x.at'<=r.at':=by simpa using hx1
 rcases List.mem_cons.1 hy with q|q
 ·subst q
  refine XF (hK x hx2) ?_
  rcases Nat.lt_or_ge x.at' y.at' with a|a
  ·exact .inl a
  ·exact .inr ⟨O0,hlt x hx2⟩
 ·exact XF (hK x hx2) (.inl (Nat.lt_of_le_of_lt hx3 (hgt y q)))
theorem M141 (h:p:=by
 have h:=key l.length (Nat.le_refl _)
 rwa [List.take_length] at h):p:=h
theorem GG {K:Nat}{kf:RF->Nat}(l:List RF)(hK:∀x∈l,kf x<K)(hl:l.Pairwise fun a b=>kf a<kf b):l.Perm (DQ l)/\(DQ l).Pairwise fun a b=>code K kf a<code K kf b:=by
 have key:∀j,j<=l.length->(l.take j).Perm (DQ (l.take j))/\(DQ (l.take j)).Pairwise fun a b=>code K kf a<code K kf b:=by
  intro j
  induction j with
  | zero=>intro _;exact⟨List.Perm.refl _,List.Pairwise.nil⟩
  | succ j ih=>
   intro hj
   obtain⟨h1,h2⟩:=ih O0
   have hlt:j<l.length:=O0
   rw[List.take_add_one,List.getElem?_eq_getElem hlt,Option.toList_some,Gl]
   refine⟨(List.Perm.append_right _ h1).trans (Pr _ _),YP h2 (fun x hx=>hK x (List.mem_of_mem_take (h1.mem_iff.2 hx))) (hK _ (List.getElem_mem hlt)) ?_⟩
   intro x hx
   have hx2:=h1.mem_iff.2 hx
   obtain⟨i,hi,e⟩:=List.getElem_of_mem hx2
   rw[List.getElem_take] at e
   have hi2:i<j:=by simp only[List.length_take] at hi;omega
   rw[<-e]
   exact(List.pairwise_iff_getElem.1 hl) i j O0 hlt hi2
 exact M141
def refsOf (fl:Bool)(now:Nat)(h:HM):List RF:=(h.s.tasks.filter fun t=>decide (t.fl=fl/\t.at'<=now)).map fun t=>⟨h.flow,t.id,if fl=true then t.n else t.n+1,t.at'⟩
def DT (now:Nat)(h:HM):List RF:=(h.s.timers.filter fun t=>decide (t.2<=now)).map fun t=>⟨h.flow,t.1,0,t.2⟩
def DJ (fl:Bool)(now:Nat)(x:XM):List RF:=DQ (x.flows.flatMap (refsOf fl now))
def Oa (now:Nat)(x:XM):List RF:=DQ (x.flows.flatMap (DT now))
open Hi (XGood Dr DL GI tot PA OQ)
def Xs (x:XM)(f:ByteArray):Nat:=(Dr x.flows f).getD 0
def kfX (x:XM)(r:RF):Nat:=Xs x r.flow*18446744073709551616+r.id
theorem UX {l:List HM}(ha:l.Pairwise fun a b=>a.flow≠b.flow)(i:Nat)(hi:i<l.length):Dr l l[i].flow=some i:=by
 cases h:Dr l l[i].flow with
 | none=>exact absurd rfl (GI h l[i] (List.getElem_mem hi))
 | some j=>
  obtain⟨hj,h1,h2⟩:=DL h
  have hp:=List.pairwise_iff_getElem.1 ha
  rcases Nat.lt_trichotomy i j with q|q|q
  ·exact absurd h1.symm (hp i j hi hj q)
  ·rw[q]
  ·exact absurd h1 (hp j i hj hi q)
theorem Nj {x:XM}{T N:Nat}(g:XGood x T N)(i:Nat)(hi:i<x.flows.length):Xs x x.flows[i].flow=i:=by
 unfold Xs;rw[UX g.apart i hi];rfl
theorem Oz {fl:Bool}{now:Nat}{h:HM}{r:RF}(hr:r∈refsOf fl now h):r.flow=h.flow/\∃t∈h.s.tasks,r.id=t.id/\r.at'=t.at'/\t.fl=fl/\t.at'<=now/\r.n=if fl=true then t.n else t.n+1:=by
 unfold refsOf at hr
 obtain⟨t,ht,e⟩:=List.mem_map.1 hr
 obtain⟨h1,h2⟩:=List.mem_filter.1 ht
 obtain⟨h3,h4⟩:=of_decide_eq_true h2
 subst e
 exact⟨rfl,t,h1,rfl,rfl,h3,h4,rfl⟩
theorem Pu {now:Nat}{h:HM}{r:RF}(hr:r∈DT now h):r.flow=h.flow/\r.n=0/\(r.id,r.at')∈h.s.timers/\r.at'<=now:=by
 unfold DT at hr
 obtain⟨t,ht,e⟩:=List.mem_map.1 hr
 obtain⟨h1,h2⟩:=List.mem_filter.1 ht
 have h3:=of_decide_eq_true h2
 subst e
 exact⟨rfl,rfl,h1,h3⟩
theorem VO {x:XM}{T N:Nat}(g:XGood x T N)(F:HM->List RF)(hF:∀h∈x.flows,(∀r∈F h,r.flow=h.flow/\r.id<18446744073709551616)/\(F h).Pairwise fun a b=>a.id<b.id) :
  (x.flows.flatMap F).Pairwise (fun a b=>kfX x a<kfX x b)/\∀r∈x.flows.flatMap F,kfX x r<x.flows.length*18446744073709551616:=by
 have hkf:∀(i:Nat) (hi:i<x.flows.length) (r:RF),r∈F x.flows[i]->kfX x r=i*18446744073709551616+r.id/\r.id<18446744073709551616:=by
  intro i hi r hr
  obtain⟨h1,h2⟩:=(hF _ (List.getElem_mem hi)).1 r hr
  exact⟨by unfold kfX;rw[h1,Nj g i hi],h2⟩
 constructor
 ·rw [List.pairwise_flatMap]
  constructor
  ·intro h hh
   obtain⟨i,hi,e⟩:=List.getElem_of_mem hh
   subst e
   obtain⟨h1,h2⟩:=hF _ (List.getElem_mem hi)
   refine List.Pairwise.imp_of_mem ?_ h2
   intro a b ha hb hab
   rw[(hkf i hi a ha).1,(hkf i hi b hb).1];omega
  ·rw [List.pairwise_iff_getElem]
   intro i j hi hj hij a ha b hb
   obtain⟨e1,l1⟩:=hkf i hi a ha
   obtain⟨e2,l2⟩:=hkf j hj b hb
   rw[e1,e2]
   have:(i+1)*18446744073709551616<=j*18446744073709551616:=Nat.mul_le_mul_right _ hij
   omega
 ·intro r hr
  obtain⟨h,hh,hm⟩:=List.mem_flatMap.1 hr
  obtain⟨i,hi,e⟩:=List.getElem_of_mem hh
  subst e
  obtain⟨e1,l1⟩:=hkf i hi r hm
  rw[e1]
  have:(i+1)*18446744073709551616<=x.flows.length*18446744073709551616:=Nat.mul_le_mul_right _ hi
  omega
def NextIs (now : Nat) (l : List Nat) : Option Nat -> Prop
 | none=>∀a∈l,a<=now
 | some k=>k∈l/\now<k/\∀a∈l,now<a->k<=a
theorem NextIs.unique {now:Nat}{l l':List Nat}{o o':Option Nat}(h:NextIs now l o)(h':NextIs now l' o')(hm:∀a,a∈l↔a∈l'):o=o':=by
 cases o with
 | none=>
  cases o' with
  | none=>rfl
  | some k=>obtain⟨h1,h2,-⟩:=h';have:=h k ((hm k).2 h1);omega
 | some j=>
  obtain⟨j1,j2,j3⟩:=h
  cases o' with
  | none=>have:=h' j ((hm j).1 j1);omega
  | some k=>
   obtain⟨k1,k2,k3⟩:=h'
   have a:=j3 k ((hm k).2 k1) k2
   have b:=k3 j ((hm j).1 j1) j2
   rw[Nat.le_antisymm a b]
def Oe (now : Nat) (s : Option Nat) (a : Nat) : Option Nat := if now < a then match s with
 | none=>some a
 | some k=>if a<k then some a else some k
 else s
def Sf (now:Nat)(l:List Nat):Option Nat:=l.foldl (Oe now) none
theorem UW (now:Nat)(l:List Nat)(a:Nat):Sf now (l++ [a])=Oe now (Sf now l) a:=by simp[Sf,List.foldl_append]
theorem JG {now:Nat}{l:List Nat}{s:Option Nat}(h:NextIs now l s)(a:Nat):NextIs now (l++ [a]) (Oe now s a):=by
 unfold Oe
 by_cases q:now<a
 ·rw [if_pos q]
  cases s with
  | none=>
   refine⟨O3,q,fun b hb hn=> ?_⟩
   rcases List.mem_append.1 hb with e|e
   ·have:=h b e;omega
   ·rw[List.mem_singleton.1 e];exact Nat.le_refl _
  | some k=>
   obtain⟨h1,h2,h3⟩:=h
   by_cases p:a<k
   ·simp only [if_pos p]
    refine⟨O3,q,fun b hb hn=> ?_⟩
    rcases List.mem_append.1 hb with e|e
    ·have:=h3 b e hn;omega
    ·rw[List.mem_singleton.1 e];exact Nat.le_refl _
   ·simp only [if_neg p]
    refine⟨by simp[h1],h2,fun b hb hn=> ?_⟩
    rcases List.mem_append.1 hb with e|e
    ·exact h3 b e hn
    ·rw[List.mem_singleton.1 e];omega
 ·rw [if_neg q]
  cases s with
  | none=>
   intro b hb
   rcases List.mem_append.1 hb with e|e
   ·exact h b e
   ·rw[List.mem_singleton.1 e];omega
  | some k=>
   obtain⟨h1,h2,h3⟩:=h
   refine⟨by simp[h1],h2,fun b hb hn=> ?_⟩
   rcases List.mem_append.1 hb with e|e
   ·exact h3 b e hn
   ·rw[List.mem_singleton.1 e] at hn;exact absurd hn q
theorem Kh (now:Nat)(l:List Nat):NextIs now l (Sf now l):=by
 have key:∀j,j<=l.length->NextIs now (l.take j) (Sf now (l.take j)):=by
  intro j
  induction j with
  | zero=>intro _;exact fun a ha=>by simp at ha
  | succ j ih=>
   intro hj
   have hlt:j<l.length:=O0
   rw[List.take_add_one,List.getElem?_eq_getElem hlt,Option.toList_some,UW]
   exact JG (ih O0) _
 exact M141
def Ov (x:XM):List Nat:=x.flows.flatMap fun h=>h.s.tasks.map (·.at')++h.s.timers.map (·.2)
theorem Xa {x:XM}{h:HM}{t:TK}(hh:h∈x.flows)(ht:t∈h.s.tasks):t.at'∈Ov x:=List.mem_flatMap.2 ⟨h,hh,List.mem_append_left _ (List.mem_map.2 ⟨t,ht,rfl⟩)⟩
theorem Vd {x:XM}{h:HM}{t:Nat×Nat}(hh:h∈x.flows)(ht:t∈h.s.timers):t.2∈Ov x:=List.mem_flatMap.2 ⟨h,hh,List.mem_append_right _ (List.mem_map.2 ⟨t,ht,rfl⟩)⟩
theorem Gd (l:List RF)(r:RF):r∈DQ l↔r∈l:=by
 have key:∀j,j<=l.length->(r∈DQ (l.take j)↔r∈l.take j):=by
  intro j
  induction j with
  | zero=>intro _;simp[DQ]
  | succ j ih=>
   intro hj
   have hlt:j<l.length:=O0
   rw[List.take_add_one,List.getElem?_eq_getElem hlt,Option.toList_some,Gl, <-(Pr _ _).mem_iff,List.mem_append,List.mem_append,ih O0]
 exact M141
theorem M165 (h:p:=by
 obtain⟨h,hh,hm⟩:=List.mem_flatMap.1 ((Gd _ _).1 hr)
 obtain⟨-,t,ht,-,e,-⟩:=Oz hm
 rw[e];exact Xa hh ht):p:=h
theorem Lo {x:XM}{M:Nat}(hM:∀a∈Ov x,a<=M)(a:Nat):a∈(DJ false M x++DJ true M x++Oa M x).map (·.at')↔a∈Ov x:=by
 constructor
 ·intro h
  obtain⟨r,hr,e⟩:=List.mem_map.1 h
  subst e
  rcases List.mem_append.1 hr with hr|hr
  ·rcases List.mem_append.1 hr with hr | hr
   ·exact M165
   ·exact M165
  ·obtain ⟨h, hh, hm⟩ := List.mem_flatMap.1 ((Gd _ _).1 hr)
   obtain⟨-,-,ht,-⟩:=Pu hm
   exact Vd hh ht
 ·intro ha
  have hle:=hM a ha
  obtain⟨g,hh,hm⟩:=List.mem_flatMap.1 ha
  rcases List.mem_append.1 hm with hm|hm
  ·obtain ⟨t, ht, e⟩ := List.mem_map.1 hm
   subst e
   have hr:(⟨g.flow,t.id,if t.fl=true then t.n else t.n+1,t.at'⟩:RF)∈refsOf t.fl M g:=List.mem_map.2 ⟨t,List.mem_filter.2 ⟨ht,decide_eq_true ⟨rfl,hle⟩⟩,rfl⟩
   have hr2:=(Gd _ _).2 (List.mem_flatMap.2 ⟨g,hh,hr⟩)
   cases hf:t.fl with
   | false=>rw[hf] at hr2;exact List.mem_map.2 ⟨_,List.mem_append_left _ (List.mem_append_left _ hr2),rfl⟩
   | true=>rw[hf] at hr2;exact List.mem_map.2 ⟨_,List.mem_append_left _ (List.mem_append_right _ hr2),rfl⟩
  ·obtain ⟨t, ht, e⟩ := List.mem_map.1 hm
   subst e
   have hr:(⟨g.flow,t.1,0,t.2⟩:RF)∈DT M g:=List.mem_map.2 ⟨t,List.mem_filter.2 ⟨ht,decide_eq_true hle⟩,rfl⟩
   exact List.mem_map.2 ⟨_,List.mem_append_right _ ((Gd _ _).2 (List.mem_flatMap.2 ⟨g,hh,hr⟩)),rfl⟩
theorem GM {x:XM}{now last:Nat}(fl:Bool)(hle:now<=last)(hg:∀a∈Ov x,now<a->last<a):DJ fl now x=DJ fl last x:=by
 unfold DJ
 have e:∀h∈x.flows,refsOf fl now h=refsOf fl last h:=fun h hh=>by
  unfold refsOf
  rw[List.filter_congr (fun t ht=> ?_)]
  have:=hg _ (Xa hh ht)
  refine decide_eq_decide.2 ⟨fun⟨a,b⟩=>⟨a,Nat.le_trans b hle⟩,fun⟨a,b⟩=>⟨a,?_⟩⟩
  rcases Nat.lt_or_ge now t.at' with q|q
  ·have:=this q;omega
  ·exact q
 have e2:x.flows.flatMap (refsOf fl now)=x.flows.flatMap (refsOf fl last):=by
  rw[List.flatMap_def,List.flatMap_def,List.map_congr_left e]
 rw[e2]
theorem VW {x:XM}{now last:Nat}(hle:now<=last)(hg:∀a∈Ov x,now<a->last<a):Oa now x=Oa last x:=by
 unfold Oa
 have e:∀h∈x.flows,DT now h=DT last h:=fun h hh=>by
  unfold DT
  rw[List.filter_congr (fun t ht=> ?_)]
  have:=hg _ (Vd hh ht)
  refine decide_eq_decide.2 ⟨fun b=>Nat.le_trans b hle,fun b=> ?_⟩
  rcases Nat.lt_or_ge now t.2 with q|q
  ·have:=this q;omega
  ·exact q
 have e2:x.flows.flatMap (DT now)=x.flows.flatMap (DT last):=by
  rw[List.flatMap_def,List.flatMap_def,List.map_congr_left e]
 rw[e2]
theorem YL {x : XM} {now M : Nat} {o : Option Nat} (hM : ∀ a ∈ Ov x, a <= M) (h : NextIs now (Ov x) o) : ∀ a ∈ Ov x, now < a -> (match o with | some k => k - 1 | none => M) < a := by
 intro a ha hn
 cases o with
 | none=>have:=h a ha;omega
 | some k=>obtain⟨h1,h2,h3⟩:=h;have:=h3 a ha hn;show k-1<a;omega
theorem Xx (r : RF) : ∀ (l : List RF) (k : Nat), k <= l.length -> (∀ i (h : i < l.length), i < k -> l[i].at' <= r.at') -> (∀ h : k < l.length, r.at' < l[k].at') -> Ft l r = l.take k ++ r :: l.drop k
 | [],k,_,_,_=>by simp[Ft]
 | a::t,0,_,_,h2=>by
  have:=h2 O3
  unfold Ft
  have hn:¬(decide (a.at'<=r.at')=true):=by simpa using this
  rw[List.takeWhile_cons_of_neg (by simpa using this),List.dropWhile_cons_of_neg (by simpa using this)]
  rfl
 | a::t,k+1,hk,h1,h2=>by
  have ha:a.at'<=r.at':=h1 0 O3 O0
  have ih:=Xx r t k (by simpa using hk) (fun i h q=>h1 (i+1) (by simpa using h) O0) (fun h=>h2 (by simpa using h))
  unfold Ft at ih ⊢
  rw[List.takeWhile_cons_of_pos (by simpa using ha),List.dropWhile_cons_of_pos (by simpa using ha),List.take_succ_cons,List.drop_succ_cons,List.cons_append,List.cons_append,ih]
theorem FF (l:List RF):(DQ l).length=l.length:=by
 have key:∀j,j<=l.length->(DQ (l.take j)).length=j:=by
  intro j
  induction j with
  | zero=>intro _;simp[DQ]
  | succ j ih=>
   intro hj
   have hlt:j<l.length:=O0
   rw[List.take_add_one,List.getElem?_eq_getElem hlt,Option.toList_some,Gl, <-(Pr _ _).length_eq,List.length_append,ih O0]
   rfl
 exact M141
open Hi (ST Dc runM Fb FN GV FR Om Fq Du GA bOk)
open Ev (EV)
structure SInv (s : ST) (c : Nat) : Prop where
 idp:∀t∈s.tasks,0<t.id
 idt:∀t∈s.timers,0<t.1
 n0:∀t∈s.tasks,0<=t.n/\t.n<=(c:Int)
 closed:s.closed≠0->s.tasks= []/\s.timers= []
theorem SInv.mono {s:ST}{c c':Nat}(h:SInv s c)(hc:c<=c'):SInv s c':=⟨h.idp,h.idt,fun t ht=>⟨(h.n0 t ht).1,by have:=(h.n0 t ht).2;omega⟩,h.closed⟩
theorem tput_mem {l:List TK}{t x:TK}(h:x∈FN l t):x=t/\(∃y∈l,y.id=t.id)\/x∈l:=by
 unfold FN at h
 obtain⟨y,hy,e⟩:=List.mem_map.1 h
 by_cases q:y.id=t.id
 ·rw[if_pos q] at e;exact .inl ⟨e.symm,y,hy,q⟩
 ·rw[if_neg q] at e;subst e;exact .inr hy
open Hi (DD GK Ow DI GH Fw Pg)
open Cn (BT Dy)
structure HInv (h : HM) (M : Nat) : Prop where
 s:SInv h.s h.bs.length
 bs:h.bs≠ []
 name:h.flow.toList≠ []
 short:h.flow.size<=1000
 clk:h.at'<=M
theorem HInv.mono {h:HM}{M M':Nat}(a:HInv h M)(hm:M<=M'):HInv h M':=⟨a.s,a.bs,a.name,a.short,Nat.le_trans a.clk hm⟩
theorem addX_is {x : XM} {b : BT} (hc : (DD x b).1 = 0) : (DD x b).2 = match Dr x.flows b.flow with
  | some i=>⟨x.flows.set i (Du (DI x b.flow) b).2,x.all++ [b]⟩
  | none=>⟨x.flows++ [(Du (DI x b.flow) b).2],x.all++ [b]⟩:=by
 obtain⟨ha,hm,hv,hk⟩:=GK hc
 unfold DD
 rw[if_neg (by rw[hv];decide),if_neg O0,if_neg (fun q=>q hm)]
 cases Dr x.flows b.flow<;>simp
open Hi (Oo)
open Ev (zeroT)
section
variable {now : Nat} {l : List HM} {i : Nat} (hl : i < l.length) {t : TK} {bs : List Cn.BT}
end
open Hi (Pl BIn)
theorem PX {x:XM}{T N:Nat}(g:XGood x T N)(hT:T<=1000000000000000000){h:HM}(hh:h∈x.flows):(∀t∈h.s.tasks,t.id<18446744073709551616)/\∀t∈h.s.timers,t.1<18446744073709551616:=by
 have hg:=g.good h hh
 have h1:=hg.fine.next
 have h2:=hg.tot
 exact⟨fun t ht=>by have:=hg.fine.fine.below t ht;omega,fun t ht=>by have:=hg.fine.fine.belowT t ht;omega⟩
theorem VL {x:XM}{T N:Nat}(g:XGood x T N)(hT:T<=1000000000000000000)(fl:Bool)(now:Nat) :
  (x.flows.flatMap (refsOf fl now)).Pairwise (fun a b=>kfX x a<kfX x b)/\∀r∈x.flows.flatMap (refsOf fl now),kfX x r<x.flows.length*18446744073709551616:=
 VO g _ fun h hh=>⟨fun r hr=>by
  obtain⟨h1,t,ht,h2,-⟩:=Oz hr
  exact⟨h1,by rw[h2];exact(PX g hT hh).1 t ht⟩,by
  unfold refsOf
  exact List.pairwise_map.2 (((g.good h hh).fine.fine.tasks).sublist (List.filter_sublist ..))⟩
theorem Jb {x:XM}{T N:Nat}(g:XGood x T N)(hT:T<=1000000000000000000)(now:Nat) :
  (x.flows.flatMap (DT now)).Pairwise (fun a b=>kfX x a<kfX x b)/\∀r∈x.flows.flatMap (DT now),kfX x r<x.flows.length*18446744073709551616:=
 VO g _ fun h hh=>⟨fun r hr=>by
  obtain⟨h1,h2,ht,-⟩:=Pu hr
  exact⟨h1,(PX g hT hh).2 _ ht⟩,by
  unfold DT
  exact List.pairwise_map.2 (((g.good h hh).fine.fine.timers).sublist (List.filter_sublist ..))⟩
def UP : Nat:=9223372036854775807
structure XO (s : ST) : Prop where
 tasks:∀t∈s.tasks,t.at'<=UP
 timers:∀t∈s.timers,t.2<=UP
theorem valid_at {e:EV}(h:e.valid=true):e.at'<=UP:=by
 unfold EV.valid Ev.OR at h
 simp only[Bool.and_eq_true,List.all_cons] at h
 have h3:=h.2.2.2.1
 unfold Ev.DB at h3
 unfold UP
 split at h3
 ·exact of_decide_eq_true h3
 ·have : (e.at' : Int) = 0 := by simpa using h3
  omega
theorem KK {now:Nat}{alone:Bool}{e:EV}{s s':ST}(hn:now<=UP)(he:e.at'<=UP)(hi:XO s)(h:Dc now alone e s=some s'):XO s':=by
 have hput:∀t:TK,t.at'<=UP->XO {s with tasks:=FN s.tasks t}:=fun t ht=>⟨fun x hx=>by
  rcases tput_mem hx with ⟨q,-⟩|q
  ·rw[q];exact ht
  ·exact hi.tasks x q,hi.timers⟩
 unfold Dc at h
 split at h
 ·split at h
  ·split at h
   ·cases h;exact hput _ he
   ·cases h
  ·cases h
 ·split at h
  ·split at h
   ·split at h
    ·split at h
     ·cases h;exact⟨fun x hx=>hi.tasks x (List.mem_filter.1 hx).1,hi.timers⟩
     ·split at h
      ·cases h;exact hput _ he
      ·cases h
    ·cases h
   ·cases h
  ·split at h
   ·split at h
    ·split at h
     ·cases h
      exact⟨hi.tasks,fun x hx=>hi.timers x (List.mem_filter.1 hx).1⟩
     ·cases h
    ·cases h
   ·split at h
    ·split at h
     ·cases h
     ·cases h;exact⟨hi.tasks,hi.timers⟩
    ·split at h
     ·split at h
      ·cases h
       refine⟨fun x hx=> ?_,hi.timers⟩
       rcases List.mem_append.1 hx with q|q
       ·exact hi.tasks x q
       ·rw[List.mem_singleton.1 q];exact hn
      ·cases h
     ·split at h
      ·split at h
       ·cases h
        refine⟨hi.tasks,fun x hx=> ?_⟩
        rcases List.mem_append.1 hx with q|q
        ·exact hi.timers x q
        ·rw[List.mem_singleton.1 q];exact he
       ·cases h
      ·split at h
       ·split at h
        ·cases h;exact⟨fun t h=>by simp at h,fun t h=>by simp at h⟩
        ·cases h
       ·cases h;exact hi
theorem VJ {now : Nat} (hn : now <= UP) : ∀ (es : List EV) (first : Bool) (s s' : ST), (∀ e ∈ es, e.at' <= UP) -> XO s -> runM now es first s = some s' -> XO s'
 | [],_,s,s',_,hi,h=>by cases h;exact hi
 | e :: r, first, s, s', he, hi, h => by
  unfold runM at h
  split at h
  ·cases ha:Dc now r.isEmpty e s with
   | none=>rw[ha] at h;cases h
   | some s1=>
    rw[ha] at h
    exact VJ hn r false s1 s' (fun e2 h2=>he e2 (List.mem_cons_of_mem _ h2)) (KK hn (he e List.mem_cons_self) hi ha) h
  ·cases h
theorem Jp {h:HM}(hi:XO h.s)(b:BT):XO (Du h b).2.s:=by
 by_cases hc:(Du h b).1=0
 ·unfold Du at hc ⊢
  split at hc
  ·exact absurd (show (2:Int)=0 from hc) O1
  ·rename_i q1
   rw[if_neg q1]
   split at hc
   ·exact absurd (show (6:Int)=0 from hc) O1
   ·rename_i q2
    rw[if_neg q2]
    split at hc
    ·exact absurd (show (8:Int)=0 from hc) O1
    ·rename_i q3
     rw[if_neg q3]
     split at hc
     ·exact absurd (show (12:Int)=0 from hc) O1
     ·rename_i q4
      rw[if_neg q4]
      cases hr:runM b.at' b.es true h.s with
      | none=>rw[hr] at hc;exact absurd (show (12:Int)=0 from hc) O1
      | some s'=>
       have hb:bOk b=true:=by simpa using q1
       unfold bOk at hb
       simp only[Bool.and_eq_true,decide_eq_true_eq,Bool.not_eq_true'] at hb
       refine VJ hb.1.1 _ _ _ _ (fun e he=>valid_at ?_) hi hr
       have:=List.any_eq_false.1 hb.2 e he
       simpa using this
 ·rw[Hi.Sk hc];exact hi
def Sl (x:XM):Prop:=∀h∈x.flows,XO h.s
theorem Ly : Sl XM.new:=fun h hh=>by simp[XM.new] at hh
theorem Lz {x:XM}(hi:Sl x)(b:BT):Sl (DD x b).2:=by
 by_cases hc:(DD x b).1=0
 ·have hs0:XO (DI x b.flow).s:=by
   unfold DI
   cases hf:Dr x.flows b.flow with
   | none=>exact⟨fun t h=>by simp[HM.new] at h,fun t h=>by simp[HM.new] at h⟩
   | some i=>
    obtain⟨hi2,h1,-⟩:=DL hf
    simp only[List.getD_eq_getElem?_getD,List.getElem?_eq_getElem hi2,Option.getD_some]
    exact hi _ (List.getElem_mem hi2)
  intro h hh
  have e:=addX_is hc
  cases hf:Dr x.flows b.flow with
  | none=>
   rw[hf] at e
   rw[e] at hh
   rcases List.mem_append.1 hh with q|q
   ·exact hi h q
   ·rw[List.mem_singleton.1 q];exact Jp hs0 b
  | some i=>
   rw[hf] at e
   rw[e] at hh
   rcases List.mem_or_eq_of_mem_set hh with q|q
   ·exact hi h q
   ·rw[q];exact Jp hs0 b
 ·rw[Hi.Ow hc];exact hi
theorem XJ {x:XM}(hi:Sl x):∀a∈Ov x,a<=UP:=by
 intro a ha
 obtain⟨h,hh,hm⟩:=List.mem_flatMap.1 ha
 rcases List.mem_append.1 hm with q|q
 ·obtain ⟨t, ht, e⟩ := List.mem_map.1 q
  subst e;exact(hi h hh).tasks t ht
 ·obtain ⟨t, ht, e⟩ := List.mem_map.1 q
  subst e;exact(hi h hh).timers t ht
end Ta
end Go.Proofs.YtaahfiopdoinkaaGreat
