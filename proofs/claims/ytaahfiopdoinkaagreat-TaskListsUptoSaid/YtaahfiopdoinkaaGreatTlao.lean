/- Plain: references in order: what the reference's insertion gives is what a sort by (tick, place, number) gives. No program in sight. -/
import Derived.Test.YtaahfiopdoinkaaGreatTlam
import Derived.Test.YtaahfiopdoinkaaGreatTlan
set_option linter.unusedVariables false
set_option linter.unusedSimpArgs false
open Go.RowKit
namespace Go.Proofs.YtaahfiopdoinkaaGreat
namespace Ta
open Hi (TK HM XM Sn Ud)
structure RF where mk ::
 flow:ByteArray
 id:Nat
 n:Int
 at':Nat
def Fs (l:List RF)(r:RF):List RF:=l.takeWhile (fun x=>decide (x.at'<=r.at'))++r::l.dropWhile (fun x=>decide (x.at'<=r.at'))
def DT (l:List RF):List RF:=l.foldl Fs []
theorem GF (l:List RF)(r:RF):DT (l++ [r])=Fs (DT l) r:=by simp[DT,List.foldl_append]
theorem Sf (l:List RF)(r:RF):(l++ [r]).Perm (Fs l r):=by
 unfold Fs
 refine(List.perm_append_comm).trans ?_
 rw[List.singleton_append]
 refine List.Perm.trans ?_ List.perm_middle.symm
 rw[List.takeWhile_append_dropWhile]
def code (K:Nat)(kf:RF->Nat)(r:RF):Nat:=r.at'*K+kf r
theorem Xf {K:Nat}{kf:RF->Nat}{a b:RF}(ha:kf a<K)(h:a.at'<b.at'\/a.at'=b.at'/\kf a<kf b):code K kf a<code K kf b:=by
 unfold code
 rcases h with h|⟨h,h2⟩
 ·have : (a.at' + 1) * K <= b.at' * K := Nat.mul_le_mul_right K h
  rw[Nat.succ_mul] at this;omega
 ·rw[h];omega
theorem code_at {K:Nat}{kf:RF->Nat}{a b:RF}(hb:kf b<K)(h:code K kf a<code K kf b):a.at'<=b.at':=by
 unfold code at h
 rcases Nat.lt_or_ge b.at' a.at' with q|q
 ·have : (b.at' + 1) * K <= a.at' * K := Nat.mul_le_mul_right K q
  rw[Nat.succ_mul] at this;omega
 ·exact q
theorem Kq (p : RF -> Bool) : ∀ (l : List RF) (y : RF), y ∈ l.dropWhile p -> ∃ x t, l.dropWhile p = x :: t /\ p x = false /\ y ∈ x :: t
 | [],y,h=>by simp at h
 | a::t,y,h=>by
  by_cases q:p a=true
  ·rw [List.dropWhile_cons_of_pos q] at h ⊢
   exact Kq p t y h
  ·rw [List.dropWhile_cons_of_neg (by simpa using q)] at h ⊢
   exact⟨a,t,rfl,by simpa using q,h⟩
theorem Kd (p : RF -> Bool) : ∀ (l : List RF) (y : RF), y ∈ l.takeWhile p -> p y = true /\ y ∈ l
 | [],y,h=>by simp at h
 | a::t,y,h=>by
  by_cases q:p a=true
  ·rw [List.takeWhile_cons_of_pos q] at h
   rcases List.mem_cons.1 h with e|e
   ·subst e;exact⟨q,List.mem_cons_self⟩
   ·obtain ⟨h1, h2⟩ := Kd p t y e
    exact⟨h1,List.mem_cons_of_mem _ h2⟩
  ·rw[List.takeWhile_cons_of_neg (by simpa using q)] at h;simp at h
theorem Yj {K:Nat}{kf:RF->Nat}{l:List RF}{r:RF}(hs:l.Pairwise fun a b=>code K kf a<code K kf b)(hK:∀x∈l,kf x<K)(hr:kf r<K)(hlt:∀x∈l,kf x<kf r) :
  (Fs l r).Pairwise fun a b=>code K kf a<code K kf b:=by
 unfold Fs
 have hsub1:(l.takeWhile fun x=>decide (x.at'<=r.at')).Sublist l:=List.takeWhile_sublist _
 have hsub2:(l.dropWhile fun x=>decide (x.at'<=r.at')).Sublist l:=List.dropWhile_sublist _
 have hgt:∀y∈l.dropWhile fun x=>decide (x.at'<=r.at'),r.at'<y.at':=by
  intro y hy
  obtain⟨x,t,e,hx,hm⟩:=Kq _ l y hy
  have hx':r.at'<x.at':=by simpa using hx
  rcases List.mem_cons.1 hm with q|q
  ·subst q;exact hx'
  ·have hp := hs.sublist hsub2
   rw[e] at hp
   have h1:=(List.pairwise_cons.1 hp).1 y q
   have hy2:y∈l:=hsub2.subset hy
   exact Nat.lt_of_lt_of_le hx' (code_at (hK y hy2) h1)
 refine List.pairwise_append.2 ⟨hs.sublist hsub1,List.pairwise_cons.2 ⟨fun y hy=>Xf hr (.inl (hgt y hy)),hs.sublist hsub2⟩,?_⟩
 intro x hx y hy
 obtain⟨hx1,hx2⟩:=Kd _ l x hx
 have hx3:x.at'<=r.at':=by simpa using hx1
 rcases List.mem_cons.1 hy with q|q
 ·subst q
  refine Xf (hK x hx2) ?_
  rcases Nat.lt_or_ge x.at' y.at' with a|a
  ·exact .inl a
  ·exact .inr ⟨O0,hlt x hx2⟩
 ·exact Xf (hK x hx2) (.inl (Nat.lt_of_le_of_lt hx3 (hgt y q)))
theorem Gt {K:Nat}{kf:RF->Nat}(l:List RF)(hK:∀x∈l,kf x<K)(hl:l.Pairwise fun a b=>kf a<kf b):l.Perm (DT l)/\(DT l).Pairwise fun a b=>code K kf a<code K kf b:=by
 have key:∀j,j<=l.length->(l.take j).Perm (DT (l.take j))/\(DT (l.take j)).Pairwise fun a b=>code K kf a<code K kf b:=by
  intro j
  induction j with
  | zero=>intro _;exact⟨List.Perm.refl _,List.Pairwise.nil⟩
  | succ j ih=>
   intro hj
   obtain⟨h1,h2⟩:=ih O0
   have hlt:j<l.length:=O0
   rw[List.take_add_one,List.getElem?_eq_getElem hlt,Option.toList_some,GF]
   refine⟨(List.Perm.append_right _ h1).trans (Sf _ _),Yj h2 (fun x hx=>hK x (List.mem_of_mem_take (h1.mem_iff.2 hx))) (hK _ (List.getElem_mem hlt)) ?_⟩
   intro x hx
   have hx2:=h1.mem_iff.2 hx
   obtain⟨i,hi,e⟩:=List.getElem_of_mem hx2
   rw[List.getElem_take] at e
   have hi2:i<j:=by simp only[List.length_take] at hi;omega
   rw[<-e]
   exact(List.pairwise_iff_getElem.1 hl) i j O0 hlt hi2
 have h:=key l.length (Nat.le_refl _)
 rwa [List.take_length] at h
def refsOf (fl:Bool)(now:Nat)(h:HM):List RF:=(h.s.tasks.filter fun t=>decide (t.fl=fl/\t.at'<=now)).map fun t=>⟨h.flow,t.id,if fl=true then t.n else t.n+1,t.at'⟩
def Ff (now:Nat)(h:HM):List RF:=(h.s.timers.filter fun t=>decide (t.2<=now)).map fun t=>⟨h.flow,t.1,0,t.2⟩
def DW (fl:Bool)(now:Nat)(x:XM):List RF:=DT (x.flows.flatMap (refsOf fl now))
def UC (now:Nat)(x:XM):List RF:=DT (x.flows.flatMap (Ff now))
open Hi (XGood Dr DK Gv tot Pe Oz)
def VU (x:XM)(f:ByteArray):Nat:=(Dr x.flows f).getD 0
def kfX (x:XM)(r:RF):Nat:=VU x r.flow*18446744073709551616+r.id
theorem Uz {l:List HM}(ha:l.Pairwise fun a b=>a.flow≠b.flow)(i:Nat)(hi:i<l.length):Dr l l[i].flow=some i:=by
 cases h:Dr l l[i].flow with
 | none=>exact absurd rfl (Gv h l[i] (List.getElem_mem hi))
 | some j=>
  obtain⟨hj,h1,h2⟩:=DK h
  have hp:=List.pairwise_iff_getElem.1 ha
  rcases Nat.lt_trichotomy i j with q|q|q
  ·exact absurd h1.symm (hp i j hi hj q)
  ·rw[q]
  ·exact absurd h1 (hp j i hj hi q)
theorem Lp {x:XM}{T N:Nat}(g:XGood x T N)(i:Nat)(hi:i<x.flows.length):VU x x.flows[i].flow=i:=by
 unfold VU;rw[Uz g.apart i hi];rfl
theorem Uo {fl:Bool}{now:Nat}{h:HM}{r:RF}(hr:r∈refsOf fl now h):r.flow=h.flow/\∃t∈h.s.tasks,r.id=t.id/\r.at'=t.at'/\t.fl=fl/\t.at'<=now/\r.n=if fl=true then t.n else t.n+1:=by
 unfold refsOf at hr
 obtain⟨t,ht,e⟩:=List.mem_map.1 hr
 obtain⟨h1,h2⟩:=List.mem_filter.1 ht
 obtain⟨h3,h4⟩:=of_decide_eq_true h2
 subst e
 exact⟨rfl,t,h1,rfl,rfl,h3,h4,rfl⟩
theorem Vz {now:Nat}{h:HM}{r:RF}(hr:r∈Ff now h):r.flow=h.flow/\r.n=0/\(r.id,r.at')∈h.s.timers/\r.at'<=now:=by
 unfold Ff at hr
 obtain⟨t,ht,e⟩:=List.mem_map.1 hr
 obtain⟨h1,h2⟩:=List.mem_filter.1 ht
 have h3:=of_decide_eq_true h2
 subst e
 exact⟨rfl,rfl,h1,h3⟩
theorem Vq {x:XM}{T N:Nat}(g:XGood x T N)(F:HM->List RF)(hF:∀h∈x.flows,(∀r∈F h,r.flow=h.flow/\r.id<18446744073709551616)/\(F h).Pairwise fun a b=>a.id<b.id) :
  (x.flows.flatMap F).Pairwise (fun a b=>kfX x a<kfX x b)/\∀r∈x.flows.flatMap F,kfX x r<x.flows.length*18446744073709551616:=by
 have hkf:∀(i:Nat) (hi:i<x.flows.length) (r:RF),r∈F x.flows[i]->kfX x r=i*18446744073709551616+r.id/\r.id<18446744073709551616:=by
  intro i hi r hr
  obtain⟨h1,h2⟩:=(hF _ (List.getElem_mem hi)).1 r hr
  exact⟨by unfold kfX;rw[h1,Lp g i hi],h2⟩
 constructor
 ·rw [List.pairwise_flatMap]
  constructor
  ·intro h hh
   obtain⟨i,hi,e⟩:=List.getElem_of_mem hh
   subst e
   obtain⟨h1,h2⟩:=hF _ (List.getElem_mem hi)
   refine List.Pairwise.imp_of_mem ?_ h2
   intro a b ha hb hab
   rw[(hkf i hi a ha).1,(hkf i hi b hb).1];omega
  ·rw [List.pairwise_iff_getElem]
   intro i j hi hj hij a ha b hb
   obtain⟨e1,l1⟩:=hkf i hi a ha
   obtain⟨e2,l2⟩:=hkf j hj b hb
   rw[e1,e2]
   have:(i+1)*18446744073709551616<=j*18446744073709551616:=Nat.mul_le_mul_right _ hij
   omega
 ·intro r hr
  obtain⟨h,hh,hm⟩:=List.mem_flatMap.1 hr
  obtain⟨i,hi,e⟩:=List.getElem_of_mem hh
  subst e
  obtain⟨e1,l1⟩:=hkf i hi r hm
  rw[e1]
  have:(i+1)*18446744073709551616<=x.flows.length*18446744073709551616:=Nat.mul_le_mul_right _ hi
  omega
theorem VZ (r : RF) : ∀ (l : List RF) (k : Nat), k <= l.length -> (∀ i (h : i < l.length), i < k -> l[i].at' <= r.at') -> (∀ h : k < l.length, r.at' < l[k].at') -> Fs l r = l.take k ++ r :: l.drop k
 | [],k,_,_,_=>by simp[Fs]
 | a::t,0,_,_,h2=>by
  have:=h2 O3
  unfold Fs
  have hn:¬(decide (a.at'<=r.at')=true):=by simpa using this
  rw[List.takeWhile_cons_of_neg (by simpa using this),List.dropWhile_cons_of_neg (by simpa using this)]
  rfl
 | a::t,k+1,hk,h1,h2=>by
  have ha:a.at'<=r.at':=h1 0 O3 O0
  have ih:=VZ r t k (by simpa using hk) (fun i h q=>h1 (i+1) (by simpa using h) O0) (fun h=>h2 (by simpa using h))
  unfold Fs at ih ⊢
  rw[List.takeWhile_cons_of_pos (by simpa using ha),List.dropWhile_cons_of_pos (by simpa using ha),List.take_succ_cons,List.drop_succ_cons,List.cons_append,List.cons_append,ih]
theorem Ol (l:List RF):(DT l).length=l.length:=by
 have key:∀j,j<=l.length->(DT (l.take j)).length=j:=by
  intro j
  induction j with
  | zero=>intro _;simp[DT]
  | succ j ih=>
   intro hj
   have hlt:j<l.length:=O0
   rw[List.take_add_one,List.getElem?_eq_getElem hlt,Option.toList_some,GF, <-(Sf _ _).length_eq,List.length_append,ih O0]
   rfl
 have h:=key l.length (Nat.le_refl _)
 rwa [List.take_length] at h
open Hi (ST Dc runM DZ FH GJ FL GS Fp Du Gp bOk)
open Ev (EV)
structure SInv (s : ST) (c : Nat) : Prop where
 idp:∀t∈s.tasks,0<t.id
 idt:∀t∈s.timers,0<t.1
 n0:∀t∈s.tasks,0<=t.n/\t.n<=(c:Int)
 closed:s.closed≠0->s.tasks= []/\s.timers= []
theorem SInv.mono {s:ST}{c c':Nat}(h:SInv s c)(hc:c<=c'):SInv s c':=⟨h.idp,h.idt,fun t ht=>⟨(h.n0 t ht).1,by have:=(h.n0 t ht).2;omega⟩,h.closed⟩
theorem tput_mem {l:List TK}{t x:TK}(h:x∈FH l t):x=t/\(∃y∈l,y.id=t.id)\/x∈l:=by
 unfold FH at h
 obtain⟨y,hy,e⟩:=List.mem_map.1 h
 by_cases q:y.id=t.id
 ·rw[if_pos q] at e;exact .inl ⟨e.symm,y,hy,q⟩
 ·rw[if_neg q] at e;subst e;exact .inr hy
open Hi (DD Gy Ob DH Gu Fu ON)
open Cn (BT Dx)
structure HInv (h : HM) (M : Nat) : Prop where
 s:SInv h.s h.bs.length
 bs:h.bs≠ []
 name:h.flow.toList≠ []
 short:h.flow.size<=1000
 clk:h.at'<=M
theorem HInv.mono {h:HM}{M M':Nat}(a:HInv h M)(hm:M<=M'):HInv h M':=⟨a.s,a.bs,a.name,a.short,Nat.le_trans a.clk hm⟩
theorem addX_is {x : XM} {b : BT} (hc : (DD x b).1 = 0) : (DD x b).2 = match Dr x.flows b.flow with
  | some i=>⟨x.flows.set i (Du (DH x b.flow) b).2,x.all++ [b]⟩
  | none=>⟨x.flows++ [(Du (DH x b.flow) b).2],x.all++ [b]⟩:=by
 obtain⟨ha,hm,hv,hk⟩:=Gy hc
 unfold DD
 rw[if_neg (by rw[hv];decide),if_neg O0,if_neg (fun q=>q hm)]
 cases Dr x.flows b.flow<;>simp
open Hi (GV)
open Ev (zeroT)
section
variable {now : Nat} {l : List HM} {i : Nat} (hl : i < l.length) {t : TK} {bs : List Cn.BT}
end
open Hi (OR BIn)
theorem PC {x:XM}{T N:Nat}(g:XGood x T N)(hT:T<=1000000000000000000){h:HM}(hh:h∈x.flows):(∀t∈h.s.tasks,t.id<18446744073709551616)/\∀t∈h.s.timers,t.1<18446744073709551616:=by
 have hg:=g.good h hh
 have h1:=hg.fine.next
 have h2:=hg.tot
 exact⟨fun t ht=>by have:=hg.fine.fine.below t ht;omega,fun t ht=>by have:=hg.fine.fine.belowT t ht;omega⟩
theorem Vn {x:XM}{T N:Nat}(g:XGood x T N)(hT:T<=1000000000000000000)(fl:Bool)(now:Nat) :
  (x.flows.flatMap (refsOf fl now)).Pairwise (fun a b=>kfX x a<kfX x b)/\∀r∈x.flows.flatMap (refsOf fl now),kfX x r<x.flows.length*18446744073709551616:=
 Vq g _ fun h hh=>⟨fun r hr=>by
  obtain⟨h1,t,ht,h2,-⟩:=Uo hr
  exact⟨h1,by rw[h2];exact(PC g hT hh).1 t ht⟩,by
  unfold refsOf
  exact List.pairwise_map.2 (((g.good h hh).fine.fine.tasks).sublist (List.filter_sublist ..))⟩
theorem Yw {x:XM}{T N:Nat}(g:XGood x T N)(hT:T<=1000000000000000000)(now:Nat) :
  (x.flows.flatMap (Ff now)).Pairwise (fun a b=>kfX x a<kfX x b)/\∀r∈x.flows.flatMap (Ff now),kfX x r<x.flows.length*18446744073709551616:=
 Vq g _ fun h hh=>⟨fun r hr=>by
  obtain⟨h1,h2,ht,-⟩:=Vz hr
  exact⟨h1,(PC g hT hh).2 _ ht⟩,by
  unfold Ff
  exact List.pairwise_map.2 (((g.good h hh).fine.fine.timers).sublist (List.filter_sublist ..))⟩
def UQ : Nat:=9223372036854775807
structure Xl (s : ST) : Prop where
 tasks:∀t∈s.tasks,t.at'<=UQ
 timers:∀t∈s.timers,t.2<=UQ
theorem valid_at {e:EV}(h:e.valid=true):e.at'<=UQ:=by
 unfold EV.valid Ev.OB at h
 simp only[Bool.and_eq_true,List.all_cons] at h
 have h3:=h.2.2.2.1
 unfold Ev.DB at h3
 unfold UQ
 split at h3
 ·exact of_decide_eq_true h3
 ·have : (e.at' : Int) = 0 := by simpa using h3
  omega
theorem JT {now:Nat}{alone:Bool}{e:EV}{s s':ST}(hn:now<=UQ)(he:e.at'<=UQ)(hi:Xl s)(h:Dc now alone e s=some s'):Xl s':=by
 have hput:∀t:TK,t.at'<=UQ->Xl {s with tasks:=FH s.tasks t}:=fun t ht=>⟨fun x hx=>by
  rcases tput_mem hx with ⟨q,-⟩|q
  ·rw[q];exact ht
  ·exact hi.tasks x q,hi.timers⟩
 unfold Dc at h
 split at h
 ·split at h
  ·split at h
   ·cases h;exact hput _ he
   ·cases h
  ·cases h
 ·split at h
  ·split at h
   ·split at h
    ·split at h
     ·cases h;exact⟨fun x hx=>hi.tasks x (List.mem_filter.1 hx).1,hi.timers⟩
     ·split at h
      ·cases h;exact hput _ he
      ·cases h
    ·cases h
   ·cases h
  ·split at h
   ·split at h
    ·split at h
     ·cases h
      exact⟨hi.tasks,fun x hx=>hi.timers x (List.mem_filter.1 hx).1⟩
     ·cases h
    ·cases h
   ·split at h
    ·split at h
     ·cases h
     ·cases h;exact⟨hi.tasks,hi.timers⟩
    ·split at h
     ·split at h
      ·cases h
       refine⟨fun x hx=> ?_,hi.timers⟩
       rcases List.mem_append.1 hx with q|q
       ·exact hi.tasks x q
       ·rw[List.mem_singleton.1 q];exact hn
      ·cases h
     ·split at h
      ·split at h
       ·cases h
        refine⟨hi.tasks,fun x hx=> ?_⟩
        rcases List.mem_append.1 hx with q|q
        ·exact hi.timers x q
        ·rw[List.mem_singleton.1 q];exact he
       ·cases h
      ·split at h
       ·split at h
        ·cases h;exact⟨fun t h=>by simp at h,fun t h=>by simp at h⟩
        ·cases h
       ·cases h;exact hi
theorem Vl {now : Nat} (hn : now <= UQ) : ∀ (es : List EV) (first : Bool) (s s' : ST), (∀ e ∈ es, e.at' <= UQ) -> Xl s -> runM now es first s = some s' -> Xl s'
 | [],_,s,s',_,hi,h=>by cases h;exact hi
 | e :: r, first, s, s', he, hi, h => by
  unfold runM at h
  split at h
  ·cases ha:Dc now r.isEmpty e s with
   | none=>rw[ha] at h;cases h
   | some s1=>
    rw[ha] at h
    exact Vl hn r false s1 s' (fun e2 h2=>he e2 (List.mem_cons_of_mem _ h2)) (JT hn (he e List.mem_cons_self) hi ha) h
  ·cases h
theorem YK {h:HM}(hi:Xl h.s)(b:BT):Xl (Du h b).2.s:=by
 by_cases hc:(Du h b).1=0
 ·unfold Du at hc ⊢
  split at hc
  ·exact absurd (show (2:Int)=0 from hc) O1
  ·rename_i q1
   rw[if_neg q1]
   split at hc
   ·exact absurd (show (6:Int)=0 from hc) O1
   ·rename_i q2
    rw[if_neg q2]
    split at hc
    ·exact absurd (show (8:Int)=0 from hc) O1
    ·rename_i q3
     rw[if_neg q3]
     split at hc
     ·exact absurd (show (12:Int)=0 from hc) O1
     ·rename_i q4
      rw[if_neg q4]
      cases hr:runM b.at' b.es true h.s with
      | none=>rw[hr] at hc;exact absurd (show (12:Int)=0 from hc) O1
      | some s'=>
       have hb:bOk b=true:=by simpa using q1
       unfold bOk at hb
       simp only[Bool.and_eq_true,decide_eq_true_eq,Bool.not_eq_true'] at hb
       refine Vl hb.1.1 _ _ _ _ (fun e he=>valid_at ?_) hi hr
       have:=List.any_eq_false.1 hb.2 e he
       simpa using this
 ·rw[Hi.PS hc];exact hi
def Su (x:XM):Prop:=∀h∈x.flows,Xl h.s
theorem KJ : Su XM.new:=fun h hh=>by simp[XM.new] at hh
theorem KK {x:XM}(hi:Su x)(b:BT):Su (DD x b).2:=by
 by_cases hc:(DD x b).1=0
 ·have hs0:Xl (DH x b.flow).s:=by
   unfold DH
   cases hf:Dr x.flows b.flow with
   | none=>exact⟨fun t h=>by simp[HM.new] at h,fun t h=>by simp[HM.new] at h⟩
   | some i=>
    obtain⟨hi2,h1,-⟩:=DK hf
    simp only[List.getD_eq_getElem?_getD,List.getElem?_eq_getElem hi2,Option.getD_some]
    exact hi _ (List.getElem_mem hi2)
  intro h hh
  have e:=addX_is hc
  cases hf:Dr x.flows b.flow with
  | none=>
   rw[hf] at e
   rw[e] at hh
   rcases List.mem_append.1 hh with q|q
   ·exact hi h q
   ·rw[List.mem_singleton.1 q];exact YK hs0 b
  | some i=>
   rw[hf] at e
   rw[e] at hh
   rcases List.mem_or_eq_of_mem_set hh with q|q
   ·exact hi h q
   ·rw[q];exact YK hs0 b
 ·rw[Hi.Ob hc];exact hi
end Ta
end Go.Proofs.YtaahfiopdoinkaaGreat
