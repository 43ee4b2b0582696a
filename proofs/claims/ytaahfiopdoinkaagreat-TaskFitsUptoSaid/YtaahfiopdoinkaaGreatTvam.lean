/- Plain: references in order: what the reference's insertion gives is what a sort by (tick, place, number) gives. No program in sight. -/
import Derived.Test.YtaahfiopdoinkaaGreatTvak
import Derived.Test.YtaahfiopdoinkaaGreatTval
variable {p : Prop}
set_option linter.unusedVariables false
set_option linter.unusedSimpArgs false
open Go.RowKit
namespace Go.Proofs.YtaahfiopdoinkaaGreat
namespace Ta
open Hi (TK HM XM SD Us)
structure RF where mk ::
 flow:ByteArray
 id:Nat
 n:Int
 at':Nat
def Fw (l:List RF)(r:RF):List RF:=l.takeWhile (fun x=>decide (x.at'<=r.at'))++r::l.dropWhile (fun x=>decide (x.at'<=r.at'))
def DN (l:List RF):List RF:=l.foldl Fw []
theorem Gl (l:List RF)(r:RF):DN (l++ [r])=Fw (DN l) r:=by simp[DN,List.foldl_append]
theorem Pq (l:List RF)(r:RF):(l++ [r]).Perm (Fw l r):=by
 unfold Fw
 refine(List.perm_append_comm).trans ?_
 rw[List.singleton_append]
 refine List.Perm.trans ?_ List.perm_middle.symm
 rw[List.takeWhile_append_dropWhile]
def code (K:Nat)(kf:RF->Nat)(r:RF):Nat:=r.at'*K+kf r
theorem Xw {K:Nat}{kf:RF->Nat}{a b:RF}(ha:kf a<K)(h:a.at'<b.at'\/a.at'=b.at'/\kf a<kf b):code K kf a<code K kf b:=by
 unfold code
 rcases h with h|⟨h,h2⟩
 ·have : (a.at' + 1) * K <= b.at' * K := Nat.mul_le_mul_right K h
  rw[Nat.succ_mul] at this;omega
 ·rw[h];omega
theorem code_at {K:Nat}{kf:RF->Nat}{a b:RF}(hb:kf b<K)(h:code K kf a<code K kf b):a.at'<=b.at':=by
 unfold code at h
 rcases Nat.lt_or_ge b.at' a.at' with q|q
 ·have : (b.at' + 1) * K <= a.at' * K := Nat.mul_le_mul_right K q
  rw[Nat.succ_mul] at this;omega
 ·exact q
theorem Lg (p : RF -> Bool) : ∀ (l : List RF) (y : RF), y ∈ l.dropWhile p -> ∃ x t, l.dropWhile p = x :: t /\ p x = false /\ y ∈ x :: t
 | [],y,h=>by simp at h
 | a::t,y,h=>by
  by_cases q:p a=true
  ·rw [List.dropWhile_cons_of_pos q] at h ⊢
   exact Lg p t y h
  ·rw [List.dropWhile_cons_of_neg (by simpa using q)] at h ⊢
   exact⟨a,t,rfl,by simpa using q,h⟩
theorem KN (p : RF -> Bool) : ∀ (l : List RF) (y : RF), y ∈ l.takeWhile p -> p y = true /\ y ∈ l
 | [],y,h=>by simp at h
 | a::t,y,h=>by
  by_cases q:p a=true
  ·rw [List.takeWhile_cons_of_pos q] at h
   rcases List.mem_cons.1 h with e|e
   ·subst e;exact⟨q,List.mem_cons_self⟩
   ·obtain ⟨h1, h2⟩ := KN p t y e
    exact⟨h1,List.mem_cons_of_mem _ h2⟩
  ·rw[List.takeWhile_cons_of_neg (by simpa using q)] at h;simp at h
theorem YA {K:Nat}{kf:RF->Nat}{l:List RF}{r:RF}(hs:l.Pairwise fun a b=>code K kf a<code K kf b)(hK:∀x∈l,kf x<K)(hr:kf r<K)(hlt:∀x∈l,kf x<kf r) :
  (Fw l r).Pairwise fun a b=>code K kf a<code K kf b:=by
 unfold Fw
 have hsub1:(l.takeWhile fun x=>decide (x.at'<=r.at')).Sublist l:=List.takeWhile_sublist _
 have hsub2:(l.dropWhile fun x=>decide (x.at'<=r.at')).Sublist l:=List.dropWhile_sublist _
 have hgt:∀y∈l.dropWhile fun x=>decide (x.at'<=r.at'),r.at'<y.at':=by
  intro y hy
  obtain⟨x,t,e,hx,hm⟩:=Lg _ l y hy
  have hx':r.at'<x.at':=by simpa using hx
  rcases List.mem_cons.1 hm with q|q
  ·subst q;exact hx'
  ·have hp := hs.sublist hsub2
   rw[e] at hp
   have h1:=(List.pairwise_cons.1 hp).1 y q
   have hy2:y∈l:=hsub2.subset hy
   exact Nat.lt_of_lt_of_le hx' (code_at (hK y hy2) h1)
 refine List.pairwise_append.2 ⟨hs.sublist hsub1,List.pairwise_cons.2 ⟨fun y hy=>Xw hr (.inl (hgt y hy)),hs.sublist hsub2⟩,?_⟩
 intro x hx y hy
 obtain⟨hx1,hx2⟩:=KN _ l x hx
 have hx3:x.at'<=r.at':=by simpa using hx1
 rcases List.mem_cons.1 hy with q|q
 ·subst q
  refine Xw (hK x hx2) ?_
  rcases Nat.lt_or_ge x.at' y.at' with a|a
  ·exact .inl a
  ·exact .inr ⟨O0,hlt x hx2⟩
 ·exact Xw (hK x hx2) (.inl (Nat.lt_of_le_of_lt hx3 (hgt y q)))
theorem M173 (h:p:=by
 have h:=key l.length (Nat.le_refl _)
 rwa [List.take_length] at h):p:=h
theorem FE {K:Nat}{kf:RF->Nat}(l:List RF)(hK:∀x∈l,kf x<K)(hl:l.Pairwise fun a b=>kf a<kf b):l.Perm (DN l)/\(DN l).Pairwise fun a b=>code K kf a<code K kf b:=by
 have key:∀j,j<=l.length->(l.take j).Perm (DN (l.take j))/\(DN (l.take j)).Pairwise fun a b=>code K kf a<code K kf b:=by
  intro j
  induction j with
  | zero=>intro _;exact⟨List.Perm.refl _,List.Pairwise.nil⟩
  | succ j ih=>
   intro hj
   obtain⟨h1,h2⟩:=ih O0
   have hlt:j<l.length:=O0
   rw[List.take_add_one,List.getElem?_eq_getElem hlt,Option.toList_some,Gl]
   refine⟨(List.Perm.append_right _ h1).trans (Pq _ _),YA h2 (fun x hx=>hK x (List.mem_of_mem_take (h1.mem_iff.2 hx))) (hK _ (List.getElem_mem hlt)) ?_⟩
   intro x hx
   have hx2:=h1.mem_iff.2 hx
   obtain⟨i,hi,e⟩:=List.getElem_of_mem hx2
   rw[List.getElem_take] at e
   have hi2:i<j:=by simp only[List.length_take] at hi;omega
   rw[<-e]
   exact(List.pairwise_iff_getElem.1 hl) i j O0 hlt hi2
 exact M173
def refsOf (fl:Bool)(now:Nat)(h:HM):List RF:=(h.s.tasks.filter fun t=>decide (t.fl=fl/\t.at'<=now)).map fun t=>⟨h.flow,t.id,if fl=true then t.n else t.n+1,t.at'⟩
def DX (now:Nat)(h:HM):List RF:=(h.s.timers.filter fun t=>decide (t.2<=now)).map fun t=>⟨h.flow,t.1,0,t.2⟩
def DP (fl:Bool)(now:Nat)(x:XM):List RF:=DN (x.flows.flatMap (refsOf fl now))
def Pc (now:Nat)(x:XM):List RF:=DN (x.flows.flatMap (DX now))
open Hi (XGood Dr DI GH tot Pg GX)
def Xj (x:XM)(f:ByteArray):Nat:=(Dr x.flows f).getD 0
def kfX (x:XM)(r:RF):Nat:=Xj x r.flow*18446744073709551616+r.id
theorem PQ {l:List HM}(ha:l.Pairwise fun a b=>a.flow≠b.flow)(i:Nat)(hi:i<l.length):Dr l l[i].flow=some i:=by
 cases h:Dr l l[i].flow with
 | none=>exact absurd rfl (GH h l[i] (List.getElem_mem hi))
 | some j=>
  obtain⟨hj,h1,h2⟩:=DI h
  have hp:=List.pairwise_iff_getElem.1 ha
  rcases Nat.lt_trichotomy i j with q|q|q
  ·exact absurd h1.symm (hp i j hi hj q)
  ·rw[q]
  ·exact absurd h1 (hp j i hj hi q)
theorem Nl {x:XM}{T N:Nat}(g:XGood x T N)(i:Nat)(hi:i<x.flows.length):Xj x x.flows[i].flow=i:=by
 unfold Xj;rw[PQ g.apart i hi];rfl
theorem Ox {fl:Bool}{now:Nat}{h:HM}{r:RF}(hr:r∈refsOf fl now h):r.flow=h.flow/\∃t∈h.s.tasks,r.id=t.id/\r.at'=t.at'/\t.fl=fl/\t.at'<=now/\r.n=if fl=true then t.n else t.n+1:=by
 unfold refsOf at hr
 obtain⟨t,ht,e⟩:=List.mem_map.1 hr
 obtain⟨h1,h2⟩:=List.mem_filter.1 ht
 obtain⟨h3,h4⟩:=of_decide_eq_true h2
 subst e
 exact⟨rfl,t,h1,rfl,rfl,h3,h4,rfl⟩
theorem Pt {now:Nat}{h:HM}{r:RF}(hr:r∈DX now h):r.flow=h.flow/\r.n=0/\(r.id,r.at')∈h.s.timers/\r.at'<=now:=by
 unfold DX at hr
 obtain⟨t,ht,e⟩:=List.mem_map.1 hr
 obtain⟨h1,h2⟩:=List.mem_filter.1 ht
 have h3:=of_decide_eq_true h2
 subst e
 exact⟨rfl,rfl,h1,h3⟩
theorem VI {x:XM}{T N:Nat}(g:XGood x T N)(F:HM->List RF)(hF:∀h∈x.flows,(∀r∈F h,r.flow=h.flow/\r.id<18446744073709551616)/\(F h).Pairwise fun a b=>a.id<b.id) :
  (x.flows.flatMap F).Pairwise (fun a b=>kfX x a<kfX x b)/\∀r∈x.flows.flatMap F,kfX x r<x.flows.length*18446744073709551616:=by
 have hkf:∀(i:Nat) (hi:i<x.flows.length) (r:RF),r∈F x.flows[i]->kfX x r=i*18446744073709551616+r.id/\r.id<18446744073709551616:=by
  intro i hi r hr
  obtain⟨h1,h2⟩:=(hF _ (List.getElem_mem hi)).1 r hr
  exact⟨by unfold kfX;rw[h1,Nl g i hi],h2⟩
 constructor
 ·rw [List.pairwise_flatMap]
  constructor
  ·intro h hh
   obtain⟨i,hi,e⟩:=List.getElem_of_mem hh
   subst e
   obtain⟨h1,h2⟩:=hF _ (List.getElem_mem hi)
   refine List.Pairwise.imp_of_mem ?_ h2
   intro a b ha hb hab
   rw[(hkf i hi a ha).1,(hkf i hi b hb).1];omega
  ·rw [List.pairwise_iff_getElem]
   intro i j hi hj hij a ha b hb
   obtain⟨e1,l1⟩:=hkf i hi a ha
   obtain⟨e2,l2⟩:=hkf j hj b hb
   rw[e1,e2]
   have:(i+1)*18446744073709551616<=j*18446744073709551616:=Nat.mul_le_mul_right _ hij
   omega
 ·intro r hr
  obtain⟨h,hh,hm⟩:=List.mem_flatMap.1 hr
  obtain⟨i,hi,e⟩:=List.getElem_of_mem hh
  subst e
  obtain⟨e1,l1⟩:=hkf i hi r hm
  rw[e1]
  have:(i+1)*18446744073709551616<=x.flows.length*18446744073709551616:=Nat.mul_le_mul_right _ hi
  omega
theorem OD (l:List RF)(r:RF):r∈DN l↔r∈l:=by
 have key:∀j,j<=l.length->(r∈DN (l.take j)↔r∈l.take j):=by
  intro j
  induction j with
  | zero=>intro _;simp[DN]
  | succ j ih=>
   intro hj
   have hlt:j<l.length:=O0
   rw[List.take_add_one,List.getElem?_eq_getElem hlt,Option.toList_some,Gl, <-(Pq _ _).mem_iff,List.mem_append,List.mem_append,ih O0]
 exact M173
theorem Xq (r : RF) : ∀ (l : List RF) (k : Nat), k <= l.length -> (∀ i (h : i < l.length), i < k -> l[i].at' <= r.at') -> (∀ h : k < l.length, r.at' < l[k].at') -> Fw l r = l.take k ++ r :: l.drop k
 | [],k,_,_,_=>by simp[Fw]
 | a::t,0,_,_,h2=>by
  have:=h2 O3
  unfold Fw
  have hn:¬(decide (a.at'<=r.at')=true):=by simpa using this
  rw[List.takeWhile_cons_of_neg (by simpa using this),List.dropWhile_cons_of_neg (by simpa using this)]
  rfl
 | a::t,k+1,hk,h1,h2=>by
  have ha:a.at'<=r.at':=h1 0 O3 O0
  have ih:=Xq r t k (by simpa using hk) (fun i h q=>h1 (i+1) (by simpa using h) O0) (fun h=>h2 (by simpa using h))
  unfold Fw at ih ⊢
  rw[List.takeWhile_cons_of_pos (by simpa using ha),List.dropWhile_cons_of_pos (by simpa using ha),List.take_succ_cons,List.drop_succ_cons,List.cons_append,List.cons_append,ih]
theorem FF (l:List RF):(DN l).length=l.length:=by
 have key:∀j,j<=l.length->(DN (l.take j)).length=j:=by
  intro j
  induction j with
  | zero=>intro _;simp[DN]
  | succ j ih=>
   intro hj
   have hlt:j<l.length:=O0
   rw[List.take_add_one,List.getElem?_eq_getElem hlt,Option.toList_some,Gl, <-(Pq _ _).length_eq,List.length_append,ih O0]
   rfl
 exact M173
open Hi (ST Dc runM Fc DV GL FD GF DY Dt GA bOk)
open Ev (EV)
structure SInv (s : ST) (c : Nat) : Prop where
 idp:∀t∈s.tasks,0<t.id
 idt:∀t∈s.timers,0<t.1
 n0:∀t∈s.tasks,0<=t.n/\t.n<=(c:Int)
 closed:s.closed≠0->s.tasks= []/\s.timers= []
theorem SInv.mono {s:ST}{c c':Nat}(h:SInv s c)(hc:c<=c'):SInv s c':=⟨h.idp,h.idt,fun t ht=>⟨(h.n0 t ht).1,by have:=(h.n0 t ht).2;omega⟩,h.closed⟩
theorem Na : SInv ⟨[],[],[],1,0⟩ 0:=⟨fun t h=>by simp at h,fun t h=>by simp at h,fun t h=>by simp at h,fun _=>⟨rfl,rfl⟩⟩
theorem Ug {l:List TK}{t x:TK}(h:x∈DV l t):x=t/\(∃y∈l,y.id=t.id)\/x∈l:=by
 unfold DV at h
 obtain⟨y,hy,e⟩:=List.mem_map.1 h
 by_cases q:y.id=t.id
 ·rw[if_pos q] at e;exact .inl ⟨e.symm,y,hy,q⟩
 ·rw[if_neg q] at e;subst e;exact .inr hy
theorem Uu {now:Nat}{alone:Bool}{e:EV}{s s':ST}{c:Nat}(hf:GX s)(hi:SInv s c)(h0:s.closed=0)(h:Dc now alone e s=some s'){c':Nat}(hcc:c<=c')(hal:alone=true->c+1<=c'):SInv s' c':=by
 have hput:∀(t y:TK),y∈s.tasks->t.id=y.id->0<=t.n->t.n<=(c':Int)->SInv {s with tasks:=DV s.tasks t} c':=fun t y hy e1 e2 e3=>⟨fun x hx=>by
  rcases Ug hx with ⟨q,-⟩|q
  ·rw[q,e1];exact hi.idp y hy
  ·exact hi.idp x q,hi.idt,fun x hx=>by
  rcases Ug hx with ⟨q,-⟩|q
  ·rw[q];exact⟨e2,e3⟩
  ·have:=hi.n0 x q;exact⟨this.1,O0⟩,fun q=>absurd h0 q⟩
 have hdel:∀id,SInv {s with tasks:=GL s.tasks id} c':=fun id=>⟨fun x hx=>hi.idp x (List.mem_filter.1 hx).1,hi.idt,fun x hx=>by have:=hi.n0 x (List.mem_filter.1 hx).1;exact⟨this.1,O0⟩,fun q=>absurd h0 q⟩
 unfold Dc at h
 split at h
 ·split at h
  ·rename_i t ht
   obtain⟨hm,hid⟩:=DY ht
   have hn:=hi.n0 t hm
   split at h
   ·rename_i hc
    cases h
    have hq:=hal hc.2.2.2.2
    exact hput _ t hm rfl (show 0<=e.n by have:=hc.2.1;omega) (show e.n<=(c':Int) by have:=hc.2.1;omega)
   ·cases h
  ·cases h
 ·split at h
  ·split at h
   ·rename_i t ht
    obtain⟨hm,hid⟩:=DY ht
    have hn:=hi.n0 t hm
    split at h
    ·split at h
     ·cases h;exact hdel _
     ·split at h
      ·cases h;exact hput _ t hm rfl hn.1 (show t.n<=(c':Int) by omega)
      ·cases h
    ·cases h
   ·cases h
  ·split at h
   ·split at h
    ·split at h
     ·cases h
      exact⟨hi.idp,fun x hx=>hi.idt x (List.mem_filter.1 hx).1,(hi.mono hcc).n0,fun q=>absurd h0 q⟩
     ·cases h
    ·cases h
   ·split at h
    ·split at h
     ·cases h
     ·cases h;exact⟨hi.idp,hi.idt,(hi.mono hcc).n0,fun q=>absurd h0 q⟩
    ·split at h
     ·split at h
      ·rename_i hid
       cases h
       refine⟨fun x hx=> ?_,hi.idt,fun x hx=> ?_,fun q=>absurd h0 q⟩
       ·rcases List.mem_append.1 hx with q | q
        ·exact hi.idp x q
        ·rw[List.mem_singleton.1 q];show 0<e.id;rw[hid];exact hf.pos
       ·rcases List.mem_append.1 hx with q | q
        ·exact(hi.mono hcc).n0 x q
        ·rw[List.mem_singleton.1 q];exact⟨Int.le_refl 0,show (0:Int)<=(c':Int) by omega⟩
      ·cases h
     ·split at h
      ·split at h
       ·rename_i hid
        cases h
        refine⟨hi.idp,fun x hx=> ?_,(hi.mono hcc).n0,fun q=>absurd h0 q⟩
        rcases List.mem_append.1 hx with q|q
        ·exact hi.idt x q
        ·rw[List.mem_singleton.1 q];show 0<e.id;rw[hid.1];exact hf.pos
       ·cases h
      ·split at h
       ·split at h
        ·cases h;exact⟨fun t h=>by simp at h,fun t h=>by simp at h,fun t h=>by simp at h,fun _=>⟨rfl,rfl⟩⟩
        ·cases h
       ·cases h;exact hi.mono hcc
theorem Kr {now:Nat}{e:EV}{s s':ST}(h0:s.closed=0)(h:Dc now false e s=some s'):s'.closed=0:=by
 unfold Dc at h
 repeat' split at h
 all_goals first
  | (cases h;done)
  | (cases h;exact h0)
  | (cases h;simp_all;done)
theorem VC {now : Nat} : ∀ (es : List EV) (first : Bool) (s s' : ST) (c : Nat), GX s -> SInv s c -> s.closed = 0 -> runM now es first s = some s' -> SInv s' (c + 1)
 | [],_,s,s',c,hf,hi,_,h=>by cases h;exact hi.mono (Nat.le_succ c)
 | e :: r, first, s, s', c, hf, hi, h0, h => by
  unfold runM at h
  split at h
  ·cases ha:Dc now r.isEmpty e s with
   | none=>rw[ha] at h;cases h
   | some s1=>
    rw[ha] at h
    have hf1:=Hi.GG hf ha
    cases r with
    | nil=>cases h;exact Uu hf hi h0 ha (Nat.le_succ c) (fun _=>Nat.le_refl _)
    | cons e2 r2=>
     have h01:s1.closed=0:=Kr h0 ha
     have h1:=Uu hf hi h0 ha (Nat.le_refl c) (fun q=>by simp at q)
     exact VC (e2::r2) false s1 s' c hf1 h1 h01 h
  ·cases h
theorem sinv_add {h:HM}(hf:Pg h)(hi:SInv h.s h.bs.length)(b:Cn.BT):SInv (Dt h b).2.s (Dt h b).2.bs.length:=by
 by_cases hc:(Dt h b).1=0
 ·obtain ⟨-, h2⟩ := Hi.SZ hc
  rw[h2,List.length_append,List.length_singleton]
  unfold Dt at hc ⊢
  split at hc
  ·exact absurd (show (2:Int)=0 from hc) O1
  ·rename_i q1
   rw[if_neg q1]
   split at hc
   ·exact absurd (show (6:Int)=0 from hc) O1
   ·rename_i q2
    rw[if_neg q2]
    split at hc
    ·exact absurd (show (8:Int)=0 from hc) O1
    ·rename_i q3
     rw[if_neg q3]
     split at hc
     ·exact absurd (show (12:Int)=0 from hc) O1
     ·rename_i q4
      rw[if_neg q4]
      cases hr:runM b.at' b.es true h.s with
      | none=>rw[hr] at hc;exact absurd (show (12:Int)=0 from hc) O1
      | some s'=>exact VC _ _ _ _ _ hf.fine hi (Classical.not_not.1 q3) hr
 ·rw[Hi.Pd hc];exact hi
open Hi (Dy FB FU DF Gb Fq Fo)
open Cn (BT Dw)
structure HInv (h : HM) (M : Nat) : Prop where
 s:SInv h.s h.bs.length
 bs:h.bs≠ []
 name:h.flow.toList≠ []
 short:h.flow.size<=1000
 clk:h.at'<=M
theorem HInv.mono {h:HM}{M M':Nat}(a:HInv h M)(hm:M<=M'):HInv h M':=⟨a.s,a.bs,a.name,a.short,Nat.le_trans a.clk hm⟩
def Vn (x:XM):Prop:=∀h∈x.flows,HInv h x.clock
theorem xinv_new : Vn XM.new:=fun h hh=>by simp[XM.new] at hh
theorem Lq {x : XM} {b : BT} (hc : (Dy x b).1 = 0) : (Dy x b).2 = match Dr x.flows b.flow with
  | some i=>⟨x.flows.set i (Dt (DF x b.flow) b).2,x.all++ [b]⟩
  | none=>⟨x.flows++ [(Dt (DF x b.flow) b).2],x.all++ [b]⟩:=by
 obtain⟨ha,hm,hv,hk⟩:=FB hc
 unfold Dy
 rw[if_neg (by rw[hv];decide),if_neg O0,if_neg (fun q=>q hm)]
 cases Dr x.flows b.flow<;>simp
theorem Uf {f:ByteArray}{a:Nat}{es:List EV}(h:Dw f a es=true):f.toList≠ []/\f.size<=1000/\a<=9223372036854775807:=by
 unfold Dw at h
 simp only[Bool.and_eq_true,decide_eq_true_eq] at h
 obtain⟨⟨⟨⟨h1,h2⟩,h3⟩,-⟩,-⟩:=h
 exact⟨by simpa using h1,h2,h3⟩
theorem Uc {x:XM}{T N:Nat}(g:XGood x T N)(hi:Vn x)(b:BT):Vn (Dy x b).2:=by
 by_cases hc:(Dy x b).1=0
 ·obtain ⟨ha, hm, hv, hk⟩ := FB hc
  obtain⟨hg,hfl⟩:=Gb g b.flow
  have hclk:(Dy x b).2.clock=max x.clock b.at':=by unfold XM.clock;rw[ha,Fo]
  obtain⟨n1,n2,n3⟩:=Uf hv
  obtain⟨o1,o2⟩:=Hi.SZ hm
  have hs0:SInv (DF x b.flow).s (DF x b.flow).bs.length:=by
   unfold DF
   cases hf:Dr x.flows b.flow with
   | none=>exact Na
   | some i=>
    obtain⟨hi2,h1,-⟩:=DI hf
    simp only[List.getD_eq_getElem?_getD,List.getElem?_eq_getElem hi2,Option.getD_some]
    exact(hi _ (List.getElem_mem hi2)).s
  have hnew:HInv (Dt (DF x b.flow) b).2 (Dy x b).2.clock:=by
   refine⟨sinv_add hg.fine hs0 b,by rw[o2];simp,by rw[o1,hfl];exact n1,by rw[o1,hfl];exact n2,?_⟩
   rw[hclk]
   have:(Dt (DF x b.flow) b).2.at'=b.at':=by unfold HM.at';rw[o2,List.getLast?_append];simp
   rw[this];exact Nat.le_max_right _ _
  have hold:∀h∈x.flows,HInv h (Dy x b).2.clock:=fun h hh=>(hi h hh).mono (by rw[hclk];exact Nat.le_max_left _ _)
  intro h hh
  have e:=Lq hc
  cases hf:Dr x.flows b.flow with
  | none=>
   rw[hf] at e
   rw[e] at hh
   rcases List.mem_append.1 hh with q|q
   ·exact hold h q
   ·rw[List.mem_singleton.1 q];exact hnew
  | some i=>
   rw[hf] at e
   rw[e] at hh
   rcases List.mem_or_eq_of_mem_set hh with q|q
   ·exact hold h q
   ·rw[q];exact hnew
 ·rw[FU hc];exact hi
open Hi (Om)
open Ev (zeroT)
def Vb (id:Nat)(n:Int)(now:Nat):EV:=⟨2,id,n,now,⟨#[]⟩,⟨#[]⟩,zeroT⟩
def Py (id:Nat):EV:=⟨5,id,0,0,⟨#[]⟩,⟨#[]⟩,zeroT⟩
theorem UH : (⟨#[]⟩:ByteArray).toList.isEmpty=true:=by rw[List.isEmpty_iff];unfold ByteArray.toList;rw[ByteArray.toList.loop.eq_def];simp;exact fun h=>absurd h O1
theorem Jr {id:Nat}{n:Int}{now:Nat}(hi:0<id)(hn:1<=n/\n<=2147483647)(ha:now<=9223372036854775807):(Vb id n now).valid=true:=by
 have hz:zeroT.same zeroT=true:=Vt.FJ _
 unfold Vb EV.valid Ev.GR
 simp[Ev.fieldsOf,Ev.DB,hi,hn,ha,hz,UH]
theorem YI {id:Nat}(hi:0<id):(Py id).valid=true:=by
 have hz:zeroT.same zeroT=true:=Vt.FJ _
 unfold Py EV.valid Ev.GR
 simp[Ev.fieldsOf,Ev.DB,hi,hz,UH]
theorem addM_one {h:HM}{M now:Nat}(hi:HInv h M)(hm:M<=now)(hn:now<=9223372036854775807)(hc:h.s.closed=0){e:EV}(hv:e.valid=true)(hk:e.k≠1)(hk6:e.k<=6){s':ST}(ha:Dc now true e h.s=some s') :
  Dt h ⟨h.flow,now,[e]⟩=(0,⟨h.flow,h.bs++ [⟨h.flow,now,[e]⟩],s'⟩):=by
 unfold Dt
 have h1:bOk ⟨h.flow,now,[e]⟩=true:=by unfold bOk;simp[hn,hv]
 have h2:=hi.clk
 rw [if_neg (by rw [h1]; decide), if_neg O3, if_neg (by rw [hc]; simp), if_neg (by
  rintro(q|q)
  ·exact absurd (show now<h.at' from q) O0
  ·exact q ⟨fun q2=>absurd (show e.k=1 from q2) hk,fun q2=>absurd q2 hi.bs⟩)]
 have hr:runM now [e] true h.s=some s':=by
  unfold runM
  rw[if_pos (by simp[hk6])]
  rw[show ([]:List EV).isEmpty=true from rfl,ha]
  rfl
 rw[show runM (⟨h.flow,now,[e]⟩:BT).at' (⟨h.flow,now,[e]⟩:BT).es true h.s=some s' from hr]
theorem Kk {f:ByteArray}{now:Nat}{e:EV}(h1:f.toList≠ [])(h2:f.size<=1000)(h3:now<=9223372036854775807)(hv:e.valid=true):Dw f now [e]=true:=by
 unfold Dw
 simp[h1,h2,h3,Cn.DH,hv]
theorem Jh {x:XM}{T N:Nat}(g:XGood x T N)(hi:Vn x){now:Nat}(hclk:x.clock<=now)(hn:now<=9223372036854775807){i:Nat}(hl:i<x.flows.length){e:EV}(hv:e.valid=true)(hk:e.k≠1)(hk6:e.k<=6)(hc:x.flows[i].s.closed=0){s':ST}(ha:Dc now true e x.flows[i].s=some s') :
  Dy x ⟨x.flows[i].flow,now,[e]⟩=(0,⟨x.flows.set i ⟨x.flows[i].flow,x.flows[i].bs++ [⟨x.flows[i].flow,now,[e]⟩],s'⟩,x.all++ [⟨x.flows[i].flow,now,[e]⟩]⟩):=by
 have hI:=hi _ (List.getElem_mem hl)
 have hf:=PQ g.apart i hl
 have hh:DF x x.flows[i].flow=x.flows[i]:=by
  unfold DF;rw[hf];simp[List.getD_eq_getElem?_getD,List.getElem?_eq_getElem hl]
 have hm:=addM_one hI hclk hn hc hv hk hk6 ha
 unfold Dy
 have hb:=Kk hI.name hI.short hn hv
 rw[if_neg (show ¬Dw x.flows[i].flow now [e]=false by rw[hb];decide),if_neg (show ¬now<x.clock by omega),if_neg (by simp only[hh,hm];simp)]
 simp only[hh,hm,hf]
theorem fit_task {x:XM}{T N:Nat}(g:XGood x T N)(hN:N<=1000000000)(hi:Vn x){now:Nat}(hclk:x.clock<=now)(hn:now<=9223372036854775807){i:Nat}(hl:i<x.flows.length){t:TK}(ht:t∈x.flows[i].s.tasks)(hfl:t.fl=false)(hat:t.at'<=now) :
  Dy x ⟨x.flows[i].flow,now,[Vb t.id (t.n+1) now]⟩=(0,⟨x.flows.set i ⟨x.flows[i].flow,x.flows[i].bs++ [⟨x.flows[i].flow,now,[Vb t.id (t.n+1) now]⟩],{x.flows[i].s with tasks:=DV x.flows[i].s.tasks {t with n:=t.n+1,at':=now,fl:=true}}⟩,x.all++ [⟨x.flows[i].flow,now,[Vb t.id (t.n+1) now]⟩]⟩):=by
 have hI:=hi _ (List.getElem_mem hl)
 have hg:=g.good _ (List.getElem_mem hl)
 have h0:=hI.s.n0 t ht
 have hlen:=hg.len
 have hc:x.flows[i].s.closed=0:=by
  rcases Classical.em (x.flows[i].s.closed=0) with q|q
  ·exact q
  ·have:=(hI.s.closed q).1;rw[this] at ht;simp at ht
 have hget:Fc x.flows[i].s.tasks t.id=some t:=by
  obtain⟨k,hk,e⟩:=List.getElem_of_mem ht
  rw[<-e];exact Hi.get_at hg.fine.fine.tasks hk
 refine Jh g hi hclk hn hl (Jr (hI.s.idp t ht) ⟨O0,O0⟩ hn) (by simp[Vb]) (by simp[Vb]) hc ?_
 unfold Dc
 simp only[Vb,if_pos,hget]
 simp[hfl,hat]
theorem NI {x:XM}{T N:Nat}(g:XGood x T N)(hi:Vn x){now:Nat}(hclk:x.clock<=now)(hn:now<=9223372036854775807){i:Nat}(hl:i<x.flows.length){t:Nat×Nat}(ht:t∈x.flows[i].s.timers)(hat:t.2<=now) :
  Dy x ⟨x.flows[i].flow,now,[Py t.1]⟩=(0,⟨x.flows.set i ⟨x.flows[i].flow,x.flows[i].bs++ [⟨x.flows[i].flow,now,[Py t.1]⟩],{x.flows[i].s with timers:=GF x.flows[i].s.timers t.1}⟩,x.all++ [⟨x.flows[i].flow,now,[Py t.1]⟩]⟩):=by
 have hI:=hi _ (List.getElem_mem hl)
 have hg:=g.good _ (List.getElem_mem hl)
 have hc:x.flows[i].s.closed=0:=by
  rcases Classical.em (x.flows[i].s.closed=0) with q|q
  ·exact q
  ·have:=(hI.s.closed q).2;rw[this] at ht;simp at ht
 have hget:FD x.flows[i].s.timers t.1=some t:=by
  have hp:=hg.fine.fine.timers
  unfold FD
  rw[List.find?_eq_some_iff_getElem]
  obtain⟨k,hk,e⟩:=List.getElem_of_mem ht
  refine⟨O3,k,hk,e,fun j hj=> ?_⟩
  have:=List.pairwise_iff_getElem.1 hp j k O0 hk hj
  rw[e] at this
  simp;omega
 refine Jh g hi hclk hn hl (YI (hI.s.idt t ht)) (by simp[Py]) (by simp[Py]) hc ?_
 unfold Dc
 simp[Py,hget,hat]
def OP (now:Nat)(l:List HM)(f:ByteArray)(id:Nat)(n:Int):Prop:=∃(i:Nat) (h:i<l.length),l[i].flow=f/\∃t∈l[i].s.tasks,t.id=id/\t.n+1=n/\t.fl=false/\t.at'<=now
def GK (now:Nat)(l:List HM)(f:ByteArray)(id:Nat):Prop:=∃(i:Nat) (h:i<l.length),l[i].flow=f/\∃t∈l[i].s.timers,t.1=id/\t.2<=now
theorem mem_tput {l:List TK}{t u:TK}(hu:u∈l)(hne:u.id≠t.id):u∈DV l t:=List.mem_map.2 ⟨u,hu,by rw[if_neg hne]⟩
theorem LC {l:List TK}{t u:TK}(hu:u∈DV l t)(hfl:u.fl≠t.fl):u∈l/\u.id≠t.id:=by
 unfold DV at hu
 obtain⟨y,hy,e⟩:=List.mem_map.1 hu
 by_cases q:y.id=t.id
 ·rw[if_pos q] at e;subst e;exact absurd rfl hfl
 ·rw[if_neg q] at e;subst e;exact⟨hy,q⟩
section
variable {now : Nat} {l : List HM} {i : Nat} (hl : i < l.length) {t : TK} {bs : List Cn.BT}
theorem JS (hap:l.Pairwise fun a b=>a.flow≠b.flow){n':Int}{a':Nat}{f:ByteArray}{id:Nat}{n:Int}(h:OP now l f id n)(hne:¬(f=l[i].flow/\id=t.id)) :
  OP now (l.set i ⟨l[i].flow,bs,{l[i].s with tasks:=DV l[i].s.tasks {t with n:=n',at':=a',fl:=true}}⟩) f id n:=by
 obtain⟨j,hj,hf,u,hu,h1,h2,h3,h4⟩:=h
 refine⟨j,by simpa using hj,?_⟩
 by_cases q:i=j
 ·subst q
  rw[List.getElem_set_self]
  exact⟨hf,u,mem_tput hu (fun e=>hne ⟨hf.symm,by rw[<-h1];exact e⟩),h1,h2,h3,h4⟩
 ·rw [List.getElem_set_ne q]
  exact⟨hf,u,hu,h1,h2,h3,h4⟩
theorem M143 (h:p:=by
 have hp:=List.pairwise_iff_getElem.1 hap
 rcases Nat.lt_or_gt_of_ne q with a|a
 ·exact hp i j hl hj2 a (by rw[<-e.1,hf])
 ·exact hp j i hj2 hl a (by rw[hf,e.1])):p:=h
theorem Nn (hap : l.Pairwise fun a b => a.flow ≠ b.flow) {n' : Int} {a' : Nat} {f : ByteArray} {id : Nat} {n : Int}
  (h:OP now (l.set i ⟨l[i].flow,bs,{l[i].s with tasks:=DV l[i].s.tasks {t with n:=n',at':=a',fl:=true}}⟩) f id n):OP now l f id n/\¬(f=l[i].flow/\id=t.id):=by
 obtain⟨j,hj,hf,u,hu,h1,h2,h3,h4⟩:=h
 have hj2:j<l.length:=by simpa using hj
 by_cases q:i=j
 ·subst q
  rw[List.getElem_set_self] at hf hu
  obtain⟨m1,m2⟩:=LC hu (by rw[h3];simp)
  exact⟨⟨i,hj2,hf,u,m1,h1,h2,h3,h4⟩,fun e=>m2 (by rw[h1];exact e.2)⟩
 ·rw [List.getElem_set_ne q] at hf hu
  refine⟨⟨j,hj2,hf,u,hu,h1,h2,h3,h4⟩,fun e=> ?_⟩
  exact M143
theorem NQ {T':List TK}{f:ByteArray}{id d:Nat}(h:GK now l f id)(hne:¬(f=l[i].flow/\id=d)) :
  GK now (l.set i ⟨l[i].flow,bs,{l[i].s with timers:=GF l[i].s.timers d}⟩) f id:=by
 obtain⟨j,hj,hf,u,hu,h1,h2⟩:=h
 refine⟨j,by simpa using hj,?_⟩
 by_cases q:i=j
 ·subst q
  rw[List.getElem_set_self]
  exact⟨hf,u,List.mem_filter.2 ⟨hu,decide_eq_true (fun e=>hne ⟨hf.symm,by rw[<-h1];exact e⟩)⟩,h1,h2⟩
 ·rw [List.getElem_set_ne q]
  exact⟨hf,u,hu,h1,h2⟩
theorem due_back (hap:l.Pairwise fun a b=>a.flow≠b.flow){f:ByteArray}{id d:Nat}(h:GK now (l.set i ⟨l[i].flow,bs,{l[i].s with timers:=GF l[i].s.timers d}⟩) f id):GK now l f id/\¬(f=l[i].flow/\id=d):=by
 obtain⟨j,hj,hf,u,hu,h1,h2⟩:=h
 have hj2:j<l.length:=by simpa using hj
 by_cases q:i=j
 ·subst q
  rw[List.getElem_set_self] at hf hu
  obtain⟨m1,m2⟩:=List.mem_filter.1 hu
  exact⟨⟨i,hj2,hf,u,m1,h1,h2⟩,fun e=>(of_decide_eq_true m2) (by rw[h1];exact e.2)⟩
 ·rw [List.getElem_set_ne q] at hf hu
  refine⟨⟨j,hj2,hf,u,hu,h1,h2⟩,fun e=> ?_⟩
  exact M143
end
theorem SH {now:Nat}{x:XM}(h:∀f id n,¬OP now x.flows f id n):DP false now x= []:=by
 have:x.flows.flatMap (refsOf false now)= []:=by
  rw[List.flatMap_eq_nil_iff]
  intro g hg
  rw[List.eq_nil_iff_forall_not_mem]
  intro r hr
  obtain⟨h1,t,ht,h2,h3,h4,h5,h6⟩:=Ox hr
  obtain⟨i,hi,e⟩:=List.getElem_of_mem hg
  subst e
  exact h _ t.id (t.n+1) ⟨i,hi,rfl,t,ht,rfl,rfl,h4,h5⟩
 unfold DP;rw[this];rfl
theorem NT {now:Nat}{x:XM}(h:∀f id,¬GK now x.flows f id):Pc now x= []:=by
 have:x.flows.flatMap (DX now)= []:=by
  rw[List.flatMap_eq_nil_iff]
  intro g hg
  rw[List.eq_nil_iff_forall_not_mem]
  intro r hr
  obtain⟨h1,h2,h3,h4⟩:=Pt hr
  obtain⟨i,hi,e⟩:=List.getElem_of_mem hg
  subst e
  exact h _ r.id ⟨i,hi,rfl,_,h3,rfl,h4⟩
 unfold Pc;rw[this];rfl
open Hi (Gw BIn)
def PW (now:Nat)(r:RF):BT:=⟨r.flow,now,[Vb r.id r.n now]⟩
def Oq (now:Nat)(r:RF):BT:=⟨r.flow,now,[Py r.id]⟩
theorem Vz : zeroT.Slim 900:=Vt.Pk.2 ⟨O1,O3,fun i hi=>by simp at hi⟩
theorem Ln (now : Nat) (r : RF) : BIn (PW now r) := ⟨by simp [PW], fun i h => by
 have:i=0:=by simpa[PW] using h
 subst this;exact Vz⟩
theorem Jb (now : Nat) (r : RF) : BIn (Oq now r) := ⟨by simp [Oq], fun i h => by
 have:i=0:=by simpa[Oq] using h
 subst this;exact Vz⟩
def PS (now:Nat)(l:List HM):Nat:=(l.flatMap (refsOf true now)).length
theorem Li {p : TK -> Bool} : ∀ (l : List TK) (t t' : TK), l.Pairwise (fun a b => a.id < b.id) -> t ∈ l -> t'.id = t.id -> p t = false -> p t' = true -> ((DV l t').filter p).length = (l.filter p).length + 1
 | [],t,t',_,h,_,_,_=>by simp at h
 | a::r,t,t',hp,h,he,hf,ht=>by
  obtain⟨h1,h2⟩:=List.pairwise_cons.1 hp
  have hkeep:∀(s:List TK),(∀b∈s,b.id≠t'.id)->DV s t'=s:=fun s hs=>by
   unfold DV
   refine(List.map_congr_left fun x hx=> ?_).trans (List.map_id s)
   rw[if_neg (hs x hx)];rfl
  rcases List.mem_cons.1 h with e|e
  ·subst e
   have hr:DV r t'=r:=hkeep r fun b hb=>by have:=h1 b hb;omega
   have e2:DV (t::r) t'=t'::DV r t':=by unfold DV;rw[List.map_cons,if_pos he.symm]
   rw[e2,hr,List.filter_cons_of_pos ht,List.filter_cons_of_neg (by simp[hf])];rfl
  ·have hne : a.id ≠ t'.id := by have := h1 t e; omega
   have e2:DV (a::r) t'=a::DV r t':=by unfold DV;rw[List.map_cons,if_neg hne]
   have ih:=Li r t t' h2 e he hf ht
   rw[e2]
   cases hpa:p a with
   | true=>rw[List.filter_cons_of_pos hpa,List.filter_cons_of_pos hpa,List.length_cons,List.length_cons,ih]
   | false=>rw[List.filter_cons_of_neg (by simp[hpa]),List.filter_cons_of_neg (by simp[hpa]),ih]
theorem Lh (now : Nat) : ∀ (l : List HM) (i : Nat) (hi : i < l.length) (h' : HM), (refsOf true now h').length = (refsOf true now l[i]).length + 1 -> PS now (l.set i h') = PS now l + 1
 | a::r,0,hi,h',e=>by
  unfold PS
  simp only[List.set_cons_zero,List.flatMap_cons,List.length_append,e,List.getElem_cons_zero];omega
 | a::r,i+1,hi,h',e=>by
  have ih:=Lh now r i (by simpa using hi) h' (by simpa using e)
  unfold PS at ih ⊢
  simp only[List.set_cons_succ,List.flatMap_cons,List.length_append,ih];omega
structure Kz (now T N : Nat) (refs : List RF) (c0 j : Nat) (x : XM) : Prop where
 good:XGood x (T+j) (N+j)
 inv:Vn x
 clk:x.clock<=now
 few:x.flows.length<=60
 rest:∀r∈refs.drop j,OP now x.flows r.flow r.id r.n
 all:∀f id n,OP now x.flows f id n->∃r∈refs.drop j,r.flow=f/\r.id=id
 cnt:PS now x.flows=c0+j
theorem M157 (h:p:=by
 rw[hdrop] at hr
 rcases List.mem_cons.1 hr with q|q
 ·subst q;exact absurd ⟨by rw[<-r1,hf],by rw[<-r2,e1]⟩ o2
 ·exact⟨r,q,r1,r2⟩):p:=h
theorem Nh {now T N c0 j:Nat}{refs:List RF}{x:XM}(h:Kz now T N refs c0 j x)(hn:now<=9223372036854775807)(hN:N+j<=1000000000)(hd:refs.Pairwise fun a b=>¬(a.flow=b.flow/\a.id=b.id))(hj:j<refs.length) :
  (Dy x (PW now refs[j])).1=0/\Kz now T N refs c0 (j+1) (Dy x (PW now refs[j])).2/\(∀f id,GK now x.flows f id↔GK now (Dy x (PW now refs[j])).2.flows f id):=by
 have hdrop:refs.drop j=refs[j]::refs.drop (j+1):=List.drop_eq_getElem_cons hj
 obtain⟨i,hi,hf,t,ht,e1,e2,e3,e4⟩:=h.rest refs[j] (by rw[hdrop];exact List.mem_cons_self)
 have hfit:=fit_task h.good hN h.inv h.clk hn hi ht e3 e4
 have hb:(⟨x.flows[i].flow,now,[Vb t.id (t.n+1) now]⟩:BT)=PW now refs[j]:=by unfold PW;rw[hf,e1,e2]
 rw[hb] at hfit
 have hg:=Gw h.good (PW now refs[j]) (Ln _ _)
 have hx:=Uc h.good h.inv (PW now refs[j])
 have hap:=h.good.apart
 have hd2:=hd.sublist (List.drop_sublist j refs)
 rw[hdrop] at hd2
 have hd3:=(List.pairwise_cons.1 hd2).1
 rw[hfit] at hg hx ⊢
 have hfine:=(h.good.good _ (List.getElem_mem hi)).fine.fine
 refine⟨rfl,⟨hg,hx,?_,by simpa using h.few,?_,?_,?_⟩,?_⟩
 ·show Hi.Fq (x.all ++ [PW now refs[j]]) <= now
  rw[Fo];exact Nat.max_le.2 ⟨h.clk,Nat.le_refl _⟩
 ·intro r hr
  refine JS hi hap (h.rest r (by rw[hdrop];exact List.mem_cons_of_mem _ hr)) fun q=> ?_
  exact hd3 r hr ⟨by rw[q.1,hf],by rw[q.2,e1]⟩
 ·intro f id n ho
  obtain⟨o1,o2⟩:=Nn hi hap ho
  obtain⟨r,hr,r1,r2⟩:=h.all f id n o1
  exact M157
 ·show PS now (x.flows.set i _) = c0 + (j + 1)
  rw[Lh now x.flows i hi _ ?_,h.cnt]
  ·omega
  ·unfold refsOf
   rw[List.length_map,List.length_map]
   exact Li _ t _ hfine.tasks ht rfl (by simp[e3]) O3
 ·intro f id
  constructor
  ·rintro ⟨k, hk, h1, u, hu, h2, h3⟩
   refine⟨k,by simpa using hk,?_⟩
   by_cases q:i=k
   ·subst q
    simp only[List.getElem_set_self]
    exact⟨h1,u,hu,h2,h3⟩
   ·simp only [List.getElem_set_ne q]
    exact⟨h1,u,hu,h2,h3⟩
  ·rintro ⟨k, hk, h1, u, hu, h2, h3⟩
   refine⟨k,by simpa using hk,?_⟩
   by_cases q:i=k
   ·subst q
    simp only[List.getElem_set_self] at h1 hu
    exact⟨h1,u,hu,h2,h3⟩
   ·simp only [List.getElem_set_ne q] at h1 hu
    exact⟨h1,u,hu,h2,h3⟩
theorem Ob {x:XM}{T N:Nat}(g:XGood x T N)(hT:T<=1000000000000000000){h:HM}(hh:h∈x.flows):(∀t∈h.s.tasks,t.id<18446744073709551616)/\∀t∈h.s.timers,t.1<18446744073709551616:=by
 have hg:=g.good h hh
 have h1:=hg.fine.next
 have h2:=hg.tot
 exact⟨fun t ht=>by have:=hg.fine.fine.below t ht;omega,fun t ht=>by have:=hg.fine.fine.belowT t ht;omega⟩
theorem Po {x:XM}{T N:Nat}(g:XGood x T N)(hT:T<=1000000000000000000)(fl:Bool)(now:Nat) :
  (x.flows.flatMap (refsOf fl now)).Pairwise (fun a b=>kfX x a<kfX x b)/\∀r∈x.flows.flatMap (refsOf fl now),kfX x r<x.flows.length*18446744073709551616:=
 VI g _ fun h hh=>⟨fun r hr=>by
  obtain⟨h1,t,ht,h2,-⟩:=Ox hr
  exact⟨h1,by rw[h2];exact(Ob g hT hh).1 t ht⟩,by
  unfold refsOf
  exact List.pairwise_map.2 (((g.good h hh).fine.fine.tasks).sublist (List.filter_sublist ..))⟩
theorem Sc {x:XM}{T N:Nat}(g:XGood x T N)(hT:T<=1000000000000000000)(now:Nat) :
  (x.flows.flatMap (DX now)).Pairwise (fun a b=>kfX x a<kfX x b)/\∀r∈x.flows.flatMap (DX now),kfX x r<x.flows.length*18446744073709551616:=
 VI g _ fun h hh=>⟨fun r hr=>by
  obtain⟨h1,h2,ht,-⟩:=Pt hr
  exact⟨h1,(Ob g hT hh).2 _ ht⟩,by
  unfold DX
  exact List.pairwise_map.2 (((g.good h hh).fine.fine.timers).sublist (List.filter_sublist ..))⟩
theorem UX {x:XM}{l:List RF}(h:l.Pairwise fun a b=>kfX x a<kfX x b)(hK:∀r∈l,kfX x r<x.flows.length*18446744073709551616):(DN l).Pairwise fun a b=>¬(a.flow=b.flow/\a.id=b.id):=by
 have h1:l.Pairwise fun a b=>¬(a.flow=b.flow/\a.id=b.id):=h.imp fun {a b} q e=>by
  unfold kfX at q;rw[e.1,e.2] at q;omega
 exact(FE l hK h).1.pairwise h1 fun q e=>q ⟨e.1.symm,e.2.symm⟩
theorem JL {x:XM}{now:Nat}{r:RF}(hr:r∈DP false now x):OP now x.flows r.flow r.id r.n:=by
 obtain⟨h,hh,hm⟩:=List.mem_flatMap.1 ((OD _ _).1 hr)
 obtain⟨h1,t,ht,h2,h3,h4,h5,h6⟩:=Ox hm
 obtain⟨i,hi,e⟩:=List.getElem_of_mem hh
 subst e
 exact⟨i,hi,h1.symm,t,ht,h2.symm,by rw[h6];simp,h4,h5⟩
theorem JR {x:XM}{now:Nat}{f:ByteArray}{id:Nat}{n:Int}(h:OP now x.flows f id n):∃r∈DP false now x,r.flow=f/\r.id=id:=by
 obtain⟨i,hi,hf,t,ht,h1,h2,h3,h4⟩:=h
 refine⟨⟨x.flows[i].flow,t.id,t.n+1,t.at'⟩,(OD _ _).2 (List.mem_flatMap.2 ⟨_,List.getElem_mem hi,List.mem_map.2 ⟨t,List.mem_filter.2 ⟨ht,decide_eq_true ⟨h3,h4⟩⟩,O3⟩⟩),hf,h1⟩
theorem due_open {x:XM}{now:Nat}{r:RF}(hr:r∈Pc now x):GK now x.flows r.flow r.id:=by
 obtain⟨h,hh,hm⟩:=List.mem_flatMap.1 ((OD _ _).1 hr)
 obtain⟨h1,h2,h3,h4⟩:=Pt hm
 obtain⟨i,hi,e⟩:=List.getElem_of_mem hh
 subst e
 exact⟨i,hi,h1.symm,_,h3,rfl,h4⟩
theorem open_due {x:XM}{now:Nat}{f:ByteArray}{id:Nat}(h:GK now x.flows f id):∃r∈Pc now x,r.flow=f/\r.id=id:=by
 obtain⟨i,hi,hf,t,ht,h1,h2⟩:=h
 exact⟨⟨x.flows[i].flow,t.1,0,t.2⟩,(OD _ _).2 (List.mem_flatMap.2 ⟨_,List.getElem_mem hi,List.mem_map.2 ⟨t,List.mem_filter.2 ⟨ht,decide_eq_true h2⟩,rfl⟩⟩),hf,h1⟩
theorem JI {x:XM}{T N now:Nat}(g:XGood x T N)(hi:Vn x)(hclk:x.clock<=now)(hf:x.flows.length<=60):Kz now T N (DP false now x) (PS now x.flows) 0 x:=
 ⟨g,hi,hclk,hf,fun r hr=>JL hr,fun f id n h=>JR h,rfl⟩
theorem rinv_end {x:XM}{T N now c0 j:Nat}{refs:List RF}(h:Kz now T N refs c0 j x)(hj:refs.length<=j):(∀f id n,¬OP now x.flows f id n)/\DP false now x= []:=by
 have hno:∀f id n,¬OP now x.flows f id n:=fun f id n o=>by
  obtain⟨r,hr,-⟩:=h.all f id n o
  rw[List.drop_eq_nil_of_le hj] at hr
  simp at hr
 exact⟨hno,SH hno⟩
structure Rr (now T N : Nat) (refs : List RF) (c0 j : Nat) (x : XM) : Prop where
 good:XGood x (T+j) (N+j)
 inv:Vn x
 clk:x.clock<=now
 few:x.flows.length<=60
 none:∀f id n,¬OP now x.flows f id n
 rest:∀r∈refs.drop j,GK now x.flows r.flow r.id
 all:∀f id,GK now x.flows f id->∃r∈refs.drop j,r.flow=f/\r.id=id
 cnt:PS now x.flows=c0
theorem YV (now : Nat) : ∀ (l : List HM) (i : Nat) (hi : i < l.length) (h' : HM), (refsOf true now h').length = (refsOf true now l[i]).length -> PS now (l.set i h') = PS now l
 | a::r,0,hi,h',e=>by
  unfold PS
  simp only[List.set_cons_zero,List.flatMap_cons,List.length_append,e,List.getElem_cons_zero]
 | a::r,i+1,hi,h',e=>by
  have ih:=YV now r i (by simpa using hi) h' (by simpa using e)
  unfold PS at ih ⊢
  simp only[List.set_cons_succ,List.flatMap_cons,List.length_append,ih]
theorem NV {now T N c0 j:Nat}{refs:List RF}{x:XM}(h:Rr now T N refs c0 j x)(hn:now<=9223372036854775807)(hd:refs.Pairwise fun a b=>¬(a.flow=b.flow/\a.id=b.id))(hj:j<refs.length) :
  (Dy x (Oq now refs[j])).1=0/\Rr now T N refs c0 (j+1) (Dy x (Oq now refs[j])).2:=by
 have hdrop:refs.drop j=refs[j]::refs.drop (j+1):=List.drop_eq_getElem_cons hj
 obtain⟨i,hi,hf,t,ht,e1,e2⟩:=h.rest refs[j] (by rw[hdrop];exact List.mem_cons_self)
 have hfit:=NI h.good h.inv h.clk hn hi ht e2
 have hb:(⟨x.flows[i].flow,now,[Py t.1]⟩:BT)=Oq now refs[j]:=by unfold Oq;rw[hf,e1]
 rw[hb] at hfit
 have hg:=Gw h.good (Oq now refs[j]) (Jb _ _)
 have hx:=Uc h.good h.inv (Oq now refs[j])
 have hap:=h.good.apart
 have hd2:=hd.sublist (List.drop_sublist j refs)
 rw[hdrop] at hd2
 have hd3:=(List.pairwise_cons.1 hd2).1
 rw[hfit] at hg hx ⊢
 refine⟨rfl,⟨hg,hx,?_,by simpa using h.few,?_,?_,?_,?_⟩⟩
 ·show Hi.Fq (x.all ++ [Oq now refs[j]]) <= now
  rw[Fo];exact Nat.max_le.2 ⟨h.clk,Nat.le_refl _⟩
 ·rintro f id n ⟨k, hk, h1, u, hu, h2⟩
  refine h.none f id n ⟨k,by simpa using hk,?_⟩
  by_cases q:i=k
  ·subst q
   simp only[List.getElem_set_self] at h1 hu
   exact⟨h1,u,hu,h2⟩
  ·simp only [List.getElem_set_ne q] at h1 hu
   exact⟨h1,u,hu,h2⟩
 ·intro r hr
  refine NQ hi (T':=[]) (h.rest r (by rw[hdrop];exact List.mem_cons_of_mem _ hr)) fun q=> ?_
  exact hd3 r hr ⟨by rw[q.1,hf],by rw[q.2,e1]⟩
 ·intro f id ho
  obtain⟨o1,o2⟩:=due_back hi hap ho
  obtain⟨r,hr,r1,r2⟩:=h.all f id o1
  exact M157
 ·show PS now (x.flows.set i _) = c0
  rw[YV now x.flows i hi _ (by unfold refsOf;rfl),h.cnt]
theorem dinv_end {x:XM}{T N now c0 j:Nat}{refs:List RF}(h:Rr now T N refs c0 j x)(hj:refs.length<=j):DP false now x= []/\Pc now x= []/\(DP true now x).length=c0:=by
 refine⟨SH h.none,NT fun f id o=> ?_,?_⟩
 ·obtain ⟨r, hr, -⟩ := h.all f id o
  rw[List.drop_eq_nil_of_le hj] at hr
  simp at hr
 ·unfold DP;rw[FF];exact h.cnt
def Xo : Nat:=9223372036854775807
structure XD (s : ST) : Prop where
 tasks:∀t∈s.tasks,t.at'<=Xo
 timers:∀t∈s.timers,t.2<=Xo
theorem valid_at {e:EV}(h:e.valid=true):e.at'<=Xo:=by
 unfold EV.valid Ev.GR at h
 simp only[Bool.and_eq_true,List.all_cons] at h
 have h3:=h.2.2.2.1
 unfold Ev.DB at h3
 unfold Xo
 split at h3
 ·exact of_decide_eq_true h3
 ·have : (e.at' : Int) = 0 := by simpa using h3
  omega
theorem Kx {now:Nat}{alone:Bool}{e:EV}{s s':ST}(hn:now<=Xo)(he:e.at'<=Xo)(hi:XD s)(h:Dc now alone e s=some s'):XD s':=by
 have hput:∀t:TK,t.at'<=Xo->XD {s with tasks:=DV s.tasks t}:=fun t ht=>⟨fun x hx=>by
  rcases Ug hx with ⟨q,-⟩|q
  ·rw[q];exact ht
  ·exact hi.tasks x q,hi.timers⟩
 unfold Dc at h
 split at h
 ·split at h
  ·split at h
   ·cases h;exact hput _ he
   ·cases h
  ·cases h
 ·split at h
  ·split at h
   ·split at h
    ·split at h
     ·cases h;exact⟨fun x hx=>hi.tasks x (List.mem_filter.1 hx).1,hi.timers⟩
     ·split at h
      ·cases h;exact hput _ he
      ·cases h
    ·cases h
   ·cases h
  ·split at h
   ·split at h
    ·split at h
     ·cases h
      exact⟨hi.tasks,fun x hx=>hi.timers x (List.mem_filter.1 hx).1⟩
     ·cases h
    ·cases h
   ·split at h
    ·split at h
     ·cases h
     ·cases h;exact⟨hi.tasks,hi.timers⟩
    ·split at h
     ·split at h
      ·cases h
       refine⟨fun x hx=> ?_,hi.timers⟩
       rcases List.mem_append.1 hx with q|q
       ·exact hi.tasks x q
       ·rw[List.mem_singleton.1 q];exact hn
      ·cases h
     ·split at h
      ·split at h
       ·cases h
        refine⟨hi.tasks,fun x hx=> ?_⟩
        rcases List.mem_append.1 hx with q|q
        ·exact hi.timers x q
        ·rw[List.mem_singleton.1 q];exact he
       ·cases h
      ·split at h
       ·split at h
        ·cases h;exact⟨fun t h=>by simp at h,fun t h=>by simp at h⟩
        ·cases h
       ·cases h;exact hi
theorem VF {now : Nat} (hn : now <= Xo) : ∀ (es : List EV) (first : Bool) (s s' : ST), (∀ e ∈ es, e.at' <= Xo) -> XD s -> runM now es first s = some s' -> XD s'
 | [],_,s,s',_,hi,h=>by cases h;exact hi
 | e :: r, first, s, s', he, hi, h => by
  unfold runM at h
  split at h
  ·cases ha:Dc now r.isEmpty e s with
   | none=>rw[ha] at h;cases h
   | some s1=>
    rw[ha] at h
    exact VF hn r false s1 s' (fun e2 h2=>he e2 (List.mem_cons_of_mem _ h2)) (Kx hn (he e List.mem_cons_self) hi ha) h
  ·cases h
theorem Jg {h:HM}(hi:XD h.s)(b:BT):XD (Dt h b).2.s:=by
 by_cases hc:(Dt h b).1=0
 ·unfold Dt at hc ⊢
  split at hc
  ·exact absurd (show (2:Int)=0 from hc) O1
  ·rename_i q1
   rw[if_neg q1]
   split at hc
   ·exact absurd (show (6:Int)=0 from hc) O1
   ·rename_i q2
    rw[if_neg q2]
    split at hc
    ·exact absurd (show (8:Int)=0 from hc) O1
    ·rename_i q3
     rw[if_neg q3]
     split at hc
     ·exact absurd (show (12:Int)=0 from hc) O1
     ·rename_i q4
      rw[if_neg q4]
      cases hr:runM b.at' b.es true h.s with
      | none=>rw[hr] at hc;exact absurd (show (12:Int)=0 from hc) O1
      | some s'=>
       have hb:bOk b=true:=by simpa using q1
       unfold bOk at hb
       simp only[Bool.and_eq_true,decide_eq_true_eq,Bool.not_eq_true'] at hb
       refine VF hb.1.1 _ _ _ _ (fun e he=>valid_at ?_) hi hr
       have:=List.any_eq_false.1 hb.2 e he
       simpa using this
 ·rw[Hi.Pd hc];exact hi
def VS (x:XM):Prop:=∀h∈x.flows,XD h.s
theorem Ly : VS XM.new:=fun h hh=>by simp[XM.new] at hh
theorem Lz {x:XM}(hi:VS x)(b:BT):VS (Dy x b).2:=by
 by_cases hc:(Dy x b).1=0
 ·have hs0:XD (DF x b.flow).s:=by
   unfold DF
   cases hf:Dr x.flows b.flow with
   | none=>exact⟨fun t h=>by simp[HM.new] at h,fun t h=>by simp[HM.new] at h⟩
   | some i=>
    obtain⟨hi2,h1,-⟩:=DI hf
    simp only[List.getD_eq_getElem?_getD,List.getElem?_eq_getElem hi2,Option.getD_some]
    exact hi _ (List.getElem_mem hi2)
  intro h hh
  have e:=Lq hc
  cases hf:Dr x.flows b.flow with
  | none=>
   rw[hf] at e
   rw[e] at hh
   rcases List.mem_append.1 hh with q|q
   ·exact hi h q
   ·rw[List.mem_singleton.1 q];exact Jg hs0 b
  | some i=>
   rw[hf] at e
   rw[e] at hh
   rcases List.mem_or_eq_of_mem_set hh with q|q
   ·exact hi h q
   ·rw[q];exact Jg hs0 b
 ·rw[Hi.FU hc];exact hi
end Ta
end Go.Proofs.YtaahfiopdoinkaaGreat
