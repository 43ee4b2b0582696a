/- Contract of the reference's Same of two trees. -/
import Derived.Test.YtaahfiopdoinkaaGreatTwad
import Derived.Test.YtaahfiopdoinkaaGreatTwaf
import Derived.StillTailTactics
import Derived.Deep.RegionHeld3
import Derived.Deep.Cut
import Derived.Deep.CutRange
import Derived.Laws.OwnMore
import Derived.Deep.RegionLaw
import Derived.Deep.AppendLies
import Derived.Deep.RegionWith
import Derived.Laws.EntriesVeiled
set_option maxRecDepth 100000
set_option maxHeartbeats 4000000
variable {p : Prop}
set_option linter.unusedVariables false
set_option linter.unusedSimpArgs false
open Go.RowKit
namespace Go.Proofs.YtaahfiopdoinkaaGreat
namespace Vt
open Nm (Di Dk De)
theorem loop_eq (s:ByteArray):∀(k i:Nat) (r:List UInt8),s.size-i=k->ByteArray.toList.loop s i r=r.reverse++s.data.toList.drop i:=by
 intro k
 induction k with
 | zero=>
  intro i r h;rw[ByteArray.toList.loop,if_neg (by omega)]
  rw[List.drop_eq_nil_of_le (by have:s.data.toList.length=s.size:=rfl;omega)];simp
 | succ k ih=>
  intro i r h;rw[ByteArray.toList.loop,if_pos (by omega),ih _ _ (by omega)]
  have hl:i<s.data.toList.length:=by have:s.data.toList.length=s.size:=rfl;omega
  rw[List.drop_eq_getElem_cons hl]
  have:s.get! i=s.data.toList[i]:=by
   cases s with | mk d=>simp only[ByteArray.get!];rw[getElem!_pos d i (by simpa using hl)];simp
  simp[this]
theorem toList_data (s:ByteArray):s.toList=s.data.toList:=by
 unfold ByteArray.toList;rw[loop_eq s _ 0 [] rfl];simp
theorem toList_inj (s s':ByteArray):s.toList=s'.toList↔s=s':=by
 rw[toList_data,toList_data]
 constructor
 ·intro h
  cases s with | mk a=>cases s' with | mk b=>simp at h;rw[h]
 ·intro h;rw[h]
theorem eqf_any (l l' : List VT) (A A' : Option Addr) (cap cap' : Nat) (hl : l.length <= cap) (hl' : l'.length <= cap') (hc : cap <= maxLen) (hc' : cap' <= maxLen)
  (ih:∀(i:Nat) (hi:i<l.length) (t':VT) (w:World) (lo hi lo' hi':Nat) (v v':Value) (_:Rep w lo hi l[i] v) (_:hi<=w.heap.size) (_:Rep w lo' hi' t' v') (_:hi'<=w.heap.size),
   Calls Tryz.prog 134 #[v,v'] w fun e w'=>e= .returned (.bool (l[i].same t'))/\Below w.heap.size w w')
  (w:World) (lo hi lo' hi':Nat) (hk:KidsAt w lo hi l A) (hz:hi<=w.heap.size) (hk':KidsAt w lo' hi' l' A') (hz':hi'<=w.heap.size) :
  Calls Tryz.prog 166 #[.slice A l.length cap,.slice A' l'.length cap',.func (.func 134) #[] #[]] w fun e w'=>
   e= .returned (.bool (l.length==l'.length&&(l.zip l').all (fun p=>p.1.same p.2)))/\Below w.heap.size w w':=by
 unfold maxLen at hc hc'
 by_cases hll:l.length=l'.length
 ·have IH := Lib.hid ih; have HK := Lib.hid hk; have HK' := Lib.hid hk'; clear ih hk hk'
  obtain⟨m,hm⟩:∃m,m=l'.length:=⟨_,rfl⟩
  rw[<-hm] at hll hl' ⊢
  have HM:=Lib.hid hm;clear hm
  subst hll
  rw[show (l.length==l.length)=true from by simp,Bool.true_and]
  go_enter Tryz.func166,Tryz.ntmps166
  go_wp2_with fail
  go_loopw [6,17] (fun r i wr=>∃(j:Nat),j<=l.length/\i= .int .i64 j/\r= .bool false/\((l.zip l').take j).all (fun p=>p.1.same p.2)=true/\Below w.heap.size w wr) (fun _ i _=>l.length-(intOf i).toNat)
  case atStart=>exact⟨0,by omega,rfl,rfl,rfl,Below.refl _ _⟩
  case round=>
   obtain⟨j,hj,rfl,rfl,hy,hb⟩:=hrel
   have HY:=Lib.hid hy;clear hy
   have hszr:=hb.size
   have HB:=Lib.hid hb;clear hb
   by_cases hlt:j<l.length
   ·obtain ⟨b, off, hA, h1, h2, h3⟩ := (HK.out.later (HB.out.mono hz)).at_ (by omega)
    obtain⟨k1,n1,f1,s1,L1,A1,cap1,e,d0,d1,d2,d3,d4,hr⟩:=h3 j hlt
    subst hA
    have HR:=Lib.hid hr
    clear h3 e hr
    obtain⟨b',off',hA',h1',h2',h3'⟩:=(HK'.out.later (HB.out.mono hz')).at_ (by have:=HM.out;omega)
    obtain⟨k2,n2,f2,s2,L2,A2,cap2,e,g0,g1,g2,g3,g4,hr⟩:=h3' j (by have:=HM.out;omega)
    subst hA'
    have HR':=Lib.hid hr
    clear h3' e hr
    have hbl:b<wr.heap.size:=by omega
    have hbl':b'<wr.heap.size:=by omega
    go_wp2_with fail
    refine(IH.out j hlt _ _ lo hi lo' hi' _ _ ((HR.out.alloc (by omega) _).alloc (by simp;omega) _) (by simp;omega) ((HR'.out.alloc (by omega) _).alloc (by simp;omega) _) (by simp;omega)).mono ?_
    rintro e w1 ⟨rfl,hb1⟩
    have HB1:=Lib.hid (((HB.out.alloc (by omega) _).alloc (by simp;omega) _).trans (hb1.mono (by simp;omega)))
    clear HB HR HR' hb1 d0 d1 d2 d3 d4 g0 g1 g2 g3 g4
    have hzl:j<(l.zip l').length:=by rw[List.length_zip, <-HM.out];simpa using hlt
    have hge:((l.zip l')[j]'hzl).1.same ((l.zip l')[j]'hzl).2=l[j].same (l'[j]'(by have:=HM.out;omega)):=by rw[List.getElem_zip]
    have HGE:=Lib.hid hge;clear hge
    cases hp:l[j].same (l'[j]'(by have:=HM.out;omega)) with
    | true=>
     have HP:=Lib.hid hp;clear hp
     go_wp2_with fail
     go_roundw
     case rel=>exact⟨j+1,by omega,by go_num,rfl,by rw[Gg _ _ _ hzl,HY.out,HGE.out,HP.out];rfl,HB1.out⟩
     case measure=>simp[intOf];omega
    | false=>
     have HP:=Lib.hid hp;clear hp
     go_wp2_with fail
     go_ret
     exact⟨De (by rw[all_false _ _ j hzl (by rw[HGE.out];exact HP.out)]),HB1.out⟩
   ·have hj' : j = l.length := by omega
    have HJ:=Lib.hid hj'
    clear hj'
    go_wp2_with fail
    go_ret
    have hall:(l.zip l').all (fun p=>p.1.same p.2)=true:=by
     have:=HY.out
     rw[HJ.out,List.take_of_length_le (by rw[List.length_zip, <-HM.out];simp)] at this
     exact this
    exact⟨De (by rw[hall]),HB.out⟩
 ·have hb0 : (l.length == l'.length) = false := by simpa using hll
  have hbI:((l.length:Int) != (l'.length:Int))=true:=by simp;omega
  have hx:((l.length==l'.length)&&(l.zip l').all (fun p=>p.1.same p.2))=false:=by rw[hb0];rfl
  rw[hx]
  clear ih hk hk' hll hb0 hx
  generalize l.length=m at *
  generalize l'.length=m' at *
  go_enter Tryz.func166,Tryz.ntmps166
  go_wp2_with fail
  go_ret
  exact⟨rfl,Below.refl _ _⟩
theorem Na (k n : Int) (f : Nat) (s : ByteArray) (A : Option Addr) (m cap : Nat) (k' n' : Int) (f' : Nat) (s' : ByteArray) (A' : Option Addr) (m' cap' : Nat) (hf : f < 18446744073709551616) (hf' : f' < 18446744073709551616)
  (R:Bool) (w:World)
  (he:(k=k'/\n=n'/\Di f=Di f'/\s=s')->∀w1:World,Below w.heap.size w w1->Calls Tryz.prog 166 #[.slice A m cap,.slice A' m' cap',.func (.func 134) #[] #[]] w1 fun e w'=>e= .returned (.bool R)/\Below w1.heap.size w1 w')
  (hn:¬(k=k'/\n=n'/\Di f=Di f'/\s=s')->R=false) :
  Calls Tryz.prog 134 #[.agg #[.int .i64 k,.int .i64 n,.float .f64 f,.string s,.slice A m cap],.agg #[.int .i64 k',.int .i64 n',.float .f64 f',.string s',.slice A' m' cap']] w fun e w'=>
   e= .returned (.bool R)/\Below w.heap.size w w':=by
 have H:=Lib.hid he;have HN:=Lib.hid hn;clear he hn
 have SF:=Nm.Nk f f' hf hf'
 have e1:(Nm.Fo f f'==0)=decide (Di f=Di f'):=by
  rcases Nm.JU f f' hf hf' with ⟨h1,-,h3⟩|⟨h1,-,h3⟩|⟨h1,-,h3⟩
  ·rw[h1];simp at h3;symm;simp;omega
  ·rw[h1];simp at h3;symm;simp;omega
  ·rw[h1];simp at h3;symm;simp;omega
 rw[e1] at SF
 clear e1
 have SF:=Lib.hid SF
 have HB:=Lib.hid ((DC w k n f s A m cap).alloc (by simp) (.cells #[.int .i64 k',.int .i64 n',.float .f64 f',.string s',.slice A' m' cap'] 34))
 by_cases hh:k=k'/\n=n'/\Di f=Di f'/\s=s'
 ·obtain ⟨rfl, rfl, q, rfl⟩ := hh
  have E:=Lib.hid (H.out ⟨rfl,rfl,q,rfl⟩)
  rw[show decide (Di f=Di f')=true from by simpa using q] at SF
  clear q H HN
  go_enter Tryz.func134,Tryz.ntmps134
  go_wp2_with (go_at_call 165;refine(SF.out _).mono ?_;rintro e w' ⟨rfl,rfl⟩)
  refine(E.out _ HB.out).mono ?_
  rintro e w1 ⟨rfl,hb1⟩
  have HB1:=Lib.hid (HB.out.trans (hb1.mono (by simp;omega)))
  clear hb1
  go_wp2_with fail
  go_ret
  exact⟨rfl,HB1.out⟩
 ·have HR := Lib.hid (HN.out hh)
  have HH:=Lib.hid hh
  clear H HN hh
  rw[HR.out]
  go_enter Tryz.func134,Tryz.ntmps134
  go_wp2_with (go_at_call 165;refine(SF.out _).mono ?_;rintro e w' ⟨rfl,rfl⟩)
  all_goals first
   | (go_ret;exact⟨rfl,((Below.refl _ _).alloc (Nat.le_refl _) _).alloc (by simp) _⟩)
   | (exfalso
      refine HH.out ⟨?_,?_,?_,?_⟩
      all_goals clear HH SF HR HB
      all_goals first
       | assumption
       | exact(toList_inj s s').1 (by assumption)
       | omega)
theorem same_any (t:VT):∀(t':VT) (w:World) (lo hi lo' hi':Nat) (v v':Value) (_:Rep w lo hi t v) (_:hi<=w.heap.size) (_:Rep w lo' hi' t' v') (_:hi'<=w.heap.size),
  Calls Tryz.prog 134 #[v,v'] w fun e w'=>e= .returned (.bool (t.same t'))/\Below w.heap.size w w':=by
 induction t using VT.ind with
 | _ k n f s l ih=>
  intro t' w lo hi lo' hi' v v' hR hz hR' hz'
  obtain⟨k',n',f',s',l'⟩:=t'
  obtain⟨A,cap,rfl,ho,hl,hk⟩:=hR.head
  obtain⟨A',cap',rfl,ho',hl',hk'⟩:=hR'.head
  refine Na k n f s A l.length cap k' n' f' s' A' l'.length cap' ho.f1 ho'.f1 _ w ?_ ?_
  ·rintro ⟨rfl, rfl, q, rfl⟩ w1 hb
   refine(eqf_any l l' A A' cap cap' hl hl' ho.m1 ho'.m1 ih w1 lo hi lo' hi' (hk.later (hb.mono hz)) (Nat.le_trans hz hb.size) (hk'.later (hb.mono hz')) (Nat.le_trans hz' hb.size)).mono fun e w' h=>⟨?_,h.2⟩
   rw[h.1,KY,q]
   simp
  ·intro h
   rw[Bool.eq_false_iff]
   intro q
   obtain⟨a,b,c,d,e,-⟩:=(OW ..).1 q
   exact h ⟨a,b,d,c⟩
end Vt
namespace Ev
open Nm (Dk De)
open Vt (VT Rep BoxAt Da)
structure EV where mk ::
 k:Int
 id:Nat
 n:Int
 at':Nat
 name:ByteArray
 text:ByteArray
 v:VT
structure Dj (e : EV) : Prop where
 k0 : -9223372036854775808<=e.k
 k1:e.k<=9223372036854775807
 i1:e.id<18446744073709551616
 n0 : -9223372036854775808<=e.n
 n1:e.n<=9223372036854775807
 a1:e.at'<18446744073709551616
 s1:e.name.size<=maxLen
 t1:e.text.size<=maxLen
def Db (e:EV)(vk vn:Int)(vf:Nat)(vs:ByteArray)(A:Option Addr)(m c:Nat):Array Value:=
 #[.int .i64 e.k,.int .u64 e.id,.int .i64 e.n,.int .u64 e.at',.string e.name,.string e.text,.int .i64 vk,.int .i64 vn,.float .f64 vf,.string vs,.slice A m c]
def Dn (vk vn:Int)(vf:Nat)(vs:ByteArray)(A:Option Addr)(m c:Nat):Value:= .agg #[.int .i64 vk,.int .i64 vn,.float .f64 vf,.string vs,.slice A m c]
def SJ (w:World)(lo hi:Nat)(e:EV)(x:Value):Prop:=Dj e/\∃vk vn vf vs A m c,x= .agg (Db e vk vn vf vs A m c)/\Rep w lo hi e.v (Dn vk vn vf vs A m c)
def zeroT : VT:= .mk 0 0 0 ⟨#[]⟩ []
def EBox (w:World)(g:Nat)(cs:Array Value):Prop:=w.heap[g]?=some (.cells cs 61 (0,0))
theorem EBox.cells {w:World}{g:Nat}{a b c d e f h i j k l:Value}(r:EBox w g #[a,b,c,d,e,f,h,i,j,k,l]) :
  w.cell? ⟨g,0,none⟩=some a/\w.cell? ⟨g,1,none⟩=some b/\w.cell? ⟨g,2,none⟩=some c/\w.cell? ⟨g,3,none⟩=some d/\w.cell? ⟨g,4,none⟩=some e/\w.cell? ⟨g,5,none⟩=some f/\w.cell? ⟨g,6,none⟩=some h/\w.cell? ⟨g,7,none⟩=some i/\w.cell? ⟨g,8,none⟩=some j/\w.cell? ⟨g,9,none⟩=some k/\w.cell? ⟨g,10,none⟩=some l:=by
 unfold EBox at r;simp[World.cell?,r]
theorem EBox.later {w w':World}{g B:Nat}{cs:Array Value}(h:EBox w g cs)(hb:Below B w w')(hg:g<B):EBox w' g cs:=(hb.block g hg).trans h
theorem EBox.lt {w:World}{g:Nat}{cs:Array Value}(r:EBox w g cs):g<w.heap.size:=(Array.getElem?_eq_some_iff.1 r).1
def DB (b f z:Bool):Bool:=if b=true then f else z
def OR (e:EV)(b0 b1 b2 b3 b4 b5:Bool):List Bool:=
 [DB b0 (decide (0<e.id)) ((e.id:Int)==0),DB b1 (decide (1<=e.n/\e.n<=2147483647)) (e.n==0),DB b2 (decide (e.at'<=9223372036854775807)) ((e.at':Int)==0),
 DB b3 (!e.name.toList.isEmpty&&decide (e.name.size<=1000)) e.name.toList.isEmpty,DB b4 (decide (e.text.size<=1000)) e.text.toList.isEmpty,DB b5 (e.v.valid 8) (e.v.same zeroT)]
theorem ix0 (x0 x1 x2 x3 x4 x5:Value)(w:World):(Instr.index 182 (.agg #[x0,x1,x2,x3,x4,x5]) (.int .i64 0)).run Tryz.prog w= .ok x0 w:=by kernel_rfl
theorem ix1 (x0 x1 x2 x3 x4 x5:Value)(w:World):(Instr.index 182 (.agg #[x0,x1,x2,x3,x4,x5]) (.int .i64 1)).run Tryz.prog w= .ok x1 w:=by kernel_rfl
theorem ix2 (x0 x1 x2 x3 x4 x5:Value)(w:World):(Instr.index 182 (.agg #[x0,x1,x2,x3,x4,x5]) (.int .i64 2)).run Tryz.prog w= .ok x2 w:=by kernel_rfl
theorem ix3 (x0 x1 x2 x3 x4 x5:Value)(w:World):(Instr.index 182 (.agg #[x0,x1,x2,x3,x4,x5]) (.int .i64 3)).run Tryz.prog w= .ok x3 w:=by kernel_rfl
theorem ix4 (x0 x1 x2 x3 x4 x5:Value)(w:World):(Instr.index 182 (.agg #[x0,x1,x2,x3,x4,x5]) (.int .i64 4)).run Tryz.prog w= .ok x4 w:=by kernel_rfl
theorem ix5 (x0 x1 x2 x3 x4 x5:Value)(w:World):(Instr.index 182 (.agg #[x0,x1,x2,x3,x4,x5]) (.int .i64 5)).run Tryz.prog w= .ok x5 w:=by kernel_rfl
section
variable {P : Program} {ops : Array Oper} {Q : Exit -> Act -> World -> Prop} {md : Region.Mode} {S : World -> Prop}
theorem Jd {i:Nat}{oi:Oper}{rest:List Oper}(hi:ops.toList.drop i=oi::rest):ops[i]?=some oi:=by
 have h:(ops.toList.drop i)[0]?=some oi:=by rw[hi];rfl
 rw[List.getElem?_drop] at h
 simpa using h
theorem take_drop {i : Nat} {oi : Oper} {rest : List Oper} {v : Value} {fuel : Nat} {listed : Array Bool} {a : Act} {w : World} (hi : ops.toList.drop i = oi :: rest)
  (hs:Region.noSelect ops=true) (hf:Region.free md ops listed i=true) (hr:(Region.ready md ops listed).contains i=true)
  (hQ:∀c a w,Q (.panic c) (a.put oi.dst v) w->Q (.panic c) a w) (hy:YieldsIf P ops S oi v a) (hS:S w)
  (h:wpAnyH P md ops Q S fuel (listed.setIfInBounds i true) (a.put oi.dst v) w):wpAnyH P md ops Q S (fuel+1) listed a w:=
 wpAnyH_take (Jd hi) hs hf hr hQ hy hS h
theorem ap : (∀(a:Act) (d:Tmp) (v:Value),a.put (some d) v={a with tmps:=a.tmps.setIfInBounds d v})/\(∀(a:Act) (v:Value),a.put none v=a)/\(∀(l:List Value) (i:Nat) (x:Value),l.toArray.setIfInBounds i x=(l.set i x).toArray)/\(∀(a b:Value) (l:List Value),(a::l).set 0 b=b::l)/\(∀(a b:Value) (l:List Value) (n:Nat),(a::l).set (n+1) b=a::l.set n b):=
 ⟨fun _ _ _=>rfl,fun _ _=>rfl,fun _ _ _=>List.setIfInBounds_toArray ..,fun _ _ _=>rfl,fun _ _ _ _=>rfl⟩
structure TQ (q : Prop) : Prop where out : q
theorem tk (i : Nat) {q : Prop} {oi : Oper} {rest : List Oper} {v : Value} {fuel : Nat} {listed : Array Bool} {a : Act} {w : World} (hi : ops.toList.drop i = oi :: rest) (h : q)
  (hy:YieldsIf P ops S oi v a:=by first | exact Or.inl ⟨by rfl,by intro w hSw;(try dsimp only at hSw);go_simp;try with_reducible rfl⟩|exact Or.inr ⟨by rfl,rfl⟩)
  (hs:Region.noSelect ops=true:=by kernel_rfl) (hf:Region.free md ops listed i=true:=by kernel_rfl) (hr:(Region.ready md ops listed).contains i=true:=by kernel_rfl)
  (hQ:∀c a w,Q (.panic c) (a.put oi.dst v) w->Q (.panic c) a w:=by exact fun _ _ _ h=>h) (hS:S w:=by assumption)
  (hq:TQ q->wpAnyH P md ops Q S fuel (listed.setIfInBounds i true) (a.put oi.dst v) w:=by intro k;(try simp only[ap]);exact k.out):wpAnyH P md ops Q S (fuel+1) listed a w:=take_drop hi hs hf hr hQ hy hS (hq ⟨h⟩)
theorem Dh {fuel : Nat} {listed : Array Bool} {a : Act} {w : World} {i : Nat} {o : Oper} {rest : List Oper} {rs : List Nat} (ho : ops.toList.drop i = o :: rest)
  (h:∀K':Act->World->Prop,Shut (∀a w,S w->(S w->wpAnyH P md ops Q S fuel (listed.setIfInBounds i true) a w)->K' a w)->if Region.wanted o (yielded ops a.tmps)=true then Oper.wp P o a w K' Q else K' (a.put o.dst undef) w)
  (hs:AllReadyH P md ops Q S fuel listed a w rs):AllReadyH P md ops Q S fuel listed a w (i::rs):=AllReadyH.cons (Jd ho) h hs
theorem rd1 (i : Nat) {oi : Oper} {rest : List Oper} {fuel : Nat} {listed : Array Bool} {a : Act} {w : World} (ho : ops.toList.drop i = oi :: rest)
  (h:∀K':Act->World->Prop,Shut (∀a w,S w->(S w->wpAnyH P md ops Q S fuel (listed.setIfInBounds i true) a w)->K' a w)->if Region.wanted oi (yielded ops a.tmps)=true then Oper.wp P oi a w K' Q else K' (a.put oi.dst undef) w)
  (hr:Region.ready md ops listed= [i]:=by kernel_rfl):wpAnyH P md ops Q S (fuel+1) listed a w:=wpAnyH_ready hr (by simp) (Dh ho h AllReadyH.nil)
theorem rd2 (i j : Nat) {oi oj : Oper} {rest rest' : List Oper} {fuel : Nat} {listed : Array Bool} {a : Act} {w : World} (ho : ops.toList.drop i = oi :: rest) (ho' : ops.toList.drop j = oj :: rest')
  (h:∀K':Act->World->Prop,Shut (∀a w,S w->(S w->wpAnyH P md ops Q S fuel (listed.setIfInBounds i true) a w)->K' a w)->if Region.wanted oi (yielded ops a.tmps)=true then Oper.wp P oi a w K' Q else K' (a.put oi.dst undef) w)
  (h':∀K':Act->World->Prop,Shut (∀a w,S w->(S w->wpAnyH P md ops Q S fuel (listed.setIfInBounds j true) a w)->K' a w)->if Region.wanted oj (yielded ops a.tmps)=true then Oper.wp P oj a w K' Q else K' (a.put oj.dst undef) w)
  (hr:Region.ready md ops listed= [i,j]:=by kernel_rfl):wpAnyH P md ops Q S (fuel+1) listed a w:=wpAnyH_ready hr (by simp) (Dh ho h (Dh ho' h' AllReadyH.nil))
end
theorem Ff {w:World}{g:Nat}{t:TypeId}{a b c d e f:Value}(h:w.heap[g]?=some (.cells #[a,b,c,d,e,f] t (0,0))) :
  w.cell? ⟨g,0,none⟩=some a/\w.cell? ⟨g,1,none⟩=some b/\w.cell? ⟨g,2,none⟩=some c/\w.cell? ⟨g,3,none⟩=some d/\w.cell? ⟨g,4,none⟩=some e/\w.cell? ⟨g,5,none⟩=some f/\
   w.frozen? ⟨g,0,none⟩=false/\w.frozen? ⟨g,1,none⟩=false/\w.frozen? ⟨g,2,none⟩=false/\w.frozen? ⟨g,3,none⟩=false/\w.frozen? ⟨g,4,none⟩=false/\w.frozen? ⟨g,5,none⟩=false:=by
 simp[World.cell?,World.frozen?,h]
theorem GQ {w:World}{g:Nat}{t:TypeId}{a b c d e f:Value}(h:w.heap[g]?=some (.cells #[a,b,c,d,e,f] t (0,0)))(a' b' c' d' e' f':Value) :
  ((((((w.setCell ⟨g,0,none⟩ a').setCell ⟨g,1,none⟩ b').setCell ⟨g,2,none⟩ c').setCell ⟨g,3,none⟩ d').setCell ⟨g,4,none⟩ e').setCell ⟨g,5,none⟩ f').heap[g]?=some (.cells #[a',b',c',d',e',f'] t (0,0)):=by
 simp[World.setCell,Array.getElem?_modify,h]
theorem Po {B:Nat}{w w':World}(h:Below B w w')(a b c d e f:Value) :
  Below B w ((((((w'.setCell ⟨B,0,none⟩ a).setCell ⟨B,1,none⟩ b).setCell ⟨B,2,none⟩ c).setCell ⟨B,3,none⟩ d).setCell ⟨B,4,none⟩ e).setCell ⟨B,5,none⟩ f):=
 (((((h.setCell (p:=⟨B,0,none⟩) (Nat.le_refl _) _).setCell (p:=⟨B,1,none⟩) (Nat.le_refl _) _).setCell (p:=⟨B,2,none⟩) (Nat.le_refl _) _).setCell (p:=⟨B,3,none⟩) (Nat.le_refl _) _).setCell (p:=⟨B,4,none⟩) (Nat.le_refl _) _).setCell (p:=⟨B,5,none⟩) (Nat.le_refl _) _
theorem M11 (h:p:=by
 refine wp_region_noPanic ?_
 refine wp_region_held_drew (S:=(fun W'=>W'.cell? ⟨w.heap.size,1,none⟩=some (.int .u64 id)/\W'.cell? ⟨w.heap.size,2,none⟩=some (.int .i64 n)/\W'.cell? ⟨w.heap.size,3,none⟩=some (.int .u64 at')/\W'.cell? ⟨w.heap.size,4,none⟩=some (.string name)/\W'.cell? ⟨w.heap.size,5,none⟩=some (.string text)/\W'.cell? ⟨w.heap.size,6,none⟩=some (.int .i64 vk)/\W'.cell? ⟨w.heap.size,7,none⟩=some (.int .i64 vn)/\W'.cell? ⟨w.heap.size,8,none⟩=some (.float .f64 vf)/\W'.cell? ⟨w.heap.size,9,none⟩=some (.string vs)/\W'.cell? ⟨w.heap.size,10,none⟩=some (.slice A m c))) (by kernel_rfl) ?_ (fun hHeld=> ?_)
 ·exact KD.out
 refine tk 0 rfl ?_
 refine tk 1 rfl ?_
 refine tk 2 rfl ?_
 refine tk 3 rfl ?_
 refine tk 4 rfl ?_
 refine tk 5 rfl ?_
 refine tk 6 rfl ?_
 refine tk 7 rfl ?_
 refine tk 8 rfl ?_
 refine tk 9 rfl ?_
 refine tk 10 rfl ?_
 refine tk 11 rfl ?_
 refine tk 12 rfl ?_
 refine tk 13 rfl ?_
 refine tk 14 rfl ?_
 refine tk 15 rfl ?_
 refine tk 16 rfl ?_
 refine tk 17 rfl ?_
 refine tk 18 rfl ?_
 refine tk 19 rfl ?_
 refine tk 20 rfl ?_
 refine tk 21 rfl ?_
 refine tk 22 rfl ?_
 refine tk 23 rfl ?_
 refine tk 24 rfl ?_
 refine tk 25 rfl ?_
 refine tk 26 rfl ?_
 refine tk 27 rfl ?_
 refine tk 28 rfl ?_
 refine wpAnyH_ready (rs:=[29,31]) (by kernel_rfl) (by simp) ?_
 refine Dh rfl (fun K hK=> ?_) ?_
 ·go_simp
  (with_reducible refine H9a.out.mono ?_)
  rintro e w7 ⟨rfl,hb9⟩
  have hq5:Below wz.heap.size wz w7:=Below.trans (Da (Below.refl _ _)) hb9
  have hz5:=hq5.size
  clear hb9
  go_wp2_with fail
  refine hK.out _ _ (KS.out _ hq5) (fun hHeld2=> ?_)
  clear hK K hHeld
  try simp only[ap]
  refine tk 30 rfl ?_
  refine rd1 31 rfl fun K hK=> ?_
  go_simp
  refine hK.out _ _ (KS.out _ (Below.alloc hq5 hz5 _)) (fun hHeld3=> ?_)
  clear hK K hHeld2
  try simp only[ap]
  refine rd1 32 rfl fun K hK=> ?_
  go_simp
  refine hK.out _ _ (KS.out _ (Below.alloc hq5 hz5 _)) (fun hHeld4=> ?_)
  clear hK K hHeld3
  try simp only[ap]
  refine wpAnyH_done (by kernel_rfl) ?_ _
  refine NoPanic.normal ?_
  go_wp2_with fail
  go_meet
  case rel=>exact⟨_,rfl,(heap_alloc_new w7 _).trans (by simp[*];first | done|omega),hz5,hq5.alloc hz5 _⟩
 ·refine Dh rfl (fun K hK => ?_) AllReadyH.nil
  go_simp
  refine hK.out _ _ KA.out (fun hHeld2=> ?_)
  clear hK K hHeld
  try simp only[ap]
  refine rd1 29 rfl fun K hK=> ?_
  go_simp
  (with_reducible refine H9b.out.mono ?_)
  rintro e w7 ⟨rfl,hb9⟩
  obtain⟨hq5,hrow9,hlt9⟩:=KB.out w7 hb9
  have hz5:=hq5.size
  obtain⟨x0,x1,x2,x3,x4,x5,y0,y1,y2,y3,y4,y5⟩:=Ff hrow9
  have HROW9:=Lib.hid hrow9
  clear hrow9 hb9
  go_wp2_with fail
  refine hK.out _ _ (KS.out _ hq5) (fun hHeld3=> ?_)
  clear hK K hHeld2
  try simp only[ap]
  refine tk 30 rfl ?_
  refine rd1 32 rfl fun K hK=> ?_
  go_simp
  refine hK.out _ _ (KS.out _ (Po hq5 _ _ _ _ _ _)) (fun hHeld4=> ?_)
  clear hK K hHeld3
  try simp only[ap]
  refine wpAnyH_done (by kernel_rfl) ?_ _
  refine NoPanic.normal ?_
  go_wp2_with fail
  go_meet
  case rel=>exact⟨_,rfl,(GQ HROW9.out _ _ _ _ _ _).trans (by simp[*];first | done|omega),Nat.le_refl _,Po hq5 _ _ _ _ _ _⟩):p:=h
theorem M52 (h:p:=by
 go_wp2_with fail
 go_ret
 exact⟨De (by rw[HRR.out];simp[DB]),HBW.out⟩):p:=h
theorem M140 (h:p:=by
 exact⟨(e1 _).trans q1,(e1 _).trans q2,(e1 _).trans q3,(e1 _).trans q4,(e1 _).trans q5,(e1 _).trans q6,(e1 _).trans q7,(e1 _).trans q8,(e1 _).trans q9,(e1 _).trans q10⟩):p:=h
theorem M146 (h:p:=by
 go_wp2_with fail
 go_round
 case rel=>exact⟨6,by omega,by omega,rfl,rfl,by have:=HY.out;simp[DB] at this ⊢;try exact this⟩
 case measure=>simp[intOf]):p:=h
theorem M153 (h:p:=by
 go_wp2_with fail
 go_round
 case rel=>exact⟨5,by omega,by omega,rfl,rfl,by have:=HY.out;simp[DB] at this ⊢;try exact this⟩
 case measure=>simp[intOf]):p:=h
theorem M160 (h:p:=by
 go_wp2_with fail
 go_round
 case rel=>exact⟨4,by omega,by omega,rfl,rfl,by have:=HY.out;simp[DB] at this ⊢;try exact this⟩
 case measure=>simp[intOf]):p:=h
theorem M168 (h:p:=by
 go_wp2_with fail
 go_round
 case rel=>exact⟨3,by omega,by omega,rfl,rfl,by have:=HY.out;simp[DB] at this ⊢;try exact this⟩
 case measure=>simp[intOf]):p:=h
theorem M176 (h:p:=by
 go_wp2_with fail
 go_round
 case rel=>exact⟨2,by omega,by omega,rfl,rfl,by have:=HY.out;simp[DB] at this ⊢;try exact this⟩
 case measure=>simp[intOf]):p:=h
theorem M184 (h:p:=by
 go_wp2_with fail
 go_round
 case rel=>exact⟨1,by omega,by omega,rfl,rfl,by have:=HY.out;simp[DB] at this ⊢;try exact this⟩
 case measure=>simp[intOf]):p:=h
theorem M192 (h:p:=by
 by_cases hnm:name.toList= []
 ·have tok := trivial
  exact M11
 ·have hnm2 : name.toList.isEmpty = false := by simpa using hnm
  exact M11):p:=h
theorem SR (e : EV) (hf : Dj e) (vk vn : Int) (vf : Nat) (vs : ByteArray) (A : Option Addr) (m c : Nat) (nm : ByteArray) (b0 b1 b2 b3 b4 b5 ok RR : Bool) (hRR : RR = (ok && (OR e b0 b1 b2 b3 b4 b5).all (fun b : Bool => b)))
  (w:World) (lo hi:Nat) (hR:Rep w lo hi e.v (Dn vk vn vf vs A m c)) (hz:hi<=w.heap.size)
  (ho:∀w,Calls Tryz.prog 104 #[.int .i64 e.k] w fun x w'=>x= .returned (.tuple #[.agg #[.string nm,.bool b0,.bool b1,.bool b2,.bool b3,.bool b4,.bool b5],.bool ok])/\Below w.heap.size w w') :
  Calls Tryz.prog 98 #[.agg (Db e vk vn vf vs A m c)] w fun x w'=>x= .returned (.bool RR)/\Below w.heap.size w w':=by
 have O:=Lib.hid ho;clear ho
 obtain⟨k0,k1,i1,n0,n1,a1,s1,t1⟩:=hf
 unfold Db
 unfold OR at hRR
 have HRR:=Lib.hid hRR;clear hRR
 generalize e.k=k at *
 generalize e.id=id at *
 generalize e.n=n at *
 generalize e.at'=at' at *
 generalize e.name=name at *
 generalize e.text=text at *
 generalize e.v=t at *
 unfold maxLen at s1 t1
 unfold Dn at hR
 have HR:=Lib.hid hR;clear hR
 have HBX:Hid (EBox (w.alloc (.cells #[.int .i64 k,.int .u64 id,.int .i64 n,.int .u64 at',.string name,.string text,.int .i64 vk,.int .i64 vn,.float .f64 vf,.string vs,.slice A m c] 61)) w.heap.size #[.int .i64 k,.int .u64 id,.int .i64 n,.int .u64 at',.string name,.string text,.int .i64 vk,.int .i64 vn,.float .f64 vf,.string vs,.slice A m c]):=Lib.hid (heap_alloc_new w _)
 have HB0:=Lib.hid ((Below.refl w.heap.size w).alloc (Nat.le_refl _) (.cells #[.int .i64 k,.int .u64 id,.int .i64 n,.int .u64 at',.string name,.string text,.int .i64 vk,.int .i64 vn,.float .f64 vf,.string vs,.slice A m c] 61))
 go_enter Tryz.func98,Tryz.ntmps98
 go_wp2_with fail
 refine(O.out _).mono ?_
 rintro x w1 ⟨rfl,hb1⟩
 have hbx:=HBX.out.later hb1 (by simp)
 have HB1:=Lib.hid (HB0.out.trans (hb1.mono (by simp)))
 have hz1:=hbx.lt
 clear hb1 HBX HB0
 obtain⟨c0,c1,c2,c3,c4,c5,c6,c7,c8,c9,c10⟩:=hbx.cells
 have HBX:=Lib.hid hbx;clear hbx
 go_wp2_with fail
 have hqr:(w1.alloc (.cells #[.string nm,.bool b0,.bool b1,.bool b2,.bool b3,.bool b4,.bool b5] 184)).heap[w1.heap.size]?=_:=heap_alloc_new w1 _
 have HBQ:=Lib.hid ((Below.refl w1.heap.size w1).alloc (Nat.le_refl _) (.cells #[.string nm,.bool b0,.bool b1,.bool b2,.bool b3,.bool b4,.bool b5] 184))
 have hqz:w1.heap.size<(w1.alloc (.cells #[.string nm,.bool b0,.bool b1,.bool b2,.bool b3,.bool b4,.bool b5] 184)).heap.size:=by simp
 generalize w1.alloc (.cells #[.string nm,.bool b0,.bool b1,.bool b2,.bool b3,.bool b4,.bool b5] 184)=wq at *
 have HQR:=Lib.hid hqr;clear hqr
 have hq0:w.heap.size<wq.heap.size:=by omega
 have hbxq:=HBX.out.later HBQ.out hz1
 clear c0 c1 c2 c3 c4 c5 c6 c7 c8 c9 c10 HBX
 obtain⟨q0,q1,q2,q3,q4,q5,q6,q7,q8,q9,q10⟩:=hbxq.cells
 have HBX:=Lib.hid hbxq;clear hbxq
 have HRQ:Hid (∀W',Below wq.heap.size wq W'->Rep W' lo hi t (.agg #[.int .i64 vk,.int .i64 vn,.float .f64 vf,.string vs,.slice A m c])):=Lib.hid fun W' hb=>
  ((HR.out.later (HB1.out.mono hz)).later (HBQ.out.mono (by omega))).later (hb.mono (by omega))
 have H9:Hid (∀W',Below wq.heap.size wq W'->Calls Tryz.prog 134 #[.agg #[.int .i64 vk,.int .i64 vn,.float .f64 vf,.string vs,.slice A m c],.agg #[.int .i64 0,.int .i64 0,.float .f64 0,.string ⟨#[]⟩,.slice none 0 0]] W' fun e w'=>e= .returned (.bool (t.same zeroT))/\Below W'.heap.size W' w'):=Lib.hid fun W' hb=>
  Vt.same_any t zeroT W' lo hi 0 0 _ _ (HRQ.out W' hb) (by have:=hb.size;omega) (Rep.leaf ⟨by omega,by omega,by omega,by omega,by omega,by decide,by decide⟩) (Nat.zero_le _)
 have H9a:=Lib.hid (H9.out wq.drew (Da (Below.refl _ _)))
 have H9b:=Lib.hid (H9.out (wq.alloc (.cells #[.bool false,.bool false,.bool false,.bool false,.bool false,.bool false] 182)).drew (Da ((Below.refl _ _).alloc (Nat.le_refl _) _)))
 have KB:Hid (∀w5,Below (wq.alloc (.cells #[.bool false,.bool false,.bool false,.bool false,.bool false,.bool false] 182)).drew.heap.size (wq.alloc (.cells #[.bool false,.bool false,.bool false,.bool false,.bool false,.bool false] 182)).drew w5->
   Below wq.heap.size wq w5/\w5.heap[wq.heap.size]?=some (.cells #[.bool false,.bool false,.bool false,.bool false,.bool false,.bool false] 182 (0,0))/\wq.heap.size<w5.heap.size):=Lib.hid fun w5 hb=>by
  have hb':Below (wq.heap.size+1) (wq.alloc (.cells #[.bool false,.bool false,.bool false,.bool false,.bool false,.bool false] 182)).drew w5:=hb.mono (by show wq.heap.size+1<=(wq.alloc _).heap.size;rw[World.size_alloc];exact Nat.le_refl _)
  have h0:(wq.alloc (.cells #[.bool false,.bool false,.bool false,.bool false,.bool false,.bool false] 182)).drew.heap[wq.heap.size]?=some (.cells #[.bool false,.bool false,.bool false,.bool false,.bool false,.bool false] 182 (0,0)):=heap_alloc_new wq _
  have h1:=(hb'.block wq.heap.size (Nat.lt_succ_self _)).trans h0
  exact⟨(Da ((Below.refl _ _).alloc (Nat.le_refl _) _)).trans (hb'.mono (Nat.le_succ _)),h1,(Array.getElem?_eq_some_iff.1 h1).1⟩
 have KS:Hid (∀W',Below wq.heap.size wq W'->W'.cell? ⟨w.heap.size,1,none⟩=some (.int .u64 id)/\W'.cell? ⟨w.heap.size,2,none⟩=some (.int .i64 n)/\W'.cell? ⟨w.heap.size,3,none⟩=some (.int .u64 at')/\W'.cell? ⟨w.heap.size,4,none⟩=some (.string name)/\W'.cell? ⟨w.heap.size,5,none⟩=some (.string text)/\W'.cell? ⟨w.heap.size,6,none⟩=some (.int .i64 vk)/\W'.cell? ⟨w.heap.size,7,none⟩=some (.int .i64 vn)/\W'.cell? ⟨w.heap.size,8,none⟩=some (.float .f64 vf)/\W'.cell? ⟨w.heap.size,9,none⟩=some (.string vs)/\W'.cell? ⟨w.heap.size,10,none⟩=some (.slice A m c)):=Lib.hid fun W' hb=>by
  have e1:∀o,W'.cell? ⟨w.heap.size,o,none⟩=wq.cell? ⟨w.heap.size,o,none⟩:=fun o=>hb.cell (p:=⟨w.heap.size,o,none⟩) hq0
  exact M140
 have KD:=Lib.hid (KS.out wq.drew (Da (Below.refl _ _)))
 have KA:=Lib.hid (KS.out (wq.alloc (.cells #[.bool false,.bool false,.bool false,.bool false,.bool false,.bool false] 182)).drew (Da ((Below.refl _ _).alloc (Nat.le_refl _) _)))
 clear q0 q1 q2 q3 q4 q5 q6 q7 q8 q9 q10
 go_cut [5] from 15 to 34 (fun z wx=>∃bz,z= .pointer (some ⟨bz,0,none⟩)/\wx.heap[bz]?=some (.cells #[.bool ((id:Int)==0),.bool (n==0),.bool ((at':Int)==0),.bool name.toList.isEmpty,.bool text.toList.isEmpty,.bool (t.same zeroT)] 182 (0,0))/\wq.heap.size<=bz/\Below wq.heap.size wq wx)
 case first =>
  go_region_held3 (fun W' => W'.cell? ⟨w.heap.size, 1, none⟩ = some (.int .u64 id) /\ W'.cell? ⟨w.heap.size, 2, none⟩ = some (.int .i64 n) /\ W'.cell? ⟨w.heap.size, 3, none⟩ = some (.int .u64 at') /\ W'.cell? ⟨w.heap.size, 4, none⟩ = some (.string name) /\ W'.cell? ⟨w.heap.size, 5, none⟩ = some (.string text) /\ W'.cell? ⟨w.heap.size, 6, none⟩ = some (.int .i64 vk) /\ W'.cell? ⟨w.heap.size, 7, none⟩ = some (.int .i64 vn) /\ W'.cell? ⟨w.heap.size, 8, none⟩ = some (.float .f64 vf) /\ W'.cell? ⟨w.heap.size, 9, none⟩ = some (.string vs) /\ W'.cell? ⟨w.heap.size, 10, none⟩ = some (.slice A m c))
   (first
    | (with_reducible exact KS.out _ hq5)
    | (with_reducible exact KS.out _ (Po hq5 _ _ _ _ _ _))
    | (with_reducible exact KS.out _ (Below.alloc hq5 hz5 _))
    | (with_reducible exact KD.out)
    | (with_reducible exact KA.out))
   (first
    | (go_at_call 134;(with_reducible refine H9a.out.mono ?_);rintro e w5 ⟨rfl,hb9⟩;have hq5:Below wq.heap.size wq w5:=Below.trans (Da (Below.refl _ _)) hb9;have hz5:=hq5.size;clear hb9)
    | (go_at_call 134;(with_reducible refine H9b.out.mono ?_);rintro e w5 ⟨rfl,hb9⟩;obtain⟨hq5,hrow9,hlt9⟩:=KB.out w5 hb9;have hz5:=hq5.size;obtain⟨x0,x1,x2,x3,x4,x5,y0,y1,y2,y3,y4,y5⟩:=Ff hrow9;have HROW9:=Lib.hid hrow9;clear hrow9 hb9))
  all_goals
   go_wp2_with fail
   go_meet
   case rel=>
    first
     | exact⟨_,rfl,GQ HROW9.out _ _ _ _ _ _,Nat.le_refl _,Po hq5 _ _ _ _ _ _⟩
     | exact⟨_,rfl,heap_alloc_new w5 _,hz5,hq5.alloc hz5 _⟩
 case rest=>
  obtain⟨bz,rfl,hzrow,hbz,hbx⟩:=hcut
  clear H9 H9a H9b KB KD KA KS
  go_wp2_with fail
  obtain⟨wz,hwz⟩:∃wz,wz=wc:=⟨_,rfl⟩
  subst hwz
  have hwz0:w.heap.size<wz.heap.size:=by have:=hbx.size;omega
  have hbxc:=HBX.out.later hbx hq0
  obtain⟨q0,q1,q2,q3,q4,q5,q6,q7,q8,q9,q10⟩:=hbxc.cells
  have HBXC:=Lib.hid hbxc
  have HRC:Hid (∀W',Below wz.heap.size wz W'->Rep W' lo hi t (.agg #[.int .i64 vk,.int .i64 vn,.float .f64 vf,.string vs,.slice A m c])):=Lib.hid fun W' hb=>
   HRQ.out W' (hbx.trans (hb.mono hbx.size))
  have hbzc:bz<wz.heap.size:=(Array.getElem?_eq_some_iff.1 hzrow).1
  have HZROW:=Lib.hid hzrow;have HBXX:=Lib.hid hbx
  clear hbxc hzrow hbx
  have H9:Hid (∀W',Below wz.heap.size wz W'->Calls Tryz.prog 135 #[.agg #[.int .i64 vk,.int .i64 vn,.float .f64 vf,.string vs,.slice A m c]] W' fun e w'=>e= .returned (.bool (t.valid 8))/\Below W'.heap.size W' w'):=Lib.hid fun W' hb=>
   Vt.VA t W' lo hi _ (HRC.out W' hb) (by have:=hb.size;omega)
  have H9a:=Lib.hid (H9.out wz.drew (Da (Below.refl _ _)))
  have H9b:=Lib.hid (H9.out (wz.alloc (.cells #[.bool false,.bool false,.bool false,.bool false,.bool false,.bool false] 182)).drew (Da ((Below.refl _ _).alloc (Nat.le_refl _) _)))
  have KB:Hid (∀w7,Below (wz.alloc (.cells #[.bool false,.bool false,.bool false,.bool false,.bool false,.bool false] 182)).drew.heap.size (wz.alloc (.cells #[.bool false,.bool false,.bool false,.bool false,.bool false,.bool false] 182)).drew w7->
    Below wz.heap.size wz w7/\w7.heap[wz.heap.size]?=some (.cells #[.bool false,.bool false,.bool false,.bool false,.bool false,.bool false] 182 (0,0))/\wz.heap.size<w7.heap.size):=Lib.hid fun w7 hb=>by
   have hb':Below (wz.heap.size+1) (wz.alloc (.cells #[.bool false,.bool false,.bool false,.bool false,.bool false,.bool false] 182)).drew w7:=hb.mono (by show wz.heap.size+1<=(wz.alloc _).heap.size;rw[World.size_alloc];exact Nat.le_refl _)
   have h0:(wz.alloc (.cells #[.bool false,.bool false,.bool false,.bool false,.bool false,.bool false] 182)).drew.heap[wz.heap.size]?=some (.cells #[.bool false,.bool false,.bool false,.bool false,.bool false,.bool false] 182 (0,0)):=heap_alloc_new wz _
   have h1:=(hb'.block wz.heap.size (Nat.lt_succ_self _)).trans h0
   exact⟨(Da ((Below.refl _ _).alloc (Nat.le_refl _) _)).trans (hb'.mono (Nat.le_succ _)),h1,(Array.getElem?_eq_some_iff.1 h1).1⟩
  have KS:Hid (∀W',Below wz.heap.size wz W'->W'.cell? ⟨w.heap.size,1,none⟩=some (.int .u64 id)/\W'.cell? ⟨w.heap.size,2,none⟩=some (.int .i64 n)/\W'.cell? ⟨w.heap.size,3,none⟩=some (.int .u64 at')/\W'.cell? ⟨w.heap.size,4,none⟩=some (.string name)/\W'.cell? ⟨w.heap.size,5,none⟩=some (.string text)/\W'.cell? ⟨w.heap.size,6,none⟩=some (.int .i64 vk)/\W'.cell? ⟨w.heap.size,7,none⟩=some (.int .i64 vn)/\W'.cell? ⟨w.heap.size,8,none⟩=some (.float .f64 vf)/\W'.cell? ⟨w.heap.size,9,none⟩=some (.string vs)/\W'.cell? ⟨w.heap.size,10,none⟩=some (.slice A m c)):=Lib.hid fun W' hb=>by
   have e1:∀o,W'.cell? ⟨w.heap.size,o,none⟩=wz.cell? ⟨w.heap.size,o,none⟩:=fun o=>hb.cell (p:=⟨w.heap.size,o,none⟩) hwz0
   exact M140
  have KD:=Lib.hid (KS.out wz.drew (Da (Below.refl _ _)))
  have KA:=Lib.hid (KS.out (wz.alloc (.cells #[.bool false,.bool false,.bool false,.bool false,.bool false,.bool false] 182)).drew (Da ((Below.refl _ _).alloc (Nat.le_refl _) _)))
  clear q0 q1 q2 q3 q4 q5 q6 q7 q8 q9 q10
  go_cut [6] from 35 to 65 (fun z wx=>∃by',z= .pointer (some ⟨by',0,none⟩)/\wx.heap[by']?=some (.cells #[.bool (decide (0<id)),.bool (decide (1<=n/\n<=2147483647)),.bool (decide (at'<=9223372036854775807)),.bool (!name.toList.isEmpty&&decide (name.size<=1000)),.bool (decide (text.size<=1000)),.bool (t.valid 8)] 182 (0,0))/\wz.heap.size<=by'/\Below wz.heap.size wz wx)
  case first =>
   by_cases hn:1<=n
   ·have hnb : decide (1 <= n) = true := by simpa using hn
    exact M192
   ·have hnb : decide (1 <= n) = false := by simpa using hn
    exact M192
  case rest=>
   obtain⟨by',rfl,hfrow,hby,hbx⟩:=hcut
   clear H9 H9a H9b KB KD KA KS HRC HRQ HR HBXC HBX O
   have hrowc:wc.heap[w1.heap.size]?=_:=((HBXX.out.trans (hbx.mono HBXX.out.size)).block w1.heap.size hqz).trans HQR.out
   have hzrowc:=(hbx.block bz hbzc).trans HZROW.out
   have hbw:Below w.heap.size w wc:=(HB1.out.trans (HBQ.out.mono (by omega))).trans ((HBXX.out.trans (hbx.mono HBXX.out.size)).mono (by omega))
   have HBW:=Lib.hid hbw
   clear hbw hbx HBXX HZROW HQR HBQ HB1
   generalize decide (0<id)=f0 at *
   generalize decide (1<=n/\n<=2147483647)=f1 at *
   generalize decide (at'<=9223372036854775807)=f2 at *
   generalize (!name.toList.isEmpty&&decide (name.size<=1000))=f3 at *
   generalize decide (text.size<=1000)=f4 at *
   generalize t.valid 8=f5 at *
   generalize ((id:Int)==0)=z0 at *
   generalize (n==0)=z1 at *
   generalize ((at':Int)==0)=z2 at *
   generalize name.toList.isEmpty=z3 at *
   generalize text.toList.isEmpty=z4 at *
   generalize t.same zeroT=z5 at *
   obtain⟨a0,a1,a2,a3,a4,a5,-⟩:=Ff hzrowc
   obtain⟨g0,g1,g2,g3,g4,g5,-⟩:=Ff hfrow
   obtain⟨r0,r1,r2,r3,r4,r5,r6⟩:=RowAt.cells (show RowAt wc w1.heap.size _ from hrowc)
   clear hzrowc hfrow hrowc
   go_wp2_with fail
   go_loop [2,68] (fun r i=>∃j:Int,0<=j/\j<=6/\i= .int .i64 j/\r= .bool false/\([DB b0 f0 z0,DB b1 f1 z1,DB b2 f2 z2,DB b3 f3 z3,DB b4 f4 z4,DB b5 f5 z5].take j.toNat).all (fun b:Bool=>b)=true) (fun _ i=>6-(intOf i).toNat)
   case atStart=>exact⟨0,by omega,by omega,rfl,rfl,rfl⟩
   case round=>
    obtain⟨j,hj0,hj,rfl,rfl,hy⟩:=hrel
    have HY:=Lib.hid hy;clear hy
    rcases (by omega:j=0\/j=1\/j=2\/j=3\/j=4\/j=5\/j=6) with rfl|rfl|rfl|rfl|rfl|rfl|rfl
    ·have hix := ix0 (.bool b0) (.bool b1) (.bool b2) (.bool b3) (.bool b4) (.bool b5)
     cases b0
     ·cases z0
      ·exact M52
      ·exact M184
     ·cases f0
      ·exact M52
      ·exact M184
    ·have hix := ix1 (.bool b0) (.bool b1) (.bool b2) (.bool b3) (.bool b4) (.bool b5)
     cases b1
     ·cases z1
      ·exact M52
      ·exact M176
     ·cases f1
      ·exact M52
      ·exact M176
    ·have hix := ix2 (.bool b0) (.bool b1) (.bool b2) (.bool b3) (.bool b4) (.bool b5)
     cases b2
     ·cases z2
      ·exact M52
      ·exact M168
     ·cases f2
      ·exact M52
      ·exact M168
    ·have hix := ix3 (.bool b0) (.bool b1) (.bool b2) (.bool b3) (.bool b4) (.bool b5)
     cases b3
     ·cases z3
      ·exact M52
      ·exact M160
     ·cases f3
      ·exact M52
      ·exact M160
    ·have hix := ix4 (.bool b0) (.bool b1) (.bool b2) (.bool b3) (.bool b4) (.bool b5)
     cases b4
     ·cases z4
      ·exact M52
      ·exact M153
     ·cases f4
      ·exact M52
      ·exact M153
    ·have hix := ix5 (.bool b0) (.bool b1) (.bool b2) (.bool b3) (.bool b4) (.bool b5)
     cases b5
     ·cases z5
      ·exact M52
      ·exact M146
     ·cases f5
      ·exact M52
      ·exact M146
    ·go_wp2_with fail
     go_ret
     exact⟨De (by have:=HY.out;rw[HRR.out];rw[show ([DB b0 f0 z0,DB b1 f1 z1,DB b2 f2 z2,DB b3 f3 z3,DB b4 f4 z4,DB b5 f5 z5].take (6:Int).toNat)= [DB b0 f0 z0,DB b1 f1 z1,DB b2 f2 z2,DB b3 f3 z3,DB b4 f4 z4,DB b5 f5 z5] from rfl] at this;rw[this];simp),HBW.out⟩
def EV.valid (e:EV):Bool:=decide (1<=e.k/\e.k<=11)&&(OR e ((fieldsOf e.k.toNat).contains 0) ((fieldsOf e.k.toNat).contains 1) ((fieldsOf e.k.toNat).contains 2) ((fieldsOf e.k.toNat).contains 3) ((fieldsOf e.k.toNat).contains 4) ((fieldsOf e.k.toNat).contains 5)).all (fun b:Bool=>b)
theorem GJ (e:EV)(w:World)(lo hi:Nat)(x:Value)(hR:SJ w lo hi e x)(hz:hi<=w.heap.size) :
  Calls Tryz.prog 98 #[x] w fun r w'=>r= .returned (.bool e.valid)/\Below w.heap.size w w':=by
 obtain⟨hf,vk,vn,vf,vs,A,m,c,rfl,hv⟩:=hR
 by_cases hk:1<=e.k/\e.k<=11
 ·obtain ⟨k, hkk⟩ : ∃ k : Nat, e.k = k := ⟨e.k.toNat, by omega⟩
  have := SR e hf vk vn vf vs A m c (nameOf k) ((fieldsOf k).contains 0) ((fieldsOf k).contains 1) ((fieldsOf k).contains 2) ((fieldsOf k).contains 3) ((fieldsOf k).contains 4) ((fieldsOf k).contains 5) true _ rfl w lo hi hv hz
   (fun w=>by rw[hkk];exact Lc k (by omega) (by omega) w)
  refine this.mono fun r w' h=>⟨?_,h.2⟩
  rw[h.1]
  unfold EV.valid
  rw[show e.k.toNat=k from by omega,show decide (1<=e.k/\e.k<=11)=true from by simpa using hk]
 ·have := SR e hf vk vn vf vs A m c ⟨#[]⟩ false false false false false false false _ rfl w lo hi hv hz (fun w => of_out e.k (by omega) w)
  refine this.mono fun r w' h=>⟨?_,h.2⟩
  rw[h.1]
  unfold EV.valid
  rw[show decide (1<=e.k/\e.k<=11)=false from by simpa using hk]
  rfl
end Ev
namespace Vt
open Nm (Di Dk De)
theorem Tryz.infoV : (Tryz.prog.info? 34).map (fun i=>(i.zero,i.size,i.bytes))=some (some (.agg #[.int .i64 0,.int .i64 0,.float .f64 0,.string ⟨#[]⟩,.slice none 0 0]),5,64):=by kernel_rfl
def DR (w:World)(A:Option Addr)(m:Nat):List Value:=
 match A with
 | some ⟨b,off,_⟩=>(List.range m).map fun j=>(w.cell? ⟨b,off+j,none⟩).getD undef
 | none=>[]
theorem YO {w:World}{lo hi:Nat}{l:List VT}{b off:Nat}(hk:KidsAt w lo hi l (some ⟨b,off,none⟩))(j:Nat)(hj:j<l.length*5) :
  ∃u,w.cell? ⟨b,off+j,none⟩=some u/\u.oneCell'=true:=by
 obtain⟨b',off',hA,-,-,h3⟩:=hk.at_ (by omega)
 injection hA with hA
 injection hA with hb ho _
 subst hb;subst ho
 obtain⟨k,n,f,s,L,A',cap,e,c0,c1,c2,c3,c4,-⟩:=h3 (j/5) (by omega)
 rcases (by omega:j=j/5*5\/j=j/5*5+1\/j=j/5*5+2\/j=j/5*5+3\/j=j/5*5+4) with q|q|q|q|q
 ·exact⟨_,by rw[q];exact c0,rfl⟩
 ·exact⟨_,by rw[q, <-Nat.add_assoc];exact c1,rfl⟩
 ·exact⟨_,by rw[q, <-Nat.add_assoc];exact c2,rfl⟩
 ·exact⟨_,by rw[q, <-Nat.add_assoc];exact c3,rfl⟩
 ·exact⟨_,by rw[q, <-Nat.add_assoc];exact c4,rfl⟩
theorem row_one {w:World}{lo hi:Nat}{l:List VT}{b off:Nat}(hk:KidsAt w lo hi l (some ⟨b,off,none⟩)) :
  ∀u∈DR w (some ⟨b,off,none⟩) (l.length*5),u.oneCell'=true:=by
 intro u hu
 unfold DR at hu
 rw[List.mem_map] at hu
 obtain⟨j,hj,rfl⟩:=hu
 obtain⟨u,h1,h2⟩:=YO hk j (by simpa using hj)
 rw[h1];exact h2
theorem row_at {w:World}{lo hi:Nat}{l:List VT}{b off:Nat}(hk:KidsAt w lo hi l (some ⟨b,off,none⟩)) :
  ∀j u,(DR w (some ⟨b,off,none⟩) (l.length*5))[j]?=some u->w.cell? ⟨b,off+j,none⟩=some u:=by
 intro j u hu
 unfold DR at hu
 simp only[List.getElem?_map,Option.map_eq_some_iff] at hu
 obtain⟨i,hi,rfl⟩:=hu
 rw[List.getElem?_eq_some_iff] at hi
 obtain⟨h1,h2⟩:=hi
 simp at h1 h2
 subst h2
 obtain⟨u,h3,-⟩:=YO hk j h1
 rw[h3];rfl
theorem KL (b off j:Nat):(⟨b,off,none⟩:Addr).add j=⟨b,off+j,none⟩:=Go.WideShapes.add_plain ..
theorem Vu (a:Addr)(n:Nat):(a.add n).block=a.block:=by unfold Addr.add;split<;>rfl
theorem JL (l:List VT)(A:Option Addr)(cap:Nat)(hl:l.length<=900)(hcap:l.length<=cap)(hc:cap<=maxLen)(w:World)(lo hi:Nat)(hk:KidsAt w lo hi l A)(hz:hi<=w.heap.size) :
  Calls Tryz.prog 87 #[.slice A l.length cap] w fun e w'=>
   ∃v',e= .returned v'/\w'.ownsRow w.heap.size 34 5 v' l.length (DR w A (l.length*5))/\Below w.heap.size w w':=by
 unfold maxLen at hc
 have HK:=Lib.hid hk;clear hk
 cases A with
 | none=>
  have h0:l.length=0:=by
   rcases Nat.eq_zero_or_pos l.length with h|h
   ·exact h
   ·obtain ⟨b, off, h1, -⟩ := HK.out.at_ h
    cases h1
  have HR:Hid (DR w none (l.length*5)= []):=Lib.hid rfl
  rw[HR.out,h0]
  clear h0 HK HR hcap hl
  have hnil:=fun w=>Lib.run_eql_slice_nil (P:=Tryz.prog) w 32 34 none 0 cap 0 0 Tryz.underlying32
  go_enter Tryz.func87,Tryz.ntmps87
  go_wp2_with fail
  go_ret
  exact⟨_,rfl,World.ownsRow_nil _ _ _ _,Below.refl _ _⟩
 | some ad=>
  have hone:∀u∈DR w (some ad) (l.length*5),u.oneCell'=true:=by
   rcases Nat.eq_zero_or_pos l.length with h|h
   ·rw[h];obtain⟨b,off,sp⟩:=ad;intro u hu;simp[DR] at hu
   ·obtain ⟨b, off, h1, -⟩ := HK.out.at_ h
    injection h1 with h1;subst h1
    exact row_one HK.out
  have hat:∀j u,(DR w (some ad) (l.length*5))[j]?=some u->w.cell? (ad.add j)=some u/\ad.block<w.heap.size:=by
   rcases Nat.eq_zero_or_pos l.length with h|h
   ·rw[h];obtain⟨b,off,sp⟩:=ad;intro j u hu;simp[DR] at hu
   ·obtain ⟨b, off, h1, -, h2, -⟩ := HK.out.at_ h
    injection h1 with h1;subst h1
    intro j u hu
    exact⟨by rw[KL];exact row_at HK.out j u hu,by simp only[];omega⟩
  have hlen:(DR w (some ad) (l.length*5)).length=l.length*5:=by obtain⟨b,off,sp⟩:=ad;simp[DR]
  generalize DR w (some ad) (l.length*5)=xs at *
  obtain⟨i0,hi,hz0,hz1,hz2⟩:=info_parts Tryz.infoV
  have H1:=Lib.hid hone;have H2:=Lib.hid hat;have H3:=Lib.hid hlen
  clear hone hat hlen HK
  have I1:=Lib.hid hi;have I2:=Lib.hid hz0;have I3:=Lib.hid hz1;have I4:=Lib.hid hz2
  clear hi hz0 hz1 hz2
  generalize l.length=m at *
  have HOWN:Hid ((w.alloc (.cells #[] 34)).ownsRow w.heap.size 34 5 (.slice (some ⟨w.heap.size,0,none⟩) 0 0) 0 []):=
   Lib.hid ⟨rfl,.inr ⟨w.heap.size,0,#[],rfl,Nat.le_refl _,heap_alloc_new w _,Nat.le_refl _,by unfold maxLen;omega,rfl,rfl⟩⟩
  have hnil:=fun w=>Lib.run_eql_slice_nil (P:=Tryz.prog) w 32 34 (some ad) m cap 0 0 Tryz.underlying32
  go_enter Tryz.func87,Tryz.ntmps87
  go_wp2_with (at_builtin;refine wpList_append_own _ rfl _ _ 32 rfl w.heap.size 34 i0 _ 5 64 Tryz.underlying32 I1.out I2.out I3.out I4.out rfl (by decide) _ 0 [] rfl HOWN.out ad m cap xs rfl H3.out ?c2 H1.out ?c4 ?c5 ?c6 ?_)
  case c2=>
   intro j u hu
   obtain⟨h1,h2⟩:=H2.out j u hu
   exact(World.cell?_alloc_lt w _ (ad.add j) (by rw[Vu];exact h2)).trans h1
  case c4=>unfold maxLen;omega
  case c5=>omega
  case c6=>simp
  intro v' w1 hown hgrow _
  have HB:Hid (Below w.heap.size w w1):=Lib.hid (((Below.refl _ _).alloc (Nat.le_refl _) _).grown hgrow (by simp) (fun g hg=>by injection hg with hg;rw[<-hg];exact Nat.le_refl _))
  try simp only[Nat.zero_add,List.nil_append] at hown
  have HO:=Lib.hid hown
  clear hown hgrow HOWN H1 H2 H3 hnil
  go_wp2_with fail
  go_ret
  exact⟨_,rfl,HO.out,HB.out⟩
def Ph (w:World)(base:Nat)(l:List VT)(C:Nat->Array Value)(A:Option Addr)(j:Nat):Prop:=0<l.length->∃g cur,A=some ⟨g,0,none⟩/\base<=g/\g<w.heap.size/\
 w.heap[g]?=some (.cells cur 34 (0,0))/\l.length*5<=cur.size/\∀i (h:i<l.length),
  (i<j->∃D,Rep w (g+1) w.heap.size l[i] (.agg D)/\∀r,r<5->cur[i*5+r]?=D[r]?)/\(j<=i->∀r,r<5->cur[i*5+r]?=(C i)[r]?)
theorem Np {w w':World}{base:Nat}{l:List VT}{C:Nat->Array Value}{A:Option Addr}{j:Nat}(h:Ph w base l C A j)(hb:Below w.heap.size w w'):Ph w' base l C A j:=fun hp=>by
 obtain⟨g,cur,hA,h1,h2,h3,h4,h5⟩:=h hp
 have hz:=hb.size
 refine⟨g,cur,hA,h1,by omega,(hb.block g h2).trans h3,h4,fun i hi=>⟨fun hj=> ?_,(h5 i hi).2⟩⟩
 obtain⟨D,hD,hc⟩:=(h5 i hi).1 hj
 exact⟨D,(hD.later hb).more (Nat.le_refl _) hz,hc⟩
def DY (w:World)(g o:Nat)(d0 d1 d2 d3 d4:Value):World:=
 ((((w.setCell ⟨g,o,none⟩ d0).setCell ⟨g,o+1,none⟩ d1).setCell ⟨g,o+2,none⟩ d2).setCell ⟨g,o+3,none⟩ d3).setCell ⟨g,o+4,none⟩ d4
theorem FJ (w:World)(g o:Nat)(d0 d1 d2 d3 d4:Value):(DY w g o d0 d1 d2 d3 d4).heap.size=w.heap.size:=by simp[DY,World.setCell]
theorem JW (w:World)(g o:Nat)(d0 d1 d2 d3 d4:Value)(t:TypeId)(cur:Array Value)(h:w.heap[g]?=some (.cells cur t (0,0))) :
  (DY w g o d0 d1 d2 d3 d4).heap[g]?=some (.cells (((((cur.setIfInBounds o d0).setIfInBounds (o+1) d1).setIfInBounds (o+2) d2).setIfInBounds (o+3) d3).setIfInBounds (o+4) d4) t (0,0)):=by
 simp[DY,World.setCell,Array.getElem?_modify,h]
theorem OD {B:Nat}{w w':World}{g o:Nat}{d0 d1 d2 d3 d4:Value}(h:Below B w w')(hg:B<=g):Below B w (DY w' g o d0 d1 d2 d3 d4):=by
 unfold DY
 exact((((h.setCell (p:=⟨g,o,none⟩) hg _).setCell (p:=⟨g,o+1,none⟩) hg _).setCell (p:=⟨g,o+2,none⟩) hg _).setCell (p:=⟨g,o+3,none⟩) hg _).setCell (p:=⟨g,o+4,none⟩) hg _
theorem Pq (w:World)(g o:Nat)(d0 d1 d2 d3 d4:Value)(b p:Nat)(h:b≠g):(DY w g o d0 d1 d2 d3 d4).cell? ⟨b,p,none⟩=w.cell? ⟨b,p,none⟩:=by
 have e (w:World) (q:Nat) (v:Value):(w.setCell ⟨g,q,none⟩ v).cell? ⟨b,p,none⟩=w.cell? ⟨b,p,none⟩:=World.cell?_setCell_other w ⟨g,q,none⟩ ⟨b,p,none⟩ v (fun x=>by injection x with x;exact h x.symm)
 unfold DY
 rw[e,e,e,e,e]
theorem OC (w:World)(g o:Nat)(d0 d1 d2 d3 d4:Value)(b:Nat)(h:b≠g):(DY w g o d0 d1 d2 d3 d4).heap[b]?=w.heap[b]?:=by
 have e (w:World) (q:Nat) (v:Value):(w.setCell ⟨g,q,none⟩ v).heap[b]?=w.heap[b]?:=Below.heap_setCell w ⟨g,q,none⟩ v b h
 unfold DY
 rw[e,e,e,e,e]
theorem UB (cur:Array Value)(o:Nat)(d0 d1 d2 d3 d4:Value)(hs:o+5<=cur.size)(q:Nat) :
  (((((cur.setIfInBounds o d0).setIfInBounds (o+1) d1).setIfInBounds (o+2) d2).setIfInBounds (o+3) d3).setIfInBounds (o+4) d4)[q]?=
   if q=o then some d0 else if q=o+1 then some d1 else if q=o+2 then some d2 else if q=o+3 then some d3 else if q=o+4 then some d4 else cur[q]?:=by
 simp only[Array.getElem?_setIfInBounds,Array.size_setIfInBounds]
 by_cases h0:q=o
 ·subst h0;simp;omega
 by_cases h1:q=o+1
 ·subst h1;simp;omega
 by_cases h2:q=o+2
 ·subst h2;simp;omega
 by_cases h3:q=o+3
 ·subst h3;simp;omega
 by_cases h4:q=o+4
 ·subst h4;simp;omega
 ·rw[if_neg (by omega),if_neg (by omega),if_neg (by omega),if_neg (by omega),if_neg (by omega),if_neg h0,if_neg h1,if_neg h2,if_neg h3,if_neg h4]
theorem mix_step {w : World} {base : Nat} {l : List VT} {C : Nat -> Array Value} {A : Option Addr} {j g : Nat} {d0 d1 d2 d3 d4 : Value} (hj : j < l.length) (h : Ph w base l C A j) (hA : A = some ⟨g, 0, none⟩)
  (hr:Rep w (g+1) w.heap.size l[j] (.agg #[d0,d1,d2,d3,d4])):Ph (DY w g (j*5) d0 d1 d2 d3 d4) base l C A (j+1):=fun hp=>by
 obtain⟨g',cur,hA',h1,h2,h3,h4,h5⟩:=h hp
 rw[hA] at hA'
 injection hA' with hA'
 injection hA' with hg _ _
 subst hg
 have keep:∀{t:VT} {v:Value},Rep w (g+1) w.heap.size t v->Rep (DY w g (j*5) d0 d1 d2 d3 d4) (g+1) (DY w g (j*5) d0 d1 d2 d3 d4).heap.size t v:=fun hq=>by
  rw[FJ]
  exact hq.keep fun b o hb _=>Pq _ _ _ _ _ _ _ _ b o (by omega)
 refine⟨g,_,hA,h1,by rw[FJ];exact h2,JW _ _ _ _ _ _ _ _ _ cur h3,by simpa using h4,fun i hi=>⟨fun hij=> ?_,fun hij r hr5=> ?_⟩⟩
 ·by_cases e : i = j
  ·subst e
   refine⟨_,keep hr,fun r hr5=> ?_⟩
   rw[UB _ _ _ _ _ _ _ (by omega)]
   rcases (by omega:r=0\/r=1\/r=2\/r=3\/r=4) with rfl|rfl|rfl|rfl|rfl<;>simp
  ·obtain ⟨D, hD, hc⟩ := (h5 i hi).1 (by omega)
   refine⟨D,keep hD,fun r hr5=> ?_⟩
   rw[UB _ _ _ _ _ _ _ (by omega),if_neg (by omega),if_neg (by omega),if_neg (by omega),if_neg (by omega),if_neg (by omega)]
   exact hc r hr5
 ·rw [UB _ _ _ _ _ _ _ (by omega), if_neg (by omega), if_neg (by omega), if_neg (by omega), if_neg (by omega), if_neg (by omega)]
  exact(h5 i hi).2 (by omega) r hr5
theorem mix_done {w:World}{base:Nat}{l:List VT}{C:Nat->Array Value}{A:Option Addr}(h:Ph w base l C A l.length):KidsAt w base w.heap.size l A:=⟨fun hp=>by
 obtain⟨g,cur,hA,h1,h2,h3,h4,h5⟩:=h hp
 refine⟨g,0,hA,h1,h2,fun i hi=> ?_⟩
 obtain⟨D,hD,hc⟩:=(h5 i hi).1 hi
 obtain⟨k,n,f,s,L,A',cap,e,hv,-⟩:=hD.open_
 injection hv with hv
 subst hv
 have hcell:∀r,r<5->w.cell? ⟨g,0+i*5+r,none⟩= #[Value.int .i64 k,.int .i64 n,.float .f64 f,.string s,.slice A' L.length cap][r]?:=fun r hr=>by
  rw[<-hc r hr]
  simp[World.cell?,h3]
 exact⟨k,n,f,s,L,A',cap,e,by simpa using hcell 0 (by omega),by simpa using hcell 1 (by omega),by simpa using hcell 2 (by omega),by simpa using hcell 3 (by omega),by simpa using hcell 4 (by omega),hD.more (by omega) (Nat.le_refl _)⟩⟩
def DX (t:VT)(w:World)(e:Ending)(w':World):Prop:=∃k n f s l A cap,t= .mk k n f s l/\e= .returned (.agg #[.int .i64 k,.int .i64 n,.float .f64 f,.string s,.slice A l.length cap])/\
 Rep w' w.heap.size w'.heap.size t (.agg #[.int .i64 k,.int .i64 n,.float .f64 f,.string s,.slice A l.length cap])/\Below w.heap.size w w'/\
 (0<l.length->∀b off,A=some ⟨b,off,none⟩->∀o,w'.frozen? ⟨b,o,none⟩=false)
theorem Nn {w w':World}{lo hi base:Nat}{l:List VT}{A A2:Option Addr}{cap2:Nat}(hk:KidsAt w lo hi l A)(hz:hi<=base)(ho:w'.ownsRow base 34 5 (.slice A2 l.length cap2) l.length (DR w A (l.length*5))) :
  ∃C:Nat->Array Value,(∀i (h:i<l.length),∃k n f s L A' cap,l[i]= .mk k n f s L/\C i= #[.int .i64 k,.int .i64 n,.float .f64 f,.string s,.slice A' L.length cap]/\Rep w lo hi l[i] (.agg (C i)))/\Ph w' base l C A2 0:=by
 rcases Nat.eq_zero_or_pos l.length with h0|hp
 ·exact⟨fun _=> #[],fun i h=>absurd h (by omega),fun h=>absurd h (by omega)⟩
 ·obtain ⟨b, off, hA, h1, h2, h3⟩ := hk.at_ hp
  subst hA
  have h4:∀i:Nat,∃C:Array Value,∀(h:i<l.length),(∃k n f s L A' cap,l[i]= .mk k n f s L/\C= #[.int .i64 k,.int .i64 n,.float .f64 f,.string s,.slice A' L.length cap]/\Rep w lo hi l[i] (.agg C))/\
    ∀r,r<5->w.cell? ⟨b,off+(i*5+r),none⟩=C[r]?:=fun i=>by
   by_cases h:i<l.length
   ·obtain ⟨k, n, f, s, L, A', cap, e, c0, c1, c2, c3, c4, hr⟩ := h3 i h
    refine⟨_,fun _=>⟨⟨k,n,f,s,L,A',cap,e,rfl,hr⟩,fun r hr5=> ?_⟩⟩
    rcases (by omega:r=0\/r=1\/r=2\/r=3\/r=4) with rfl|rfl|rfl|rfl|rfl
    all_goals simpa[<-Nat.add_assoc]
   ·exact⟨#[],fun h'=>absurd h' h⟩
  obtain⟨C,hC⟩:=Classical.axiomOfChoice h4
  refine⟨C,fun i h=>(hC i h).1,fun _=> ?_⟩
  rcases ho.2 with ⟨-,h0⟩|⟨g,cap,cur,hv,hb,hh,hn,hm,hs,ht⟩
  ·omega
  ·injection hv with hA2 _ _
   have hlt:g<w'.heap.size:=(Array.getElem?_eq_some_iff.1 hh).1
   have hle:l.length*5<=cur.size:=by rw[hs];exact Nat.mul_le_mul_right 5 hn
   refine⟨g,cur,hA2,hb,hlt,hh,hle,fun i hi=>⟨fun hj=>absurd hj (by omega),fun _ r hr5=> ?_⟩⟩
   obtain⟨⟨k,n,f,s,L,A',cap,e,hCi,hr⟩,hc⟩:=hC i hi
   have hq:i*5+r<l.length*5:=by omega
   have e1:cur[i*5+r]?=(DR w (some ⟨b,off,none⟩) (l.length*5))[i*5+r]?:=by
    rw[<-ht,List.getElem?_take_of_lt hq,Array.getElem?_toList]
   rw[e1]
   have e2:=hc r hr5
   have e3:∃u,(C i)[r]?=some u:=by rw[hCi];exact⟨_,Array.getElem?_eq_getElem (by simpa using hr5)⟩
   obtain⟨u,hu⟩:=e3
   rw[hu] at e2 ⊢
   unfold DR
   simp[List.getElem?_map,List.getElem?_range hq,e2]
theorem Nq {w:World}{base:Nat}{l:List VT}{C:Nat->Array Value}{A:Option Addr}{j:Nat}(hj:j<l.length)(h:Ph w base l C A j){u0 u1 u2 u3 u4:Value}(hC:C j= #[u0,u1,u2,u3,u4]) :
  ∃g,A=some ⟨g,0,none⟩/\base<=g/\g<w.heap.size/\w.cell? ⟨g,j*5,none⟩=some u0/\w.cell? ⟨g,j*5+1,none⟩=some u1/\w.cell? ⟨g,j*5+2,none⟩=some u2/\w.cell? ⟨g,j*5+3,none⟩=some u3/\w.cell? ⟨g,j*5+4,none⟩=some u4/\
   (∀o,w.frozen? ⟨g,o,none⟩=false):=by
 obtain⟨g,cur,hA,h1,h2,h3,h4,h5⟩:=h (by omega)
 have hcell:∀r,r<5->w.cell? ⟨g,j*5+r,none⟩= #[u0,u1,u2,u3,u4][r]?:=fun r hr=>by
  rw[<-hC, <-(h5 j hj).2 (Nat.le_refl _) r hr]
  simp[World.cell?,h3]
 exact⟨g,hA,h1,h2,by simpa using hcell 0 (by omega),by simpa using hcell 1 (by omega),by simpa using hcell 2 (by omega),by simpa using hcell 3 (by omega),by simpa using hcell 4 (by omega),fun o=>by simp[World.frozen?,h3]⟩
theorem DS {w:World}{base:Nat}{e:TypeId}{size:Nat}{v:Value}{n:Nat}{xs:List Value}(h:w.ownsRow base e size v n xs):∃A cap,v= .slice A n cap/\n<=cap/\cap<=maxLen:=by
 rcases h.2 with ⟨rfl,rfl⟩|⟨g,cap,cur,rfl,-,-,h1,h2,-⟩
 ·exact⟨none,0,rfl,Nat.le_refl _,by unfold maxLen;omega⟩
 ·exact⟨_,cap,rfl,h1,h2⟩
theorem mix_set {w:World}{base:Nat}{l:List VT}{C:Nat->Array Value}{A:Option Addr}{j:Nat}(h:Ph w base l C A j){b o:Nat}(hb:b<base)(v:Value):Ph (w.setCell ⟨b,o,none⟩ v) base l C A j:=fun hp=>by
 obtain⟨g,cur,hA,h1,h2,h3,h4,h5⟩:=h hp
 have hz:(w.setCell ⟨b,o,none⟩ v).heap.size=w.heap.size:=by simp[World.setCell]
 refine⟨g,cur,hA,h1,by omega,(Below.heap_setCell w ⟨b,o,none⟩ v g (by simp only[];omega)).trans h3,h4,fun i hi=>⟨fun hj=> ?_,(h5 i hi).2⟩⟩
 obtain⟨D,hD,hc⟩:=(h5 i hi).1 hj
 rw[hz]
 exact⟨D,hD.setCell (.inl (by simp only[];omega)) v,hc⟩
theorem Ll {w:World}{g:Nat}{k n:Int}{f:Nat}{s:ByteArray}{A A2:Option Addr}{m c m2 c2:Nat}(h:BoxAt w g k n f s A m c):BoxAt (w.setCell ⟨g,4,none⟩ (.slice A2 m2 c2)) g k n f s A2 m2 c2:=by
 unfold BoxAt at *
 simp[World.setCell,Array.getElem?_modify,h]
theorem box_far {w:World}{g:Nat}{k n:Int}{f:Nat}{s:ByteArray}{A:Option Addr}{m c:Nat}(h:BoxAt w g k n f s A m c){b o:Nat}(hb:g≠b)(v:Value):BoxAt (w.setCell ⟨b,o,none⟩ v) g k n f s A m c:=
 (Below.heap_setCell w ⟨b,o,none⟩ v g (by simpa using hb)).trans h
theorem Ou {w:World}{g:Nat}{k n:Int}{f:Nat}{s:ByteArray}{A:Option Addr}{m c:Nat}(h:BoxAt w g k n f s A m c)(o:Nat):w.frozen? ⟨g,o,none⟩=false:=by
 unfold BoxAt at h;simp[World.frozen?,h]
theorem free_row {w:World}{g:Nat}{t:TypeId}{cur:Array Value}(h:w.heap[g]?=some (.cells cur t (0,0)))(o:Nat):w.frozen? ⟨g,o,none⟩=false:=by simp[World.frozen?,h]
theorem XH {w wr : World} {k n : Int} {f : Nat} {s : ByteArray} {l : List VT} {C : Nat -> Array Value} {A2 : Option Addr} {cap0 cap2 : Nat} (ho : Fy k n f s cap0) (hl2 : l.length <= cap2) (hc2 : cap2 <= maxLen)
  (hm:Ph wr (w.heap.size+1+1) l C A2 l.length) (hb:Below w.heap.size w wr) :
  DX (.mk k n f s l) w (.returned (.agg #[.int .i64 k,.int .i64 n,.float .f64 f,.string s,.slice A2 l.length cap2])) (DY wr (w.heap.size+1) 0 (.int .i64 k) (.int .i64 n) (.float .f64 f) (.string s) (.slice A2 l.length cap2)):=by
 have hk2:=mix_done hm
 refine⟨k,n,f,s,l,A2,cap2,rfl,rfl,?_,OD hb (by omega),fun hp b off hA o=> ?_⟩
 ·rw [FJ]
  exact(Rep.close ⟨ho.k0,ho.k1,ho.n0,ho.n1,ho.f1,ho.s1,hc2⟩ hl2 (hk2.keep fun b o hb _=>Pq _ _ _ _ _ _ _ _ b o (by omega))).more (by omega) (Nat.le_refl _)
 ·obtain ⟨g, cur, hA', h1, h2, h3, -⟩ := hm hp
  rw[hA] at hA'
  obtain rfl:b=g:=congrArg Addr.block (Option.some.inj hA')
  exact free_row ((OC wr (w.heap.size+1) 0 _ _ _ _ _ b (by omega)).trans h3) o
theorem SH (t:VT):∀(w:World) (lo hi:Nat) (v:Value) (_:Rep w lo hi t v) (_:hi<=w.heap.size) (_:t.Slim 900),
  Calls Tryz.prog 55 #[v] w (DX t w):=by
 induction t using VT.ind with
 | _ k n f s l ih=>
  intro w lo hi v hR hz hS
  obtain⟨A,cap,rfl,ho,hl,hk⟩:=hR.head
  obtain⟨-,hl9,hkS⟩:=Sa.1 hS
  have hc:=ho.m1
  have HO:=Lib.hid ho
  have IH:Hid (∀(i:Nat) (hi:i<l.length) (w:World) (lo hi:Nat) (v:Value) (_:Rep w lo hi l[i] v) (_:hi<=w.heap.size),Calls Tryz.prog 55 #[v] w (DX l[i] w)):=
   Lib.hid fun i hi w lo hi' v h1 h2=>ih i hi w lo hi' v h1 h2 (hkS i hi)
  clear ih hR ho hkS hS
  have HK:=Lib.hid hk;clear hk
  have hl0:0<=(l.length:Int):=by omega
  have SC:=Lib.hid (fun w lo hi h1 h2=>JL l A cap hl9 hl hc w lo hi h1 h2)
  unfold maxLen at hc
  have HBX:=Lib.hid ((BoxAt.new w k n f s A l.length cap).later ((Below.refl (w.heap.size+1) _).alloc (by simp) (.cells #[.int .i64 0,.int .i64 0,.float .f64 0,.string ⟨#[]⟩,.slice none 0 0] 34)) (by omega))
  have HB0:=Lib.hid ((DC w k n f s A l.length cap).alloc (by simp) (.cells #[.int .i64 0,.int .i64 0,.float .f64 0,.string ⟨#[]⟩,.slice none 0 0] 34))
  go_enter Tryz.func55,Tryz.ntmps55
  go_wp2_with fail
  refine(SC.out _ lo hi ((HK.out.alloc hz _).alloc (by simp;omega) _) (by simp;omega)).mono ?_
  rintro e w3 ⟨v',rfl,hown,hb3⟩
  obtain⟨A2,cap2,rfl,hl2,hc2⟩:=DS hown
  obtain⟨C,hC,hmix⟩:=Nn ((HK.out.alloc hz _).alloc (by simp;omega) _) (by simp;omega) hown
  have HC:=Lib.hid hC
  clear hC hown
  simp only[World.size_alloc] at hmix
  have hsz3:=hb3.size
  simp only[World.size_alloc] at hsz3
  have hbox:=HBX.out.later hb3 (by simp;omega)
  have hres : BoxAt w3 (w.heap.size + 1) 0 0 0 ⟨#[]⟩ none 0 0 := (hb3.block (w.heap.size + 1) (by simp only [World.size_alloc]; omega)).trans (by
   have:=BoxAt.new (w.alloc (.cells #[.int .i64 k,.int .i64 n,.float .f64 f,.string s,.slice A l.length cap] 34)) 0 0 0 ⟨#[]⟩ none 0 0
   rw[World.size_alloc] at this
   exact this)
  have hb03:Below w.heap.size w w3:=HB0.out.trans (hb3.mono (by simp;omega))
  clear hb3 HBX HB0 SC
  obtain⟨c0,c1,c2,c3,c4⟩:=hbox.cells
  have hfz:=Ou hbox 4
  have HM:=Lib.hid (mix_set hmix (b:=w.heap.size) (o:=4) (by omega) (.slice A2 l.length cap2))
  have HBX:=Lib.hid (Ll (A2:=A2) (m2:=l.length) (c2:=cap2) hbox)
  have HRS:=Lib.hid (box_far hres (b:=w.heap.size) (o:=4) (by omega) (.slice A2 l.length cap2))
  have HBW:=Lib.hid (hb03.setCell (p:=⟨w.heap.size,4,none⟩) (Nat.le_refl _) (.slice A2 l.length cap2))
  clear hmix hbox hres hb03
  unfold maxLen at hc2
  go_wp2_with fail
  go_loopw [12] (fun i wr=>∃(j:Nat),j<=l.length/\i= .int .i64 j/\BoxAt wr w.heap.size k n f s A2 l.length cap2/\BoxAt wr (w.heap.size+1) 0 0 0 ⟨#[]⟩ none 0 0/\Ph wr (w.heap.size+1+1) l C A2 j/\Below w.heap.size w wr) (fun i _=>l.length-(intOf i).toNat)
  case atStart=>exact⟨0,by omega,rfl,HBX.out,HRS.out,HM.out,HBW.out⟩
  case round=>
   clear HBX HRS HM HBW c0 c1 c2 c3 c4 hfz hsz3
   obtain⟨j,hj,rfl,hbox,hres,hmix,hb⟩:=hrel
   have hlt0:=hres.lt
   by_cases hlt:j<l.length
   ·obtain ⟨k', n', f', s', L', A', cap', e, hCj, hrj⟩ := HC.out j hlt
    obtain⟨g,hA2,hg1,hg2,d0,d1,d2,d3,d4,hfg⟩:=Nq hlt hmix hCj
    subst hA2
    obtain⟨c0,c1,c2,c3,c4⟩:=hbox.cells
    have HRJ:Hid (Rep wr lo hi l[j] (.agg #[.int .i64 k',.int .i64 n',.float .f64 f',.string s',.slice A' L'.length cap'])):=Lib.hid (by
     rw[hCj] at hrj
     exact hrj.keep fun b o _ h2=>(hb.cell (p:=⟨b,o,none⟩) (by simp only[];omega)).trans (by simp[World.cell?_alloc_lt,show b<w.heap.size by omega,show b<w.heap.size+1 by omega]))
    have HBX:=Lib.hid hbox;have HRS:=Lib.hid hres;have HMX:=Lib.hid hmix;have HB:=Lib.hid hb;have HFG:=Lib.hid hfg
    clear hCj hrj e hbox hres hmix hb hfg
    go_wp2_with fail
    have hq:=BoxAt.new wr k' n' f' s' A' L'.length cap'
    have HBQ:Hid (Below wr.heap.size wr (wr.alloc (.cells #[.int .i64 k',.int .i64 n',.float .f64 f',.string s',.slice A' L'.length cap'] 34))):=Lib.hid (DC ..)
    have hqz:(wr.alloc (.cells #[.int .i64 k',.int .i64 n',.float .f64 f',.string s',.slice A' L'.length cap'] 34)).heap.size=wr.heap.size+1:=World.size_alloc ..
    generalize wr.alloc (.cells #[.int .i64 k',.int .i64 n',.float .f64 f',.string s',.slice A' L'.length cap'] 34)=wq at *
    have hqz':wr.heap.size<wq.heap.size:=by omega
    have HQZ:=Lib.hid hqz;clear hqz
    obtain⟨q0,q1,q2,q3,q4⟩:=hq.cells
    have c4':wq.cell? ⟨w.heap.size,4,none⟩=some (.slice (some ⟨g,0,none⟩) l.length cap2):=(HBQ.out.cell (p:=⟨w.heap.size,4,none⟩) (by simp only[];omega)).trans c4
    clear hq
    have hgq:g<wq.heap.size:=by omega
    have H9:Hid (∀W',Below wq.heap.size wq W'->Calls Tryz.prog 55 #[.agg #[.int .i64 k',.int .i64 n',.float .f64 f',.string s',.slice A' L'.length cap']] W' (DX l[j] W')):=Lib.hid fun W' hb=>by
     have hz':=hb.size
     exact IH.out j hlt W' lo hi _ ((HRJ.out.later (HBQ.out.mono (by omega))).later (hb.mono (by omega))) (by omega)
    have KS:Hid (∀W',Below wq.heap.size wq W'->W'.cell? ⟨w.heap.size,4,none⟩=some (.slice (some ⟨g,0,none⟩) l.length cap2)/\W'.cell? ⟨wr.heap.size,0,none⟩=some (.int .i64 k')/\W'.cell? ⟨wr.heap.size,1,none⟩=some (.int .i64 n')/\W'.cell? ⟨wr.heap.size,2,none⟩=some (.float .f64 f')/\W'.cell? ⟨wr.heap.size,3,none⟩=some (.string s')/\W'.cell? ⟨wr.heap.size,4,none⟩=some (.slice A' L'.length cap')):=Lib.hid fun W' hb=>by
     have e1:∀b o,b<wq.heap.size->W'.cell? ⟨b,o,none⟩=wq.cell? ⟨b,o,none⟩:=fun b o h=>hb.cell (p:=⟨b,o,none⟩) h
     exact⟨(e1 _ _ (by omega)).trans c4',(e1 _ _ hqz').trans q0,(e1 _ _ hqz').trans q1,(e1 _ _ hqz').trans q2,(e1 _ _ hqz').trans q3,(e1 _ _ hqz').trans q4⟩
    have KS2:Hid (∀(W5 W':World),Below wq.heap.size wq W5->(∀b p,b≠g->W'.cell? ⟨b,p,none⟩=W5.cell? ⟨b,p,none⟩)->W'.cell? ⟨w.heap.size,4,none⟩=some (.slice (some ⟨g,0,none⟩) l.length cap2)/\W'.cell? ⟨wr.heap.size,0,none⟩=some (.int .i64 k')/\W'.cell? ⟨wr.heap.size,1,none⟩=some (.int .i64 n')/\W'.cell? ⟨wr.heap.size,2,none⟩=some (.float .f64 f')/\W'.cell? ⟨wr.heap.size,3,none⟩=some (.string s')/\W'.cell? ⟨wr.heap.size,4,none⟩=some (.slice A' L'.length cap')):=Lib.hid fun W5 W' hb he=>by
     obtain⟨a0,a1,a2,a3,a4,a5⟩:=KS.out W5 hb
     exact⟨(he _ _ (by omega)).trans a0,(he _ _ (by omega)).trans a1,(he _ _ (by omega)).trans a2,(he _ _ (by omega)).trans a3,(he _ _ (by omega)).trans a4,(he _ _ (by omega)).trans a5⟩
    have KG:Hid (∀W',Below wq.heap.size wq W'->W'.cell? ⟨g,j*5,none⟩=some (.int .i64 k')/\W'.cell? ⟨g,j*5+1,none⟩=some (.int .i64 n')/\W'.cell? ⟨g,j*5+2,none⟩=some (.float .f64 f')/\W'.cell? ⟨g,j*5+3,none⟩=some (.string s')/\W'.cell? ⟨g,j*5+4,none⟩=some (.slice A' L'.length cap')/\
      W'.frozen? ⟨g,j*5,none⟩=false/\W'.frozen? ⟨g,j*5+1,none⟩=false/\W'.frozen? ⟨g,j*5+2,none⟩=false/\W'.frozen? ⟨g,j*5+3,none⟩=false/\W'.frozen? ⟨g,j*5+4,none⟩=false):=Lib.hid fun W' hb=>by
     have e1:∀o,W'.cell? ⟨g,o,none⟩=wq.cell? ⟨g,o,none⟩:=fun o=>hb.cell (p:=⟨g,o,none⟩) hgq
     have e2:∀o,W'.frozen? ⟨g,o,none⟩=false:=fun o=>(hb.frozen (p:=⟨g,o,none⟩) hgq).trans ((HBQ.out.frozen (p:=⟨g,o,none⟩) hg2).trans (HFG.out o))
     have e3:∀o,wq.cell? ⟨g,o,none⟩=wr.cell? ⟨g,o,none⟩:=fun o=>HBQ.out.cell (p:=⟨g,o,none⟩) hg2
     exact⟨((e1 _).trans (e3 _)).trans d0,((e1 _).trans (e3 _)).trans d1,((e1 _).trans (e3 _)).trans d2,((e1 _).trans (e3 _)).trans d3,((e1 _).trans (e3 _)).trans d4,e2 _,e2 _,e2 _,e2 _,e2 _⟩
    clear d0 d1 d2 d3 d4 q0 q1 q2 q3 q4 c0 c1 c2 c3 c4 c4'
    go_region_held3 (fun W' => W'.cell? ⟨w.heap.size, 4, none⟩ = some (.slice (some ⟨g, 0, none⟩) l.length cap2) /\ W'.cell? ⟨wr.heap.size, 0, none⟩ = some (.int .i64 k') /\ W'.cell? ⟨wr.heap.size, 1, none⟩ = some (.int .i64 n') /\ W'.cell? ⟨wr.heap.size, 2, none⟩ = some (.float .f64 f') /\ W'.cell? ⟨wr.heap.size, 3, none⟩ = some (.string s') /\ W'.cell? ⟨wr.heap.size, 4, none⟩ = some (.slice A' L'.length cap'))
     (first
      | (exact KS.out _ (Da (Below.refl _ _)))
      | (exact KS.out _ (Below.trans (Da (Below.refl _ _)) hb9))
      | (exact KS2.out w5 _ (Below.trans (Da (Below.refl _ _)) hb9) (fun b p h=>Pq w5 g (j*5) _ _ _ _ _ b p h)))
     ((go_at_call 55;refine(H9.out _ (Da (Below.refl _ _))).mono ?_;rintro e w5 ⟨k5,n5,f5,s5,L5,A5,cap5,e5,rfl,hr5,hb9,-⟩;obtain⟨g0,g1,g2,g3,g4,f0,f1,f2,f3,f4⟩:=KG.out w5 (Below.trans (Da (Below.refl _ _)) hb9);have E5:=Lib.hid e5;clear e5))
    have hbq5:Below wq.heap.size wq w5:=Below.trans (Da (Below.refl _ _)) hb9
    have hb5r:Below wr.heap.size wr w5:=HBQ.out.trans (hbq5.mono (by omega))
    clear hbq5
    have hz5:=hb5r.size
    have HR5:Hid (Rep w5 (g+1) w5.heap.size l[j] (.agg #[.int .i64 k5,.int .i64 n5,.float .f64 f5,.string s5,.slice A5 L5.length cap5])):=Lib.hid (hr5.more (by show g+1<=wq.heap.size;omega) (Nat.le_refl _))
    have HM5:=Lib.hid (mix_step hlt (Np HMX.out hb5r) rfl HR5.out)
    have HX5:=Lib.hid (show BoxAt (DY w5 g (j*5) (.int .i64 k5) (.int .i64 n5) (.float .f64 f5) (.string s5) (.slice A5 L5.length cap5)) w.heap.size k n f s (some ⟨g,0,none⟩) l.length cap2 from (OC _ _ _ _ _ _ _ _ _ (by omega)).trans (HBX.out.later hb5r (by omega)))
    have HS5:=Lib.hid (show BoxAt (DY w5 g (j*5) (.int .i64 k5) (.int .i64 n5) (.float .f64 f5) (.string s5) (.slice A5 L5.length cap5)) (w.heap.size+1) 0 0 0 ⟨#[]⟩ none 0 0 from (OC _ _ _ _ _ _ _ _ _ (by omega)).trans (HRS.out.later hb5r (by omega)))
    have HB5:=Lib.hid (OD (d0:= .int .i64 k5) (d1:= .int .i64 n5) (d2:= .float .f64 f5) (d3:= .string s5) (d4:= .slice A5 L5.length cap5) (o:=j*5) (HB.out.trans (hb5r.mono (by omega))) (show w.heap.size<=g by omega))
    clear hb5r hr5 hb9 KS KS2 KG H9 HMX HBX HRS HB HR5 HFG HBQ HRJ E5
    go_split_ands
    unfold DY at HM5 HX5 HS5 HB5
    generalize ((((w5.setCell ⟨g,j*5,none⟩ (.int .i64 k5)).setCell ⟨g,j*5+1,none⟩ (.int .i64 n5)).setCell ⟨g,j*5+2,none⟩ (.float .f64 f5)).setCell ⟨g,j*5+3,none⟩ (.string s5)).setCell ⟨g,j*5+4,none⟩ (.slice A5 L5.length cap5)=w6 at *
    clear g0 g1 g2 g3 g4 f0 f1 f2 f3 f4
    go_wp2_with fail
    go_roundw
    case rel=>exact⟨j+1,by omega,by go_num,HX5.out,HS5.out,HM5.out,HB5.out⟩
    case measure=>simp[intOf];omega
   ·have hj' : j = l.length := by omega
    subst hj'
    obtain⟨c0,c1,c2,c3,c4⟩:=hbox.cells
    obtain⟨r0,r1,r2,r3,r4⟩:=hres.cells
    have f0:=Ou hres 0
    have f1:=Ou hres 1
    have f2:=Ou hres 2
    have f3:=Ou hres 3
    have f4:=Ou hres 4
    have HMX:=Lib.hid hmix;have HB:=Lib.hid hb;have HRS:=Lib.hid hres
    clear hmix hb hbox hres
    go_wp2_with fail
    refine bodyPost_ret (v:= .agg #[.int .i64 k,.int .i64 n,.float .f64 f,.string s,.slice A2 l.length cap2]) (by simp[results,Tryz.results55,go_sem,r0,r1,r2,r3,r4]) rfl ?_
    exact XH HO.out hl2 (by unfold maxLen;exact hc2) HMX.out HB.out
end Vt
namespace Cm
variable {X : Nat -> Prop}
open Nm (Dk De)
open Vt (VT Rep BoxAt Da)
open Ev (EV Dj Db Dn EBox)
theorem Tryz.infoE : (Tryz.prog.info? 61).map (fun i=>(i.zero,i.size,i.bytes))=some (some (.agg #[.int .i64 0,.int .u64 0,.int .i64 0,.int .u64 0,.string ⟨#[]⟩,.string ⟨#[]⟩,.int .i64 0,.int .i64 0,.float .f64 0,.string ⟨#[]⟩,.slice none 0 0]),11,128):=by kernel_rfl
def EvCell (X:Nat->Prop)(w:World)(g:Nat)(ro:Option Nat)(xs:List Value)(i:Nat)(e:EV):Prop:=∃lo hi vk vn vf vs A m c,Dj e/\Rep w lo hi e.v (Dn vk vn vf vs A m c)/\hi<=w.heap.size/\(g<lo\/hi<=g)/\(∀r,ro=some r\/X r->r<lo\/hi<=r)/\
 ∀j,j<11->xs[i*11+j]?=(Db e vk vn vf vs A m c)[j]?
def rowOf (A:Option Addr):Option Nat:=A.map (·.block)
theorem Fa (A:Option Addr)(n c:Nat):(Value.slice A n c).ownBlock=rowOf A:=by cases A<;>rfl
def RowsAt (X:Nat->Prop)(w:World)(base g:Nat)(A:Option Addr)(cap:Nat)(es:List EV):Prop:=∃xs,w.ownsRow base 61 11 (.slice A es.length cap) es.length xs/\rowOf A≠some g/\∀i (h:i<es.length),EvCell X w g (rowOf A) xs i es[i]
structure OnlyAt (w w' : World) (g : Nat) (ro : Option Nat) : Prop where
 os:w'.os=w.os
 tape:w'.tape=w.tape
 output:w'.output=w.output
 size:w.heap.size<=w'.heap.size
 block:∀b,b<w.heap.size->b≠g->some b≠ro->w'.heap[b]?=w.heap[b]?
theorem OnlyAt.of_below {w w':World}{g:Nat}{ro:Option Nat}(h:Below w.heap.size w w'):OnlyAt w w' g ro:=⟨h.os,h.tape,h.output,h.size,fun b hb _ _=>h.block b hb⟩
theorem OnlyAt.trans {w w' w'':World}{g:Nat}{ro:Option Nat}(h:OnlyAt w w' g ro)(k:OnlyAt w' w'' g ro):OnlyAt w w'' g ro:=
 ⟨k.os.trans h.os,k.tape.trans h.tape,k.output.trans h.output,Nat.le_trans h.size k.size,fun b hb h1 h2=>(k.block b (Nat.lt_of_lt_of_le hb h.size) h1 h2).trans (h.block b hb h1 h2)⟩
theorem OnlyAt.below {w w':World}{g base:Nat}{ro:Option Nat}(h:OnlyAt w w' g ro)(hg:base<=g)(hr:∀r,ro=some r->base<=r)(hb:base<=w.heap.size):Below base w w':=
 ⟨h.os,h.tape,h.output,h.size,fun b hlt=>h.block b (by omega) (by omega) (fun e=>by have:=hr b e.symm;omega)⟩
theorem OnlyAt.set {w w':World}{g:Nat}{ro:Option Nat}(h:OnlyAt w w' g ro)(o:Nat)(v:Value):OnlyAt w (w'.setCell ⟨g,o,none⟩ v) g ro:=
 ⟨h.os,h.tape,h.output,by simpa[World.setCell] using h.size,fun b hb h1 h2=>(Below.heap_setCell w' ⟨g,o,none⟩ v b (by simpa using h1)).trans (h.block b hb h1 h2)⟩
theorem EvCell.only {w w':World}{g:Nat}{ro:Option Nat}{xs:List Value}{i:Nat}{e:EV}(h:EvCell X w g ro xs i e)(ho:OnlyAt w w' g ro):EvCell X w' g ro xs i e:=by
 obtain⟨lo,hi,vk,vn,vf,vs,A,m,c,h1,h2,h3,h4,h5,h6⟩:=h
 refine⟨lo,hi,vk,vn,vf,vs,A,m,c,h1,h2.keep fun b o hb1 hb2=> ?_,Nat.le_trans h3 ho.size,h4,h5,h6⟩
 exact World.cell?_of_block (a:=⟨b,o,none⟩) (ho.block b (by omega) (by omega) (fun e=>by have:=h5 b (.inl e.symm);omega))
theorem OnlyAt.any {w w':World}{g:Nat}{ro:Option Nat}(h:OnlyAt w w' g none):OnlyAt w w' g ro:=⟨h.os,h.tape,h.output,h.size,fun b hb h1 _=>h.block b hb h1 (by simp)⟩
theorem RowsAt.only {w w':World}{base g:Nat}{A:Option Addr}{cap:Nat}{es:List EV}(h:RowsAt X w base g A cap es)(hb:OnlyAt w w' g none):RowsAt X w' base g A cap es:=by
 obtain⟨xs,h1,h2,h3⟩:=h
 refine⟨xs,⟨h1.1,?_⟩,h2,fun i hi=>(h3 i hi).only hb.any⟩
 rcases h1.2 with h|⟨r,cp,cur,q1,q2,q3,q4⟩
 ·exact .inl h
 ·refine .inr ⟨r, cp, cur, q1, q2, ?_, q4⟩
  injection q1 with q1
  subst q1
  exact(hb.block r (Array.getElem?_eq_some_iff.1 q3).1 (fun e=>h2 (by rw[e];rfl)) (by simp)).trans q3
theorem RowsAt.later {w w':World}{base g:Nat}{A:Option Addr}{cap:Nat}{es:List EV}(h:RowsAt X w base g A cap es)(hb:Below w.heap.size w w'):RowsAt X w' base g A cap es:=h.only (OnlyAt.of_below hb)
theorem Gf {g:Nat}{t:TypeId}:∀(vs:List Value) (o:Nat) (w:World) (cur:Array Value),w.heap[g]?=some (.cells cur t (0,0))->o+vs.length<=cur.size->
  ∃cur',(w.setCells g o vs).heap[g]?=some (.cells cur' t (0,0))/\cur'.size=cur.size/\(∀q,q<o->cur'[q]?=cur[q]?)/\∀j (h:j<vs.length),cur'[o+j]?=some vs[j]:=by
 intro vs
 induction vs with
 | nil=>intro o w cur h _;exact⟨cur,h,rfl,fun _ _=>rfl,fun j h=>absurd h (by simp)⟩
 | cons v vs ih=>
  intro o w cur h hs
  simp only[List.length_cons] at hs
  have h1:(w.setCell ⟨g,o,none⟩ v).heap[g]?=some (.cells (cur.setIfInBounds o v) t (0,0)):=by simp[World.setCell,Array.getElem?_modify,h]
  obtain⟨cur',k1,k2,k3,k4⟩:=ih (o+1) _ _ h1 (by simp;omega)
  refine⟨cur',k1,by simpa using k2,fun q hq=> ?_,fun j hj=> ?_⟩
  ·rw[k3 q (by omega),Array.getElem?_setIfInBounds,if_neg (by omega)]
  ·cases j with
   | zero=>
    rw[Nat.add_zero,k3 o (by omega),Array.getElem?_setIfInBounds,if_pos rfl,if_pos (by omega)]
    rfl
   | succ j=>
    have:=k4 j (by simpa using hj)
    rw[show o+(j+1)=o+1+j from by omega,this]
    rfl
open Ev (SJ)
section
variable {P : Program} {ops : Array Oper} {Q : Exit -> Act -> World -> Prop} {md : Region.Mode}
end
def withId (e:EV)(n:Nat):EV:={e with id:=n}
open Vt (DX)
open Ev (zeroT)
structure BS where mk ::
 es:List EV
 closed:Int
 next:Nat
 at':Nat
def BS.number (s:BS)(e:EV):BS×Nat:=if (withId e s.next).valid=true/\s.closed=0 then (⟨s.es++ [withId e s.next],0,s.next+1,s.at'⟩,s.next) else (s,0)
def BS.fin (s:BS)(e:EV):BS×Bool:=if e.valid=true/\s.closed=0 then (⟨s.es++ [e],e.k,s.next,s.at'⟩,true) else (s,false)
open Vt (DY)
def EvNew (w:World)(base:Nat)(ro:Option Nat)(xs:List Value)(i:Nat)(e:EV):Prop:=∃lo hi vk vn vf vs A m c,base<=lo/\Dj e/\Rep w lo hi e.v (Dn vk vn vf vs A m c)/\hi<=w.heap.size/\(∀r,ro=some r->r<lo\/hi<=r)/\(0<e.v.l.length->∀b off,A=some ⟨b,off,none⟩->∀o,w.frozen? ⟨b,o,none⟩=false)/\
 ∀j,j<11->xs[i*11+j]?=(Db e vk vn vf vs A m c)[j]?
def EvsAt (w:World)(base:Nat)(A:Option Addr)(cap n:Nat)(es:List EV):Prop:=es.length=n/\∃xs,w.ownsRow base 61 11 (.slice A n cap) n xs/\∀i (h:i<es.length),EvNew w base (rowOf A) xs i es[i]
theorem DO {w w':World}{b:Nat}(h:w'.heap[b]?=w.heap[b]?)(o:Nat):w'.frozen? ⟨b,o,none⟩=w.frozen? ⟨b,o,none⟩:=by simp[World.frozen?,h]
theorem Pp {w:World}{lo hi:Nat}{t:VT}{vk vn:Int}{vf:Nat}{vs:ByteArray}{A:Option Addr}{m c:Nat}(h:Rep w lo hi t (Dn vk vn vf vs A m c)):0<t.l.length->∀b off,A=some ⟨b,off,none⟩->lo<=b/\b<hi:=by
 intro hp b off hA
 obtain⟨k,n,f,s,l,A',cap,rfl,hv,-,-,hk⟩:=h.open_
 injection hv with hv
 simp at hv
 obtain⟨-,-,-,-,rfl,-,-⟩:=hv
 obtain⟨b',off',hA',h1,h2,-⟩:=hk.at_ hp
 rw[hA] at hA'
 injection hA' with hA'
 injection hA' with hb _ _
 subst hb
 exact⟨h1,h2⟩
theorem EvNew.keep {w w':World}{base:Nat}{ro:Option Nat}{xs:List Value}{i:Nat}{e:EV}(h:EvNew w base ro xs i e)(hz:w.heap.size<=w'.heap.size)(ho:∀b,b<w.heap.size->some b≠ro->w'.heap[b]?=w.heap[b]?):EvNew w' base ro xs i e:=by
 obtain⟨lo,hi,vk,vn,vf,vs,A,m,c,h0,h1,h2,h3,h5,hfr,h6⟩:=h
 have hin:=Pp h2
 refine⟨lo,hi,vk,vn,vf,vs,A,m,c,h0,h1,h2.keep fun b o hb1 hb2=> ?_,Nat.le_trans h3 hz,h5,fun hp b off hA o=> ?_,h6⟩
 ·exact World.cell?_of_block (a:=⟨b,o,none⟩) (ho b (by omega) (fun e=>by have:=h5 b e.symm;omega))
 ·obtain ⟨q1, q2⟩ := hin hp b off hA
  exact(DO (ho b (by omega) (fun e=>by have:=h5 b e.symm;omega)) o).trans (hfr hp b off hA o)
theorem EvsAt.later {w w':World}{base:Nat}{A:Option Addr}{cap n:Nat}{es:List EV}(h:EvsAt w base A cap n es)(hb:Below w.heap.size w w'):EvsAt w' base A cap n es:=by
 obtain⟨h0,xs,h1,h3⟩:=h
 refine⟨h0,xs,⟨h1.1,?_⟩,fun i hi=>(h3 i hi).keep hb.size (fun b hlt _=>hb.block b hlt)⟩
 rcases h1.2 with h|⟨r,cp,cur,q1,q2,q3,q4⟩
 ·exact .inl h
 ·exact .inr ⟨r,cp,cur,q1,q2,(hb.block r (Array.getElem?_eq_some_iff.1 q3).1).trans q3,q4⟩
theorem Kn (e:EV)(vk vn:Int)(vf:Nat)(vs:ByteArray)(A:Option Addr)(m c:Nat):∀u∈(Db e vk vn vf vs A m c).toList,u.oneCell'=true:=by
 intro u hu
 simp[Db] at hu
 rcases hu with rfl|rfl|rfl|rfl|rfl|rfl|rfl|rfl|rfl|rfl|rfl<;>rfl
theorem VV {w:World}{base:Nat}{A:Option Addr}{cap n:Nat}{es:List EV}(h:EvsAt w base A cap n es)(j:Nat)(hj:j<es.length) :
  ∃r lo hi vk vn vf vs A' m c,A=some ⟨r,0,none⟩/\r<w.heap.size/\base<=r/\base<=lo/\(r<lo\/hi<=r)/\(0<es[j].v.l.length->∀b off,A'=some ⟨b,off,none⟩->∀o,w.frozen? ⟨b,o,none⟩=false)/\Dj es[j]/\Rep w lo hi es[j].v (Dn vk vn vf vs A' m c)/\hi<=w.heap.size/\n<=cap/\cap<=maxLen/\∀q,q<11->w.cell? ⟨r,j*11+q,none⟩=(Db es[j] vk vn vf vs A' m c)[q]?:=by
 obtain⟨h0,xs,h1,h3⟩:=h
 obtain⟨lo,hi,vk,vn,vf,vs,A',m,c,p0,p1,p2,p3,p5,pf,p6⟩:=h3 j hj
 rcases h1.2 with ⟨-,h0'⟩|⟨r,cp,cur,q1,q2,q3,q4,q5,q6,q7⟩
 ·omega
 ·injection q1 with q1 _ q1'
  subst q1'
  refine⟨r,lo,hi,vk,vn,vf,vs,A',m,c,q1,(Array.getElem?_eq_some_iff.1 q3).1,q2,p0,p5 r (by rw[q1];rfl),pf,p1,p2,p3,q4,q5,fun q hq=> ?_⟩
  rw[<-p6 q hq, <-q7,List.getElem?_take_of_lt (by omega),Array.getElem?_toList]
  simp[World.cell?,q3]
theorem Sq : VT.Slim 900 zeroT:=by
 unfold zeroT
 rw[Vt.Sa]
 exact⟨Nat.zero_le _,Nat.zero_le _,fun i h=>absurd h (by simp)⟩
def Gr (a b:EV):Bool:=a.k==b.k&&a.id==b.id&&a.n==b.n&&a.at'==b.at'&&decide (a.name=b.name)&&decide (a.text=b.text)&&a.v.same b.v
theorem YY (a:EV):Gr a a=true:=by simp[Gr,Vt.Gy]
structure EvsIn (w : World) (A : Option Addr) (cap : Nat) (es : List EV) : Prop where
 le:es.length<=cap
 cap_le:cap<=maxLen
 at_:0<es.length->∃b off,A=some ⟨b,off,none⟩/\b<w.heap.size/\∀i (h:i<es.length),∃lo hi vk vn vf vs A' m c,Dj es[i]/\Rep w lo hi es[i].v (Dn vk vn vf vs A' m c)/\hi<=w.heap.size/\
  ∀q,q<11->w.cell? ⟨b,off+i*11+q,none⟩=(Db es[i] vk vn vf vs A' m c)[q]?
theorem EvsIn.later {w w':World}{A:Option Addr}{cap:Nat}{es:List EV}(h:EvsIn w A cap es)(hb:Below w.heap.size w w'):EvsIn w' A cap es:=⟨h.le,h.cap_le,fun hp=>by
 obtain⟨b,off,hA,hlt,h3⟩:=h.at_ hp
 refine⟨b,off,hA,Nat.lt_of_lt_of_le hlt hb.size,fun i hi=> ?_⟩
 obtain⟨lo,hi',vk,vn,vf,vs,A',m,c,h4,h5,h6,h7⟩:=h3 i hi
 exact⟨lo,hi',vk,vn,vf,vs,A',m,c,h4,h5.later (hb.mono h6),Nat.le_trans h6 hb.size,fun q hq=>(hb.cell (p:=⟨b,_,none⟩) hlt).trans (h7 q hq)⟩⟩
theorem EvsAt.read {w:World}{base:Nat}{A:Option Addr}{cap n:Nat}{es:List EV}(h:EvsAt w base A cap n es):EvsIn w A cap es:=by
 have hle:es.length<=cap/\cap<=maxLen:=by
  obtain⟨rfl,xs,h1,-⟩:=h
  obtain⟨A',cap',hv,h2,h3⟩:=Vt.DS h1
  injection hv with _ _ hc
  subst hc
  exact⟨h2,h3⟩
 refine⟨hle.1,hle.2,fun hp=> ?_⟩
 obtain⟨r,lo,hi,vk,vn,vf,vs,A',m,c,rfl,hr,-⟩:=VV h 0 hp
 refine⟨r,0,rfl,hr,fun i hi=> ?_⟩
 obtain⟨r',lo,hi',vk,vn,vf,vs,A',m,c,hA,-,-,-,-,-,h1,h2,h3,-,-,h4⟩:=VV h i hi
 injection hA with hA
 injection hA with hr' _ _
 subst hr'
 exact⟨lo,hi',vk,vn,vf,vs,A',m,c,h1,h2,h3,fun q hq=>by rw[Nat.zero_add];exact h4 q hq⟩
structure MAt (w : World) (base : Nat) (A : Option Addr) (cap : Nat) (es : List EV) : Prop where
 nil_:es= []->A=none/\cap=0
 le:es.length<=cap
 cap_le:cap<=maxLen
 at_:0<es.length->∃b,A=some ⟨b,0,none⟩/\base<=b/\b<w.heap.size/\∀i (h:i<es.length),∃vk vn vf vs A' m c,Dj es[i]/\Rep w 0 base es[i].v (Dn vk vn vf vs A' m c)/\
  ∀q,q<11->w.cell? ⟨b,i*11+q,none⟩=(Db es[i] vk vn vf vs A' m c)[q]?
theorem MAt.row_lt {w:World}{base:Nat}{A:Option Addr}{cap:Nat}{es:List EV}(h:MAt w base A cap es)(hp:0<es.length){r:Nat}(hr:rowOf A=some r):base<=r/\r<w.heap.size:=by
 obtain⟨b,rfl,h1,h2,-⟩:=h.at_ hp
 obtain rfl:=Option.some.inj hr
 exact⟨h1,h2⟩
theorem MAt.nil (w:World)(base:Nat):MAt w base none 0 []:=⟨fun _=>⟨rfl,rfl⟩,Nat.le_refl _,Nat.zero_le _,fun h=>absurd h (by simp)⟩
theorem MAt.later {w w':World}{base:Nat}{A:Option Addr}{cap:Nat}{es:List EV}(h:MAt w base A cap es)(hbs:base<=w.heap.size)(hb:Below w.heap.size w w'):MAt w' base A cap es:=⟨h.nil_,h.le,h.cap_le,fun hp=>by
 obtain⟨b,rfl,h1,h2,h3⟩:=h.at_ hp
 refine⟨b,rfl,h1,Nat.lt_of_lt_of_le h2 hb.size,fun i hi=> ?_⟩
 obtain⟨vk,vn,vf,vs,A',m,c,h4,h5,h7⟩:=h3 i hi
 exact⟨vk,vn,vf,vs,A',m,c,h4,h5.later (hb.mono hbs),fun q hq=>(World.cell?_of_block (a:=⟨b,_,none⟩) (hb.block b h2)).trans (h7 q hq)⟩⟩
open Nm (Di)
open Vt (toList_inj)
theorem EvsIn.get {w:World}{A:Option Addr}{cap:Nat}{es:List EV}(h:EvsIn w A cap es)(i:Nat)(hi:i<es.length) :
  ∃b off lo hi vk vn vf vs A' m c,A=some ⟨b,off,none⟩/\b<w.heap.size/\Dj es[i]/\Rep w lo hi es[i].v (Dn vk vn vf vs A' m c)/\hi<=w.heap.size/\
   w.cell? ⟨b,off+i*11,none⟩=some (.int .i64 es[i].k)/\w.cell? ⟨b,off+i*11+1,none⟩=some (.int .u64 es[i].id)/\w.cell? ⟨b,off+i*11+2,none⟩=some (.int .i64 es[i].n)/\w.cell? ⟨b,off+i*11+3,none⟩=some (.int .u64 es[i].at')/\
   w.cell? ⟨b,off+i*11+4,none⟩=some (.string es[i].name)/\w.cell? ⟨b,off+i*11+5,none⟩=some (.string es[i].text)/\w.cell? ⟨b,off+i*11+6,none⟩=some (.int .i64 vk)/\w.cell? ⟨b,off+i*11+7,none⟩=some (.int .i64 vn)/\
   w.cell? ⟨b,off+i*11+8,none⟩=some (.float .f64 vf)/\w.cell? ⟨b,off+i*11+9,none⟩=some (.string vs)/\w.cell? ⟨b,off+i*11+10,none⟩=some (.slice A' m c):=by
 obtain⟨b,off,hA,hlt,h3⟩:=h.at_ (by omega)
 obtain⟨lo,hi',vk,vn,vf,vs,A',m,c,h4,h5,h6,h7⟩:=h3 i hi
 exact⟨b,off,lo,hi',vk,vn,vf,vs,A',m,c,hA,hlt,h4,h5,h6,h7 0 (by omega),h7 1 (by omega),h7 2 (by omega),h7 3 (by omega),h7 4 (by omega),h7 5 (by omega),h7 6 (by omega),h7 7 (by omega),h7 8 (by omega),h7 9 (by omega),h7 10 (by omega)⟩
def FU (a b:List EV):Bool:=a.length==b.length&&(a.zip b).all (fun p=>Gr p.1 p.2)
theorem OJ (a:List EV):FU a a=true:=by
 simp only[FU,beq_self_eq_true,Bool.true_and,List.all_eq_true]
 rintro⟨x,y⟩ h
 rw[List.zip_eq_zipWith] at h
 have:x=y:=by
  rw[List.mem_iff_getElem] at h
  obtain⟨i,hi,he⟩:=h
  simp at he
  exact he.1.symm.trans he.2
 subst this
 exact YY x
end Cm
namespace Hi
open Vt (VT)
open Ev (EV)
structure TK where mk ::
 id:Nat
 name:ByteArray
 v:VT
 n:Int
 fl:Bool
 at':Nat
structure ST where mk ::
 tasks:List TK
 timers:List (Nat×Nat)
 keys:List ByteArray
 next:Nat
 closed:Int
def Fb (l:List TK)(id:Nat):Option TK:=l.find? fun t=>decide (t.id=id)
def FN (l:List TK)(t:TK):List TK:=l.map fun x=>if x.id=t.id then t else x
def GV (l:List TK)(id:Nat):List TK:=l.filter fun x=>decide (x.id≠id)
def FR (l:List (Nat×Nat))(id:Nat):Option (Nat×Nat):=l.find? fun t=>decide (t.1=id)
def Om (l:List (Nat×Nat))(id:Nat):List (Nat×Nat):=l.filter fun x=>decide (x.1≠id)
def OG (l:List ByteArray)(k:ByteArray):Bool:=decide (k.size≠0)&&l.any fun x=>decide (x=k)
def Dc (now:Nat)(alone:Bool)(e:EV)(s:ST):Option ST:=
 if e.k = 2 then match Fb s.tasks e.id with
  | some t=>if t.fl=false/\t.n+1=e.n/\t.at'<=now/\now<=e.at'/\alone=true then some {s with tasks:=FN s.tasks {t with n:=e.n,at':=e.at',fl:=true}} else none
  | none=>none
 else if e.k = 3 \/ e.k = 4 then match Fb s.tasks e.id with
  | some t=>if t.fl=true/\t.n=e.n then
    if e.at'=0 then some {s with tasks:=GV s.tasks e.id}
    else if now<=e.at'/\alone=true then some {s with tasks:=FN s.tasks {t with at':=e.at',fl:=false}} else none
   else none
  | none=>none
 else if e.k = 5 then match FR s.timers e.id with
  | some x=>if x.2<=now then some {s with timers:=Om s.timers e.id} else none
  | none=>none
 else if e.k=6 then if OG s.keys e.text then none else some {s with keys:=s.keys++ [e.text]}
 else if e.k=7 then if e.id=s.next then some {s with tasks:=s.tasks++ [⟨e.id,e.name,e.v,0,false,now⟩],next:=s.next+1} else none
 else if e.k=8 then if e.id=s.next/\now<=e.at' then some {s with timers:=s.timers++ [(e.id,e.at')],next:=s.next+1} else none
 else if 9<=e.k then if alone=true then some {s with closed:=e.k,tasks:=[],timers:=[]} else none
 else some s
def runM (now : Nat) : List EV -> Bool -> ST -> Option ST
 | [],_,s=>some s
 | e::r,first,s=>if decide (e.k<=6)=first then (Dc now r.isEmpty e s).bind (runM now r false) else none
structure OQ (s : ST) : Prop where
 tasks:s.tasks.Pairwise fun a b=>a.id<b.id
 below:∀t∈s.tasks,t.id<s.next
 timers:s.timers.Pairwise fun a b=>a.1<b.1
 belowT:∀t∈s.timers,t.1<s.next
 pos:0<s.next
theorem Fq {l:List TK}{id:Nat}{t:TK}(h:Fb l id=some t):t∈l/\t.id=id:=by
 unfold Fb at h
 have h1:=List.mem_of_find?_eq_some h
 have h2:=List.find?_some h
 exact⟨h1,by simpa using h2⟩
theorem LL {l:List TK}{id:Nat}(h:Fb l id=none):∀t∈l,t.id≠id:=by
 unfold Fb at h
 rw[List.find?_eq_none] at h
 intro t ht
 simpa using h t ht
theorem Yc (l:List TK)(t:TK):(FN l t).map (·.id)=l.map (·.id):=by
 unfold FN
 rw[List.map_map]
 refine List.map_congr_left fun x _=> ?_
 simp only[Function.comp]
 split
 ·rename_i h;exact h.symm
 ·rfl
theorem YG {l:List TK}:l.Pairwise (fun a b=>a.id<b.id)↔(l.map (·.id)).Pairwise (· < ·):=by rw[List.pairwise_map]
theorem NG : OQ ⟨[],[],[],1,0⟩:=⟨List.Pairwise.nil,fun t h=>by simp at h,List.Pairwise.nil,fun t h=>by simp at h,by simp⟩
theorem OI {now:Nat}{alone:Bool}{e:EV}{s s':ST}(hf:OQ s)(h:Dc now alone e s=some s'):OQ s':=by
 have hput : ∀ t : TK, OQ { s with tasks := FN s.tasks t } := fun t => ⟨by rw [YG, Yc, <- YG]; exact hf.tasks, fun x hx => by
  have:x.id∈(FN s.tasks t).map (·.id):=List.mem_map_of_mem hx
  rw[Yc] at this
  obtain⟨y,hy,e⟩:=List.mem_map.1 this
  rw[<-e];exact hf.below y hy,hf.timers,hf.belowT,hf.pos⟩
 have hdel:∀id,OQ {s with tasks:=GV s.tasks id}:=fun id=>⟨hf.tasks.sublist (List.filter_sublist ..),fun x hx=>hf.below x (List.mem_filter.1 hx).1,hf.timers,hf.belowT,hf.pos⟩
 unfold Dc at h
 split at h
 ·split at h
  ·split at h
   ·cases h;exact hput _
   ·cases h
  ·cases h
 ·split at h
  ·split at h
   ·split at h
    ·split at h
     ·cases h;exact hdel _
     ·split at h
      ·cases h;exact hput _
      ·cases h
    ·cases h
   ·cases h
  ·split at h
   ·split at h
    ·split at h
     ·cases h
      exact⟨hf.tasks,hf.below,hf.timers.sublist (List.filter_sublist ..),fun x hx=>hf.belowT x (List.mem_filter.1 hx).1,hf.pos⟩
     ·cases h
    ·cases h
   ·split at h
    ·split at h
     ·cases h
     ·cases h;exact⟨hf.tasks,hf.below,hf.timers,hf.belowT,hf.pos⟩
    ·split at h
     ·split at h
      ·rename_i hid
       cases h
       refine⟨List.pairwise_append.2 ⟨hf.tasks,List.pairwise_singleton ..,fun a ha b hb=> ?_⟩,fun x hx=> ?_,hf.timers,fun x hx=>Nat.lt_succ_of_lt (hf.belowT x hx),Nat.succ_pos _⟩
       ·rw[List.mem_singleton.1 hb];show a.id<e.id;rw[hid];exact hf.below a ha
       ·rcases List.mem_append.1 hx with q | q
        ·exact Nat.lt_succ_of_lt (hf.below x q)
        ·rw[List.mem_singleton.1 q];show e.id<s.next+1;omega
      ·cases h
     ·split at h
      ·split at h
       ·rename_i hid
        cases h
        refine⟨hf.tasks,fun x hx=>Nat.lt_succ_of_lt (hf.below x hx),List.pairwise_append.2 ⟨hf.timers,List.pairwise_singleton ..,fun a ha b hb=> ?_⟩,fun x hx=> ?_,Nat.succ_pos _⟩
        ·rw[List.mem_singleton.1 hb];show a.1<e.id;rw[hid.1];exact hf.belowT a ha
        ·rcases List.mem_append.1 hx with q | q
         ·exact Nat.lt_succ_of_lt (hf.belowT x q)
         ·rw[List.mem_singleton.1 q];show e.id<s.next+1;omega
       ·cases h
      ·split at h
       ·split at h
        ·cases h;exact⟨List.Pairwise.nil,fun t h=>by simp at h,List.Pairwise.nil,fun t h=>by simp at h,hf.pos⟩
        ·cases h
       ·cases h;exact hf
theorem Ut {α:Type}(l:List α)(i:Nat)(h:i<l.length):l=l.take i++l[i]::l.drop (i+1):=by
 rw[<-List.drop_eq_getElem_cons h,List.take_append_drop]
theorem La {l:List TK}(hp:l.Pairwise fun a b=>a.id<b.id){i j:Nat}(hi:i<l.length)(hj:j<l.length)(h:i<j):l[i].id<l[j].id:=List.pairwise_iff_getElem.1 hp i j hi hj h
theorem Xt {l:List TK}(hp:l.Pairwise fun a b=>a.id<b.id){i j:Nat}(hi:i<l.length)(hj:j<l.length)(h:i≠j):l[i].id≠l[j].id:=by
 rcases Nat.lt_or_ge i j with q|q
 ·have:=La hp hi hj q;omega
 ·have:=La hp hj hi (by omega);omega
theorem Yk {l:List TK}(hp:l.Pairwise fun a b=>a.id<b.id){i:Nat}(hi:i<l.length):∀x∈l.take i,x.id≠l[i].id:=by
 intro x hx
 obtain⟨k,hk,rfl⟩:=List.getElem_of_mem hx
 rw[List.length_take] at hk
 rw[List.getElem_take]
 exact Xt hp (by omega) hi (by omega)
theorem Jc {l:List TK}(hp:l.Pairwise fun a b=>a.id<b.id){i:Nat}(hi:i<l.length):∀x∈l.drop (i+1),x.id≠l[i].id:=by
 intro x hx
 obtain⟨k,hk,rfl⟩:=List.getElem_of_mem hx
 rw[List.length_drop] at hk
 rw[List.getElem_drop]
 exact Xt hp (by omega) hi (by omega)
theorem tput_mid (a b:List TK)(x t:TK)(h:x.id=t.id):FN (a++x::b) t=FN a t++t::FN b t:=by unfold FN;rw[List.map_append,List.map_cons,if_pos h]
theorem tdel_mid (a b:List TK)(x:TK):GV (a++x::b) x.id=GV a x.id++GV b x.id:=by unfold GV;rw[List.filter_append,List.filter_cons];simp
theorem mdel_mid (a b:List (Nat×Nat))(x:Nat×Nat):Om (a++x::b) x.1=Om a x.1++Om b x.1:=by unfold Om;rw[List.filter_append,List.filter_cons];simp
theorem YE {l:List TK}{t:TK}(h:∀x∈l,x.id≠t.id):FN l t=l:=by
 unfold FN
 conv=>rhs;rw[<-List.map_id l]
 refine List.map_congr_left fun x hx=> ?_
 rw[if_neg (h x hx)];rfl
theorem YD {l:List TK}(hp:l.Pairwise fun a b=>a.id<b.id){i:Nat}(hi:i<l.length)(t:TK)(ht:t.id=l[i].id):l.take i++t::l.drop (i+1)=FN l t:=by
 conv=>rhs;rw[Ut l i hi]
 have e:FN (l.take i++l[i]::l.drop (i+1)) t=FN (l.take i) t++t::FN (l.drop (i+1)) t:=tput_mid _ _ _ _ ht.symm
 rw[e,YE (by rw[ht];exact Yk hp hi),YE (by rw[ht];exact Jc hp hi)]
theorem Je {l:List TK}{id:Nat}(h:∀x∈l,x.id≠id):GV l id=l:=List.filter_eq_self.2 fun x hx=>decide_eq_true (h x hx)
theorem del_with {l:List TK}(hp:l.Pairwise fun a b=>a.id<b.id){i:Nat}(hi:i<l.length):l.take i++l.drop (i+1)=GV l l[i].id:=by
 have e:GV (l.take i++l[i]::l.drop (i+1)) l[i].id=GV (l.take i) l[i].id++GV (l.drop (i+1)) l[i].id:=tdel_mid _ _ _
 have e2:GV l l[i].id=GV (l.take i++l[i]::l.drop (i+1)) l[i].id:=by rw[<-Ut l i hi]
 rw[e2,e,Je (Yk hp hi),Je (Jc hp hi)]
theorem get_at {l:List TK}(hp:l.Pairwise fun a b=>a.id<b.id){i:Nat}(hi:i<l.length):Fb l l[i].id=some l[i]:=by
 cases h:Fb l l[i].id with
 | none=>exact absurd rfl (LL h _ (List.getElem_mem hi))
 | some t=>
  obtain⟨h1,h2⟩:=Fq h
  obtain⟨j,hj,rfl⟩:=List.getElem_of_mem h1
  by_cases e:j=i
  ·subst e;rfl
  ·exact absurd h2 (Xt hp hj hi e)
def IdxIs (l:List TK)(id:Nat)(n:Int):Prop:=(n= -1/\∀t∈l,t.id≠id)\/∃(i:Nat) (h:i<l.length),n=i/\l[i].id=id
theorem Uc {l:List TK}(hp:l.Pairwise fun a b=>a.id<b.id){id:Nat}{n:Int}(h:IdxIs l id n):(n= -1/\Fb l id=none)\/∃(i:Nat) (hi:i<l.length),n=i/\l[i].id=id/\Fb l id=some l[i]:=by
 rcases h with ⟨h1,h2⟩|⟨i,hi,h1,h2⟩
 ·refine .inl ⟨h1, ?_⟩
  unfold Fb
  rw[List.find?_eq_none]
  intro t ht
  simpa using h2 t ht
 ·refine .inr ⟨i, hi, h1, h2, ?_⟩
  rw[<-h2]
  exact get_at hp hi
theorem Ul {l:List (Nat×Nat)}(hp:l.Pairwise fun a b=>a.1<b.1){i j:Nat}(hi:i<l.length)(hj:j<l.length)(h:i≠j):l[i].1≠l[j].1:=by
 rcases Nat.lt_or_ge i j with q|q
 ·have:=List.pairwise_iff_getElem.1 hp i j hi hj q;omega
 ·have:=List.pairwise_iff_getElem.1 hp j i hj hi (by omega);omega
theorem Nt {l:List (Nat×Nat)}(hp:l.Pairwise fun a b=>a.1<b.1){i:Nat}(hi:i<l.length):l.take i++l.drop (i+1)=Om l l[i].1:=by
 have e:Om (l.take i++l[i]::l.drop (i+1)) l[i].1=Om (l.take i) l[i].1++Om (l.drop (i+1)) l[i].1:=mdel_mid _ _ _
 have e2:Om l l[i].1=Om (l.take i++l[i]::l.drop (i+1)) l[i].1:=by rw[<-Ut l i hi]
 have k1:Om (l.take i) l[i].1=l.take i:=List.filter_eq_self.2 fun x hx=>decide_eq_true (by
  obtain⟨k,hk,rfl⟩:=List.getElem_of_mem hx
  rw[List.length_take] at hk
  rw[List.getElem_take]
  exact Ul hp (by omega) hi (by omega))
 have k2:Om (l.drop (i+1)) l[i].1=l.drop (i+1):=List.filter_eq_self.2 fun x hx=>decide_eq_true (by
  obtain⟨k,hk,rfl⟩:=List.getElem_of_mem hx
  rw[List.length_drop] at hk
  rw[List.getElem_drop]
  exact Ul hp (by omega) hi (by omega))
 rw[e2,e,k1,k2]
theorem Le {l:List (Nat×Nat)}(hp:l.Pairwise fun a b=>a.1<b.1){i:Nat}(hi:i<l.length):FR l l[i].1=some l[i]:=by
 cases h:FR l l[i].1 with
 | none=>
  unfold FR at h
  rw[List.find?_eq_none] at h
  have:=h _ (List.getElem_mem hi)
  simp at this
 | some t=>
  unfold FR at h
  have h1:=List.mem_of_find?_eq_some h
  have h2:=List.find?_some h
  obtain⟨j,hj,rfl⟩:=List.getElem_of_mem h1
  by_cases e:j=i
  ·subst e;rfl
  ·exact absurd (by simpa using h2) (Ul hp hj hi e)
theorem Ns {l:List (Nat×Nat)}{id:Nat}(h:∀t∈l,t.1≠id):FR l id=none:=by
 unfold FR
 rw[List.find?_eq_none]
 intro t ht
 simpa using h t ht
end Hi
namespace Cn
open Nm (Di Dk De)
open Vt (VT Rep BoxAt Da DX DY KidsAt Fy)
open Ev (EV Dj Db Dn EBox SJ zeroT take_drop tk ap rd1 rd2 Dh)
open Cm (rowOf)
def VNew (w:World)(base:Nat)(ro:Option Nat)(xs:List Value)(i:Nat)(t:VT):Prop:=∃lo hi k n f s A m c,base<=lo/\hi<=w.heap.size/\Rep w lo hi t (.agg #[.int .i64 k,.int .i64 n,.float .f64 f,.string s,.slice A m c])/\(∀r,ro=some r->r<lo\/hi<=r)/\
 ∀j,j<5->xs[i*5+j]?=(#[Value.int .i64 k,.int .i64 n,.float .f64 f,.string s,.slice A m c])[j]?
def VsAt (w:World)(base:Nat)(A:Option Addr)(cap n:Nat)(ts:List VT):Prop:=ts.length=n/\∃xs,w.ownsRow base 34 5 (.slice A n cap) n xs/\∀i (h:i<ts.length),VNew w base (rowOf A) xs i ts[i]
theorem VNew.keep {w w':World}{base:Nat}{ro:Option Nat}{xs:List Value}{i:Nat}{t:VT}(h:VNew w base ro xs i t)(hz:w.heap.size<=w'.heap.size)(ho:∀b,b<w.heap.size->some b≠ro->w'.heap[b]?=w.heap[b]?):VNew w' base ro xs i t:=by
 obtain⟨lo,hi,k,n,f,s,A,m,c,h0,h1,h2,h3,h4⟩:=h
 refine⟨lo,hi,k,n,f,s,A,m,c,h0,Nat.le_trans h1 hz,h2.keep fun b o hb1 hb2=> ?_,h3,h4⟩
 exact World.cell?_of_block (a:=⟨b,o,none⟩) (ho b (by omega) (fun e=>by have:=h3 b e.symm;omega))
theorem M175 (h:p:=by
 rcases h1.2 with h|⟨r,cp,cur,q1,q2,q3,q4⟩
 ·exact .inl h
 ·exact .inr ⟨r,cp,cur,q1,q2,(hb r q2).trans q3,q4⟩):p:=h
theorem VsAt.setCell {w:World}{base:Nat}{A:Option Addr}{cap n:Nat}{ts:List VT}(h:VsAt w base A cap n ts){p:Addr}(hp:p.block<base)(v:Value):VsAt (w.setCell p v) base A cap n ts:=by
 obtain⟨h0,xs,h1,h3⟩:=h
 have hb:∀b,base<=b->(w.setCell p v).heap[b]?=w.heap[b]?:=fun b hb=>Below.heap_setCell _ _ _ b (by omega)
 refine⟨h0,xs,⟨h1.1,?_⟩,fun i hi=> ?_⟩
 ·exact M175
 ·obtain ⟨lo, hi', k, n, f, s, A, m, c, h0, h1, h2, h3, h4⟩ := h3 i hi
  exact⟨lo,hi',k,n,f,s,A,m,c,h0,by simpa[World.setCell] using h1,h2.setCell (.inl (by omega)) v,h3,h4⟩
theorem VsAt.lt {w:World}{base:Nat}{A:Option Addr}{cap n:Nat}{ts:List VT}(h:VsAt w base A cap n ts):∀r,rowOf A=some r->r<w.heap.size/\base<=r:=fun r hr=>by
 obtain⟨-,xs,h1,-⟩:=h
 rcases h1.2 with ⟨h2,-⟩|⟨r',cp,cur,q1,q0,q3,-⟩
 ·rw[<-Cm.Fa A n cap,h2] at hr;cases hr
 ·rw [<- Cm.Fa A n cap, q1] at hr
  obtain rfl:r'=r:=Option.some.inj hr
  exact⟨(Array.getElem?_eq_some_iff.1 q3).1,q0⟩
end Cn
end Go.Proofs.YtaahfiopdoinkaaGreat
