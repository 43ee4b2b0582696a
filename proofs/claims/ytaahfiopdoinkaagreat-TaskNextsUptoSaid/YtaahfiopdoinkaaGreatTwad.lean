/- Contracts of package num's arithmetic (Canon, Bits, Of, Scale, Add) and of the reference's. -/
import Derived.Test.YtaahfiopdoinkaaGreatRows
import Derived.Test.YtaahfiopdoinkaaGreatTwac
import Derived.WalkKit
import Derived.WalkLawsBesides
import Derived.WalkSpells
import Derived.RowKit3
import Derived.Outline
import Derived.Lib.Hide
import Derived.Laws.Bits64b
import Derived.Laws.Externs
import Derived.Laws.FloatArith
import Derived.Deep.QuietTactic
import Derived.BigQuiet
import Derived.ChangeArms
import Derived.Below
import Derived.Deep.Draws
import Derived.ProofKit
import Derived.OpenShut
import Derived.Lib.SmallJoins
import Derived.IntWalk
import Derived.Deep.DeepFit
import Derived.Deep.WholeRow
import Derived.Laws.Tables
set_option maxRecDepth 100000
set_option maxHeartbeats 2000000
variable {p : Prop}
set_option linter.unusedVariables false
open Go.RowKit
namespace Go.Proofs.YtaahfiopdoinkaaGreat
namespace Nm
theorem Dk {k:IntKind}{a b:Int}(h:a=b):Ending.returned (.int k a)= .returned (.int k b):=by rw[h]
theorem De {a b:Bool}(h:a=b):Ending.returned (.bool a)= .returned (.bool b):=by rw[h]
theorem OX (b:Nat)(w:World):(callFunc 118 #[.float .f64 b]).run Tryz.prog w= .ok (.value (.int .u64 b)) w:=by kernel_rfl
theorem Xo (b:Int)(w:World):(callFunc 186 #[.int .u64 b]).run Tryz.prog w= .ok (.value (.float .f64 b.toNat)) w:=by kernel_rfl
theorem mask63 (b:Nat)(hb:b<18446744073709551616):bits BinOp.and IntKind.u64 (b:Int) 9223372036854775807=((b%9223372036854775808:Nat):Int):=by
 have h:=bits_and_u64_nat b 9223372036854775807 hb (by omega)
 have e:b&&& 9223372036854775807=b%9223372036854775808:=Nat.and_two_pow_sub_one_eq_mod b 63
 rw[e] at h
 exact h
theorem nan_any (b:Nat)(hb:b<18446744073709551616)(w:World):Calls Tryz.prog 119 #[.int .u64 b] w fun e w'=>e= .returned (.bool (Fm.isNan b))/\w=w':=by
 have HB:=Lib.hid hb;clear hb
 go_enter Tryz.func119,Tryz.ntmps119
 go_wp2
 go_ret
 refine⟨De ?_,rfl⟩
 rw[mask63 b HB.out]
 unfold Fm.isNan
 rw[decide_eq_decide]
 omega
def pos (b:Nat):Bool:= !Fm.neg b&& !Fm.isNan b&&decide (b%2^63≠0)
theorem sv_zero : Fm.SV 0=0:=by
 have h:=Fm.Nl 0 (by omega)
 unfold Fm.SV;rw[h.1,h.2,Fm.V_zero];rfl
theorem V_pos {r:Nat}(h:r≠0):0<Fm.V r:=by
 have:=Fm.Sm (show 0<r by omega);omega
def Xr : Nat:=9221120237041090561
def Di (b:Nat):Nat:=if Fm.isNan b=true then Xr else b
theorem Se (b:Nat):(FloatKind.f64.format.order b b != some Ordering.eq)=Fm.isNan b:=by
 show (Ieee.double.order b b != some Ordering.eq)=Fm.isNan b
 cases hn:Fm.isNan b with
 | true=>rw[Fm.YJ b b hn];rfl
 | false=>rw[Fm.YK b b hn hn];simp
theorem M155 (h:p:=by
 rw[h] at hn
 clear h hb
 go_enter Tryz.func88,Tryz.ntmps88
 go_wp2_with (go_at_call 119;refine(hn _).mono ?_;rintro e w' ⟨rfl,rfl⟩)
 go_ret
 exact⟨rfl,rfl⟩):p:=h
theorem Oi (b:Nat)(hb:b<18446744073709551616)(w:World):Calls Tryz.prog 88 #[.float .f64 b] w fun e w'=>e= .returned (.int .u64 (Di b))/\w=w':=by
 have hr:=fun w=>OX b w
 have hn:=fun w=>nan_any b hb w
 unfold Di
 cases h:Fm.isNan b with
 | true=>
  exact M155
 | false=>
  exact M155
end Nm
namespace Vt
open Nm (Di)
structure VT where mk ::
 k:Int
 n:Int
 f:Nat
 s:ByteArray
 l:List VT
theorem VT.ind {P:VT->Prop}(h:∀k n f s l,(∀(i:Nat) (hi:i<l.length),P l[i])->P (.mk k n f s l))(t:VT):P t:=
 VT.rec (motive_1 := P) (motive_2 := fun l => ∀ (i : Nat) (hi : i < l.length), P l[i]) (fun k n f s l ih => h k n f s l ih) (fun i hi => absurd hi (by simp))
  (fun t l iht ihl i hi=>by
   cases i with
   | zero=>exact iht
   | succ j=>exact ihl j (by simpa using hi)) t
def VT.fold {α : Type} (g : Int -> Int -> Nat -> ByteArray -> List α -> α) : VT -> α
 | ⟨k,n,f,s,l⟩=>g k n f s (l.map (fun t=>t.fold g))
structure Fy (k n : Int) (f : Nat) (s : ByteArray) (m : Nat) : Prop where
 k0 : -9223372036854775808<=k
 k1:k<=9223372036854775807
 n0 : -9223372036854775808<=n
 n1:n<=9223372036854775807
 f1:f<18446744073709551616
 s1:s.size<=maxLen
 m1:m<=maxLen
def Rep (w:World)(lo hi:Nat)(t:VT):Value->Prop:=t.fold fun k n f s r v=>
 ∃(A:Option Addr) (cap:Nat) (C:Nat->Array Value),v= .agg #[.int .i64 k,.int .i64 n,.float .f64 f,.string s,.slice A r.length cap]/\Fy k n f s cap/\r.length<=cap/\
  (0<r.length->∃b off,A=some ⟨b,off,none⟩/\lo<=b/\b<hi/\∀i,i<r.length->∀j,j<5->w.cell? ⟨b,off+i*5+j,none⟩=(C i)[j]?)/\
  ∀i (h:i<r.length),r[i] (.agg (C i))
theorem Oy {w : World} {lo hi : Nat} {k n : Int} {f : Nat} {s : ByteArray} {l : List VT} {v : Value} : Rep w lo hi (.mk k n f s l) v ↔
 ∃(A:Option Addr) (cap:Nat) (C:Nat->Array Value),v= .agg #[.int .i64 k,.int .i64 n,.float .f64 f,.string s,.slice A l.length cap]/\Fy k n f s cap/\l.length<=cap/\
  (0<l.length->∃b off,A=some ⟨b,off,none⟩/\lo<=b/\b<hi/\∀i,i<l.length->∀j,j<5->w.cell? ⟨b,off+i*5+j,none⟩=(C i)[j]?)/\
  ∀i (h:i<l.length),Rep w lo hi l[i] (.agg (C i)):=by
 unfold Rep
 rw[VT.fold]
 simp only[List.length_map,List.getElem_map]
theorem Rep.mk {w : World} {lo hi : Nat} (k n : Int) (f : Nat) (s : ByteArray) (l : List VT) (A : Option Addr) (cap : Nat) (C : Nat -> Array Value) (ho : Fy k n f s cap) (hl : l.length <= cap)
   (hc:0<l.length->∃b off,A=some ⟨b,off,none⟩/\lo<=b/\b<hi/\∀i,i<l.length->∀j,j<5->w.cell? ⟨b,off+i*5+j,none⟩=(C i)[j]?)
   (hr:∀i (h:i<l.length),Rep w lo hi l[i] (.agg (C i))) :
   Rep w lo hi (.mk k n f s l) (.agg #[.int .i64 k,.int .i64 n,.float .f64 f,.string s,.slice A l.length cap]):=Oy.2 ⟨A,cap,C,rfl,ho,hl,hc,hr⟩
section
variable {w w' : World} {lo hi lo' hi' : Nat} {t : VT} {v : Value}
structure KidsAt (w : World) (lo hi : Nat) (l : List VT) (A : Option Addr) : Prop where
 at_:0<l.length->∃b off,A=some ⟨b,off,none⟩/\lo<=b/\b<hi/\∀i (h:i<l.length),∃k n f s L A' cap,
  l[i]= .mk k n f s L/\w.cell? ⟨b,off+i*5,none⟩=some (.int .i64 k)/\w.cell? ⟨b,off+i*5+1,none⟩=some (.int .i64 n)/\w.cell? ⟨b,off+i*5+2,none⟩=some (.float .f64 f)/\
  w.cell? ⟨b,off+i*5+3,none⟩=some (.string s)/\w.cell? ⟨b,off+i*5+4,none⟩=some (.slice A' L.length cap)/\Rep w lo hi l[i] (.agg #[.int .i64 k,.int .i64 n,.float .f64 f,.string s,.slice A' L.length cap])
theorem Rep.open_ (h:Rep w lo hi t v):∃k n f s l A cap,t= .mk k n f s l/\v= .agg #[.int .i64 k,.int .i64 n,.float .f64 f,.string s,.slice A l.length cap]/\Fy k n f s cap/\l.length<=cap/\KidsAt w lo hi l A:=by
 obtain⟨k,n,f,s,l⟩:=t
 obtain⟨A,cap,C,hv,ho,hl,hc,hr⟩:=Oy.1 h
 refine⟨k,n,f,s,l,A,cap,rfl,hv,ho,hl,⟨fun hp=> ?_⟩⟩
 obtain⟨b,off,hA,h1,h2,h3⟩:=hc hp
 refine⟨b,off,hA,h1,h2,fun i hi=> ?_⟩
 have hk:=hr i hi
 have h0:=h3 i hi
 generalize hC:C i=c at hk h0
 generalize hL:l[i]=t' at hk ⊢
 obtain⟨k',n',f',s',l'⟩:=t'
 obtain⟨A',cap',C',hv',ho',hl',hc',hr'⟩:=Oy.1 hk
 injection hv' with hv'
 subst hv'
 have e0:=h0 0 (by omega);have e1:=h0 1 (by omega);have e2:=h0 2 (by omega);have e3:=h0 3 (by omega);have e4:=h0 4 (by omega)
 exact⟨k',n',f',s',l',A',cap',rfl,by simpa using e0,by simpa using e1,by simpa using e2,by simpa using e3,by simpa using e4,.mk k' n' f' s' l' A' cap' C' ho' hl' hc' hr'⟩
theorem Rep.head {k n:Int}{f:Nat}{s:ByteArray}{l:List VT}{v:Value}(h:Rep w lo hi (.mk k n f s l) v) :
  ∃A cap,v= .agg #[.int .i64 k,.int .i64 n,.float .f64 f,.string s,.slice A l.length cap]/\Fy k n f s cap/\l.length<=cap/\KidsAt w lo hi l A:=by
 obtain⟨k',n',f',s',l',A,cap,ht,hv,ho,hl,hk⟩:=h.open_
 obtain⟨rfl,rfl,rfl,rfl,rfl⟩:=VT.mk.inj ht
 exact⟨A,cap,hv,ho,hl,hk⟩
theorem Rep.keep (h:Rep w lo hi t v)(hk:∀b o,lo<=b->b<hi->w'.cell? ⟨b,o,none⟩=w.cell? ⟨b,o,none⟩):Rep w' lo hi t v:=by
 induction t using VT.ind generalizing v with
 | _ k n f s l ih=>
  obtain⟨A,cap,C,rfl,ho,hl,hc,hr⟩:=Oy.1 h
  refine .mk k n f s l A cap C ho hl (fun hp=> ?_) (fun i hi=>ih i hi (hr i hi))
  obtain⟨b,off,hA,h1,h2,h3⟩:=hc hp
  exact⟨b,off,hA,h1,h2,fun i hi j hj=>(hk _ _ h1 h2).trans (h3 i hi j hj)⟩
theorem Rep.more (h:Rep w lo hi t v)(h1:lo'<=lo)(h2:hi<=hi'):Rep w lo' hi' t v:=by
 induction t using VT.ind generalizing v with
 | _ k n f s l ih=>
  obtain⟨A,cap,C,rfl,ho,hl,hc,hr⟩:=Oy.1 h
  refine .mk k n f s l A cap C ho hl (fun hp=> ?_) (fun i hi=>ih i hi (hr i hi))
  obtain⟨b,off,hA,h3,h4,h5⟩:=hc hp
  exact⟨b,off,hA,by omega,by omega,h5⟩
theorem Rep.later (h:Rep w lo hi t v)(hb:Below hi w w'):Rep w' lo hi t v:=h.keep fun b o _ h2=>hb.cell (p:=⟨b,o,none⟩) h2
theorem Rep.drewN (h:Rep w lo hi t v)(n:Nat):Rep (w.drewN n) lo hi t v:=h.keep fun b o _ _=>by simp
theorem Rep.drew (h:Rep w lo hi t v):Rep w.drew lo hi t v:=h.keep fun _ _ _ _=>rfl
theorem Rep.alloc (h:Rep w lo hi t v)(hz:hi<=w.heap.size)(o:Obj):Rep (w.alloc o) lo hi t v:=h.keep fun b off _ h2=>World.cell?_alloc_lt w o ⟨b,off,none⟩ (by simp only[];omega)
theorem Rep.setCell (h:Rep w lo hi t v){p:Addr}(hp:p.block<lo\/hi<=p.block)(u:Value):Rep (w.setCell p u) lo hi t v:=
 h.keep fun b o h1 h2=>World.cell?_setCell_other w p ⟨b,o,none⟩ u (fun e=>by subst e;simp only[] at hp;omega)
theorem Rep.leaf {k n:Int}{f:Nat}{s:ByteArray}(ho:Fy k n f s 0):Rep w lo hi (.mk k n f s []) (.agg #[.int .i64 k,.int .i64 n,.float .f64 f,.string s,.slice none 0 0]):=
 .mk k n f s [] none 0 (fun _=> #[]) ho (Nat.le_refl _) (fun h=>absurd h (by simp)) (fun i h=>absurd h (by simp))
theorem KidsAt.keep {l:List VT}{A:Option Addr}(h:KidsAt w lo hi l A)(hk:∀b o,lo<=b->b<hi->w'.cell? ⟨b,o,none⟩=w.cell? ⟨b,o,none⟩):KidsAt w' lo hi l A:=⟨fun hp=>by
 obtain⟨b,off,hA,h1,h2,h3⟩:=h.at_ hp
 refine⟨b,off,hA,h1,h2,fun i hi=> ?_⟩
 obtain⟨k,n,f,s,L,A',cap,e,c0,c1,c2,c3,c4,hr⟩:=h3 i hi
 exact⟨k,n,f,s,L,A',cap,e,(hk _ _ h1 h2).trans c0,(hk _ _ h1 h2).trans c1,(hk _ _ h1 h2).trans c2,(hk _ _ h1 h2).trans c3,(hk _ _ h1 h2).trans c4,hr.keep hk⟩⟩
theorem KidsAt.later {l:List VT}{A:Option Addr}(h:KidsAt w lo hi l A)(hb:Below hi w w'):KidsAt w' lo hi l A:=h.keep fun b o _ h2=>hb.cell (p:=⟨b,o,none⟩) h2
theorem KidsAt.drew {l:List VT}{A:Option Addr}(h:KidsAt w lo hi l A):KidsAt w.drew lo hi l A:=h.keep fun _ _ _ _=>rfl
theorem Da {B:Nat}{a w:World}(h:Below B a w):Below B a w.drew:=⟨h.os,h.tape,h.output,h.size,h.block⟩
theorem KidsAt.alloc {l:List VT}{A:Option Addr}(h:KidsAt w lo hi l A)(hz:hi<=w.heap.size)(o:Obj):KidsAt (w.alloc o) lo hi l A:=h.keep fun b off _ h2=>World.cell?_alloc_lt w o ⟨b,off,none⟩ (by simp only[];omega)
theorem Rep.close {k n:Int}{f:Nat}{s:ByteArray}{l:List VT}{A:Option Addr}{cap:Nat}(ho:Fy k n f s cap)(hl:l.length<=cap)(hk:KidsAt w lo hi l A) :
  Rep w lo hi (.mk k n f s l) (.agg #[.int .i64 k,.int .i64 n,.float .f64 f,.string s,.slice A l.length cap]):=by
 by_cases hp:0<l.length
 ·obtain ⟨b, off, hA, h1, h2, h3⟩ := hk.at_ hp
  have h4:∀i:Nat,∃C:Array Value,∀(h:i<l.length),(∀j,j<5->w.cell? ⟨b,off+i*5+j,none⟩=C[j]?)/\Rep w lo hi l[i] (.agg C):=fun i=>by
   by_cases h:i<l.length
   ·obtain ⟨k, n, f, s, L, A', cap, e, c0, c1, c2, c3, c4, hr⟩ := h3 i h
    refine⟨_,fun _=>⟨fun j hj=> ?_,hr⟩⟩
    rcases (by omega:j=0\/j=1\/j=2\/j=3\/j=4) with rfl|rfl|rfl|rfl|rfl
    all_goals simpa
   ·exact⟨#[],fun h'=>absurd h' h⟩
  obtain⟨C,hC⟩:=Classical.axiomOfChoice h4
  exact .mk k n f s l A cap C ho hl (fun _=>⟨b,off,hA,h1,h2,fun i hi=>(hC i hi).1⟩) (fun i hi=>(hC i hi).2)
 ·exact .mk k n f s l A cap (fun _=> #[]) ho hl (fun h=>absurd h hp) (fun i h=>absurd h (by omega))
end
section
open Go.ChangeShapes Go.WideShapes Go.ChangeAt Go.Joins Go.Deep
theorem Kj {H : Type} {enc : TypeId × Value -> H} {P : Program} {W : World} {base : Nat} {spare : Nat -> Bool} {held : Bool} {t : TypeId} {k : FloatKind} {v : Value} {y : DataW H × List MemPlace} {n : Nat}
  (ht:P.underlying t=some (.float k)) (h:DataW.trod enc P W base spare held n t [v]=some y):∃b,v= .float k b/\(Lit.float k b).wf=true:=by
 cases n with
 | zero=>simp[DataW.trod] at h
 | succ n=>
  cases v<;>simp[DataW.trod,ht] at h
  all_goals first | exact⟨_,by rw[<-h.1.1],by simpa[h.1.1] using h.1⟩|(rename_i k' b;by_cases hk:k'=k<;>simp_all)
theorem five (cs:List Value)(h:cs.length=5):∃a b c d e,cs= [a,b,c,d,e]:=by
 match cs,h with
 | [a,b,c,d,e],_=>exact⟨a,b,c,d,e,rfl⟩
theorem M139 (h:p:=by
 have:=(hF 0 hp).2
 generalize F 0=p at this ⊢
 obtain⟨p1,p2⟩:=p
 obtain⟨_,_,_,_,_,_,_,_,hv,-⟩:=this.open_
 injection hv with hv
 subst hv
 exact⟨_,rfl⟩):p:=h
theorem open_vt {H:Type}{enc:TypeId×Value->H}{W:World}{base:Nat}{spare:Nat->Bool}{held:Bool}:∀(fuel:Nat) (cs:List Value) (x:DataW H×List MemPlace),
  DataW.trod enc Tryz.prog W base spare held fuel 34 cs=some x->∃t,Rep W base W.heap.size t (.agg cs.toArray):=by
 intro fuel
 induction fuel using Nat.strongRecOn with
 | _ fuel ih=>
  intro cs x h
  have hC:Tryz.prog.cellsOf 34=5:=by kernel_rfl
  obtain⟨xs,n,hn,hx,hlen,hxl,hg⟩:=DataW.trod_struct Tryz.underlying34 h
  obtain⟨c0,c1,c2,c3,c4,rfl⟩:=five cs (hlen.trans hC)
  have hx:∀j:Nat,j<5->∃y,xs[j]?=some y:=fun j hj=>⟨_,List.getElem?_eq_getElem (by rw[hxl];exact hj)⟩
  obtain⟨y0,z0⟩:=hx 0 (by omega);obtain⟨y1,z1⟩:=hx 1 (by omega);obtain⟨y2,z2⟩:=hx 2 (by omega);obtain⟨y3,z3⟩:=hx 3 (by omega);obtain⟨y4,z4⟩:=hx 4 (by omega)
  have g0:=(hg 0 _ rfl).trans z0;have g1:=(hg 1 _ rfl).trans z1;have g2:=(hg 2 _ rfl).trans z2;have g3:=(hg 3 _ rfl).trans z3;have g4:=(hg 4 _ rfl).trans z4
  have k1:Tryz.prog.cellsOf 3=1:=by kernel_rfl
  have k2:Tryz.prog.cellsOf 2=1:=by kernel_rfl
  have k3:Tryz.prog.cellsOf 31=1:=by kernel_rfl
  have k4:Tryz.prog.cellsOf 9=1:=by kernel_rfl
  have k5:Tryz.prog.cellsOf 32=1:=by kernel_rfl
  simp[k1,k2,k3,k4,k5] at g0 g1 g2 g3 g4
  obtain⟨k,e0,-,w0⟩:=DataW.trod_int Tryz.underlying3 g0
  obtain⟨m,e1,-,w1⟩:=DataW.trod_int Tryz.underlying2 g1
  obtain⟨f,e2,w2⟩:=Kj Tryz.underlying31 g2
  obtain⟨s,e3,-,w3⟩:=DataW.trod_string Tryz.underlying9 g3
  obtain rfl:=List.singleton_inj.1 e0
  obtain rfl:=List.singleton_inj.1 e1
  obtain rfl:=e2
  obtain rfl:=List.singleton_inj.1 e3
  simp[Lit.wf,IntKind.min,IntKind.max,IntKind.bits,IntKind.signed] at w0 w1 w2
  have fl:f<18446744073709551616:=by simpa[FloatKind.format] using w2
  rcases DataW.trod_slice Tryz.underlying32 g4 with ⟨e4,-⟩|⟨a,len,cap,elems,rest,n',hn',e4,-,hb,hl,hm,hel,he,-,-⟩
  ·obtain rfl := List.singleton_inj.1 e4
   exact⟨.mk k m f s [],.leaf ⟨by omega,by omega,by omega,by omega,fl,w3,by unfold maxLen;omega⟩⟩
  ·obtain rfl := List.singleton_inj.1 e4
   have h4:∀i:Nat,∃tC:VT×Array Value,i<len->(∀j,j<5->W.cell? (a.add (i*5) |>.add j)=tC.2[j]?)/\Rep W base W.heap.size tC.1 (.agg tC.2):=fun i=>by
    by_cases hi:i<len
    ·have e := he i hi
     rw[List.getElem?_eq_getElem (by omega)] at e
     obtain⟨cs',q1,q2⟩:=Option.bind_eq_some_iff.1 e
     obtain⟨t,ht⟩:=ih n' (by omega) cs' _ q2
     rw[hC] at q1
     obtain⟨_,ql,qc⟩:=World.cells?_some q1
     exact⟨(t,cs'.toArray),fun _=>⟨fun j hj=>by rw[qc j hj];simp,ht⟩⟩
    ·exact⟨(.mk 0 0 0 .empty [],#[]),fun h=>absurd h hi⟩
   obtain⟨F,hF⟩:=Classical.axiomOfChoice h4
   have hlen':((List.range len).map fun i=>(F i).1).length=len:=by simp
   refine⟨.mk k m f s ((List.range len).map fun i=>(F i).1),?_⟩
   have R:=Rep.mk (w:=W) (lo:=base) (hi:=W.heap.size) k m f s ((List.range len).map fun i=>(F i).1) (some a) cap (fun i=>(F i).2) ⟨by omega,by omega,by omega,by omega,fl,w3,hm⟩ (by rw[hlen'];exact hl) ?_ ?_
   ·rw[hlen'] at R;exact R
   ·intro hp
    rw[hlen'] at hp ⊢
    have h0:=(hF 0 hp).1 0 (by omega)
    obtain⟨b,off,spot⟩:=a
    have hs:spot=none:=by
     have h5:∃u,(F 0).2[0]?=some u:=by
      exact M139
     obtain⟨u,hu⟩:=h5
     rw[hu] at h0
     cases spot with
     | none=>rfl
     | some q=>
      simp[Addr.add,World.cell?] at h0
      split at h0<;>simp at h0
    subst hs
    have hlt:b<W.heap.size:=by
     rcases Nat.lt_or_ge b W.heap.size with q|q
     ·exact q
     ·have h5:∃u,(F 0).2[0]?=some u:=by
       exact M139
      obtain⟨u,hu⟩:=h5
      rw[hu] at h0
      simp[Addr.add,World.cell?,Array.getElem?_eq_none q] at h0
    refine⟨b,off,rfl,hb,hlt,fun i hi j hj=> ?_⟩
    have:=(hF i hi).1 j hj
    rw[<-this,Go.Deep.add_add,add_plain,Nat.add_assoc]
   ·intro i hi
    rw[hlen'] at hi
    simpa using (hF i hi).2
end
def VT.valid (t:VT):Nat->Bool:=t.fold fun k n f s r d=>
 decide (0<=k/\k<=4)&&(k==1||n==0)&&(k==2||Di f==0)&&(k==3||s.size==0)&&(k==4||r.length==0)&&(k != 4||d != 0)&&r.all (fun v=>v (d-1))
theorem Oc (k n:Int)(f:Nat)(s:ByteArray)(l:List VT)(d:Nat):(VT.mk k n f s l).valid d=
  (decide (0<=k/\k<=4)&&(k==1||n==0)&&(k==2||Di f==0)&&(k==3||s.size==0)&&(k==4||l.length==0)&&(k != 4||d != 0)&&l.all (fun t=>t.valid (d-1))):=by
 unfold VT.valid;rw[VT.fold];simp[List.all_map,Function.comp_def]
theorem Ug {α:Type}(l:List α)(p:α->Bool):l.all p=true↔∀(i:Nat) (hi:i<l.length),p l[i]=true:=by
 rw[List.all_eq_true]
 exact⟨fun h i hi=>h _ (List.getElem_mem hi),fun h x hx=>by obtain⟨i,hi,rfl⟩:=List.getElem_of_mem hx;exact h i hi⟩
def VT.same (t:VT):VT->Bool:=t.fold fun k n f s r t'=>k==t'.k&&n==t'.n&&decide (s=t'.s)&&Di f==Di t'.f&&r.length==t'.l.length&&(r.zip t'.l).all (fun p=>p.1 p.2)
theorem KY (k n:Int)(f:Nat)(s:ByteArray)(l:List VT)(k' n':Int)(f':Nat)(s':ByteArray)(l':List VT):(VT.mk k n f s l).same (.mk k' n' f' s' l')=
  (k==k'&&n==n'&&decide (s=s')&&Di f==Di f'&&l.length==l'.length&&(l.zip l').all (fun p=>p.1.same p.2)):=by
 unfold VT.same;rw[VT.fold];simp[List.zip_map_left,List.all_map,Function.comp_def]
theorem Jv (l l':List VT):(l.zip l').all (fun p=>p.1.same p.2)=true↔∀(i:Nat) (hi:i<l.length) (hi':i<l'.length),l[i].same l'[i]=true:=by
 rw[Ug]
 constructor
 ·intro h i hi hi'
  have:=h i (by simp;omega)
  rw[List.getElem_zip] at this
  exact this
 ·intro h i hi
  have:=h i (by simp at hi;omega) (by simp at hi;omega)
  rw[List.getElem_zip]
  exact this
theorem OW (k n : Int) (f : Nat) (s : ByteArray) (l : List VT) (k' n' : Int) (f' : Nat) (s' : ByteArray) (l' : List VT) : (VT.mk k n f s l).same (.mk k' n' f' s' l') = true ↔
  k=k'/\n=n'/\s=s'/\Di f=Di f'/\l.length=l'.length/\∀(i:Nat) (hi:i<l.length) (hi':i<l'.length),l[i].same l'[i]=true:=by
 rw[KY]
 simp only[Bool.and_eq_true,beq_iff_eq,decide_eq_true_iff,Jv,and_assoc]
theorem Gy (t:VT):t.same t=true:=by
 induction t using VT.ind with
 | _ k n f s l ih=>exact(OW ..).2 ⟨rfl,rfl,rfl,rfl,rfl,fun i hi _=>ih i hi⟩
theorem UF (a:VT):∀(b:VT) (d:Nat),a.same b=true->a.valid d=b.valid d:=by
 induction a using VT.ind with
 | _ k n f s l ih=>
  rintro⟨k',n',f',s',l'⟩ d h
  obtain⟨rfl,rfl,rfl,hf,hl,hL⟩:=(OW ..).1 h
  rw[Oc,Oc,hf,hl]
  have:l.all (fun t=>t.valid (d-1))=l'.all (fun t=>t.valid (d-1)):=by
   rw[Bool.eq_iff_iff,Ug,Ug]
   constructor
   ·intro h i hi
    rw[<-ih i (by omega) _ (d-1) (hL i (by omega) hi)]
    exact h i _
   ·intro h i hi
    rw[ih i hi _ (d-1) (hL i hi (by omega))]
    exact h i _
  rw[this]
def VT.weight (t:VT):Int->Int:=t.fold fun _ _ _ s r m=>r.foldl (fun n wt=>if n<=m then n+wt (m-n) else n) (1+min (s.size:Int) 1000)
def Dz (l:List VT)(n m:Int):Int:=l.foldl (fun n t=>if n<=m then n+t.weight (m-n) else n) n
theorem FX (k n:Int)(f:Nat)(s:ByteArray)(l:List VT)(m:Int):(VT.mk k n f s l).weight m=Dz l (1+min (s.size:Int) 1000) m:=by
 unfold VT.weight Dz;rw[VT.fold];simp[List.foldl_map];rfl
theorem SK (n m:Int):Dz [] n m=n:=rfl
theorem FM (t:VT)(l:List VT)(n m:Int):Dz (t::l) n m=if n<=m then Dz l (n+t.weight (m-n)) m else n:=by
 have stop:∀(l:List VT) (n m:Int),¬n<=m->Dz l n m=n:=fun l=>by
  induction l with
  | nil=>intro n m _;rfl
  | cons t l ih=>
   intro n m h
   have e:Dz (t::l) n m=Dz l (if n<=m then n+t.weight (m-n) else n) m:=rfl
   rw[e,if_neg h];exact ih n m h
 have e:Dz (t::l) n m=Dz l (if n<=m then n+t.weight (m-n) else n) m:=rfl
 rw[e]
 split
 ·rfl
 ·exact stop l n m (by assumption)
def VT.small (t:VT):Nat->Bool:=t.fold fun _ _ _ _ r d=>d != 0&&r.all (fun v=>v (d-1))
theorem PZ (k n:Int)(f:Nat)(s:ByteArray)(l:List VT)(d:Nat):(VT.mk k n f s l).small d=(d != 0&&l.all (fun t=>t.small (d-1))):=by
 unfold VT.small;rw[VT.fold];simp[List.all_map,Function.comp_def]
theorem Uk (l:List VT)(ih:∀(i:Nat) (hi:i<l.length) (m:Int),1<=l[i].weight m)(n m:Int):n<=Dz l n m:=by
 induction l generalizing n with
 | nil=>exact Int.le_refl _
 | cons t l h=>
  rw[FM]
  split
  ·have h1 := h (fun i hi => ih (i + 1) (by simpa using hi)) (n + t.weight (m - n))
   have h2:=ih 0 (by simp) (m-n)
   simp only[List.getElem_cons_zero] at h2
   omega
  ·exact Int.le_refl _
theorem Ob (t:VT):∀m:Int,1<=t.weight m:=by
 induction t using VT.ind with
 | _ k n f s l ih=>
  intro m
  rw[FX]
  have:=Uk l ih (1+min (s.size:Int) 1000) m
  omega
theorem Gh (l:List VT)(n m:Int):n<=Dz l n m:=Uk l (fun _ _=>Ob _) n m
theorem Uj (l:List VT)(m:Int)(ih:∀(i:Nat) (hi:i<l.length) (m:Int),0<=m->l[i].weight m<=m+1001)(n:Int)(hn:n<=m+1001):Dz l n m<=m+1001:=by
 induction l generalizing n with
 | nil=>exact hn
 | cons t l h=>
  rw[FM]
  split
  ·rename_i hle
   have h2:=ih 0 (by simp) (m-n) (by omega)
   simp only[List.getElem_cons_zero] at h2
   exact h (fun i hi=>ih (i+1) (by simpa using hi)) _ (by omega)
  ·exact hn
theorem Vz (t:VT):∀m:Int,0<=m->t.weight m<=m+1001:=by
 induction t using VT.ind with
 | _ k n f s l ih=>
  intro m hm
  rw[FX]
  exact Uj l m ih _ (by omega)
def VT.few (t:VT):Bool:=decide (t.weight 900<=900)&&t.small 20
theorem XU (l:List VT)(n m:Int)(h:Dz l n m<=m):n+l.length<=m/\∀(i:Nat) (hi:i<l.length),∃c:Int,n<=c/\c+l[i].weight (m-c)<=m:=by
 induction l generalizing n with
 | nil=>rw[SK] at h;exact⟨by simpa using h,fun i hi=>absurd hi (by simp)⟩
 | cons t l ih=>
  rw[FM] at h
  by_cases hn:n<=m
  ·rw [if_pos hn] at h
   have h1:=Ob t (m-n)
   have h2:=Gh l (n+t.weight (m-n)) m
   obtain⟨i1,i2⟩:=ih _ h
   refine⟨by simp only[List.length_cons];omega,fun i hi=> ?_⟩
   cases i with
   | zero=>exact⟨n,by omega,by simp only[List.getElem_cons_zero];omega⟩
   | succ j=>
    obtain⟨c,c1,c2⟩:=i2 j (by simpa using hi)
    exact⟨c,by omega,by simpa using c2⟩
  ·rw[if_neg hn] at h;omega
def VT.Slim (m:Nat)(t:VT):Prop:=t.fold fun _ _ _ s r=>s.size<=m/\r.length<=m/\∀p∈r,p
theorem Sa {m:Nat}{k n:Int}{f:Nat}{s:ByteArray}{l:List VT}:VT.Slim m (.mk k n f s l)↔s.size<=m/\l.length<=m/\∀(i:Nat) (hi:i<l.length),VT.Slim m l[i]:=by
 unfold VT.Slim
 rw[VT.fold]
 simp only[List.length_map,List.mem_map,forall_exists_index,and_imp,forall_apply_eq_imp_iff₂]
 constructor
 ·rintro ⟨h1, h2, h3⟩
  exact⟨h1,h2,fun i hi=>h3 _ (List.getElem_mem hi)⟩
 ·rintro ⟨h1, h2, h3⟩
  exact⟨h1,h2,fun x hx=>by obtain⟨i,hi,rfl⟩:=List.getElem_of_mem hx;exact h3 i hi⟩
theorem Ux (t:VT)(M:Nat)(hM:M<1000):∀m:Int,m<=M->t.weight m<=m->t.Slim M:=by
 induction t using VT.ind with
 | _ k n f s l ih=>
  intro m hm h
  rw[FX] at h
  obtain⟨h1,h2⟩:=XU l _ m h
  have h3:=Gh l (1+min (s.size:Int) 1000) m
  refine Sa.2 ⟨by omega,by omega,fun i hi=> ?_⟩
  obtain⟨c,c1,c2⟩:=h2 i hi
  exact ih i hi (m-c) (by omega) (by omega)
theorem SP (t:VT)(h:t.few=true):t.Slim 900:=by
 unfold VT.few at h
 rw[Bool.and_eq_true,decide_eq_true_iff] at h
 exact Ux t 900 (by omega) 900 (by omega) h.1
open Nm (Dk De)
def BoxAt (w:World)(g:Nat)(k n:Int)(f:Nat)(s:ByteArray)(A:Option Addr)(m c:Nat):Prop:=
 w.heap[g]?=some (.cells #[.int .i64 k,.int .i64 n,.float .f64 f,.string s,.slice A m c] 34 (0,0))
theorem BoxAt.later {w w':World}{g B:Nat}{k n:Int}{f:Nat}{s:ByteArray}{A:Option Addr}{m c:Nat}(h:BoxAt w g k n f s A m c)(hb:Below B w w')(hg:g<B):BoxAt w' g k n f s A m c:=(hb.block g hg).trans h
theorem BoxAt.cells {w:World}{g:Nat}{k n:Int}{f:Nat}{s:ByteArray}{A:Option Addr}{m c:Nat}(h:BoxAt w g k n f s A m c) :
  w.cell? ⟨g,0,none⟩=some (.int .i64 k)/\w.cell? ⟨g,1,none⟩=some (.int .i64 n)/\w.cell? ⟨g,2,none⟩=some (.float .f64 f)/\w.cell? ⟨g,3,none⟩=some (.string s)/\w.cell? ⟨g,4,none⟩=some (.slice A m c):=by
 unfold BoxAt at h
 simp[World.cell?,h]
theorem BoxAt.new (w:World)(k n:Int)(f:Nat)(s:ByteArray)(A:Option Addr)(m c:Nat):BoxAt (w.alloc (.cells #[.int .i64 k,.int .i64 n,.float .f64 f,.string s,.slice A m c] 34)) w.heap.size k n f s A m c:=heap_alloc_new w _
theorem BoxAt.lt {w:World}{g:Nat}{k n:Int}{f:Nat}{s:ByteArray}{A:Option Addr}{m c:Nat}(h:BoxAt w g k n f s A m c):g<w.heap.size:=(Array.getElem?_eq_some_iff.1 h).1
theorem Xf (l:List VT)(n m:Int)(k:Nat)(h:k<l.length)(hn:Dz (l.take k) n m<=m):Dz (l.take (k+1)) n m=Dz (l.take k) n m+l[k].weight (m-Dz (l.take k) n m):=by
 rw[List.take_succ_eq_append_getElem h]
 unfold Dz at *
 rw[List.foldl_append]
 simp only[List.foldl_cons,List.foldl_nil]
 rw[if_pos hn]
theorem Xg (l:List VT)(n m:Int)(k:Nat)(hn:¬Dz (l.take k) n m<=m):Dz l n m=Dz (l.take k) n m:=by
 have e:Dz l n m=Dz (l.drop k) (Dz (l.take k) n m) m:=by
  unfold Dz
  rw[<-List.foldl_append,List.take_append_drop]
 rw[e]
 generalize Dz (l.take k) n m=x at *
 cases hd:l.drop k with
 | nil=>rfl
 | cons t r=>rw[FM,if_neg hn]
theorem M715 (h:p:=by
 obtain⟨b,off,hA,h1,h2,h3⟩:=(HK.out.later (HB.out.mono hz)).at_ (by omega)
 obtain⟨k',n',f',s',L',A',cap',e,d0,d1,d2,d3,d4,hr⟩:=h3 j hlt
 subst hA
 exact Y715):p:=h
theorem Q716.Y715 (h:p:=by
 have HR:=Lib.hid hr
 clear h3 e hr
 go_wp2_with fail
 refine(IH.out j hlt (m-y) (by omega) (by omega) wr lo hi _ HR.out (by omega)).mono ?_
 rintro e w1 ⟨rfl,hb1⟩
 have hx1:=Vz l[j] (m-y) (by omega)
 have hx0:=Ob l[j] (m-y)
 have HT:Hid (y+l[j].weight (m-y)=Dz (l.take (j+1)) n0 m):=Lib.hid (by rw[Xf l n0 m j hlt (by rw[<-HY.out];exact hle), <-HY.out])
 have HBX1:BoxAt w1 w.heap.size k n f s (some ⟨b,off,none⟩) l.length cap:=HBX.out.later hb1 hlt0
 have HB1:Below w.heap.size w w1:=HB.out.trans (hb1.mono (by omega))
 generalize l[j].weight (m-y)=x at *
 have HBX1:=Lib.hid HBX1;have HB1:=Lib.hid HB1
 clear HBX HB HR hb1 c0 c1 c2 c3 c4 d0 d1 d2 d3 d4
 go_wp2_with fail
 go_roundw
 case rel=>exact⟨j+1,_,by omega,by go_num,rfl,HT.out,HBX1.out,HB1.out⟩
 case measure=>simp[intOf];omega):p:=h
theorem Q762.Y761 (h:p:=by
 by_cases hlt:j<l.length
 ·by_cases hle : y <= m
  ·open Q716 in exact M715
  ·go_wp2_with fail
   go_ret
   exact⟨Dk (by rw[HW.out,Xg l n0 m j (by rw[<-HY.out];omega),HY.out]),HB.out⟩
 ·go_wp2_with fail
  go_ret
  have:j=l.length:=by omega
  exact⟨Dk (by rw[HW.out,HY.out,this,List.take_length]),HB.out⟩):p:=h
theorem M761 (h:p:=by
 have HY:=Lib.hid hy;clear hy
 have hlt0:=hbox.lt
 obtain⟨c0,c1,c2,c3,c4⟩:=hbox.cells
 have HBX:=Lib.hid hbox;have HB:=Lib.hid hb;clear hbox hb
 exact Y761):p:=h
theorem Jy (t:VT):∀(m:Int) (_:0<=m) (_:m<=900) (w:World) (lo hi:Nat) (v:Value) (_:Rep w lo hi t v) (_:hi<=w.heap.size),
  Calls Tryz.prog 109 #[v,.int .i64 m] w fun e w'=>e= .returned (.int .i64 (t.weight m))/\Below w.heap.size w w':=by
 induction t using VT.ind with
 | _ k n f s l ih=>
  intro m hm0 hm1 w lo hi v hR hz
  obtain⟨A,cap,rfl,ho,hl,hk⟩:=hR.head
  have hs:=ho.s1
  have hc:=ho.m1
  unfold maxLen at hs hc
  have IH:=Lib.hid ih;clear ih hR ho
  have HK:=Lib.hid hk;clear hk
  obtain⟨n0,hn0⟩:∃n0:Int,n0=1+min (s.size:Int) 1000:=⟨_,rfl⟩
  have b0:1<=n0:=by omega
  have b1:n0<=1001:=by omega
  have HW:Hid ((VT.mk k n f s l).weight m=Dz l n0 m):=Lib.hid (by rw[FX,hn0])
  have HN:=Lib.hid hn0;clear hn0
  by_cases hsz:(s.size:Int)<=1000
  all_goals
   go_enter Tryz.func109,Tryz.ntmps109
   go_wp2_with fail
   go_loopw [5,6] (fun x i wr=>∃(j:Nat) (y:Int),j<=l.length/\i= .int .i64 j/\x= .int .i64 y/\y=Dz (l.take j) n0 m/\BoxAt wr w.heap.size k n f s A l.length cap/\Below w.heap.size w wr) (fun _ i _=>l.length-(intOf i).toNat)
   case atStart=>exact⟨0,n0,by omega,rfl,by rw[HN.out];congr 1;omega,rfl,BoxAt.new ..,(Below.refl _ _).alloc (Nat.le_refl _) _⟩
   case round=>
    obtain⟨j,y,hj,rfl,rfl,hy,hbox,hb⟩:=hrel
    have hy0:n0<=y:=by rw[hy];exact Gh _ _ _
    have hy1:y<=m+1001:=by rw[hy];exact Uj _ m (fun _ _=>Vz _) _ (by omega)
    open Q762 in exact M761
theorem Gg {α:Type}(l:List α)(p:α->Bool)(j:Nat)(h:j<l.length):(l.take (j+1)).all p=((l.take j).all p&&p l[j]):=by
 rw[List.take_succ_eq_append_getElem h,List.all_append];simp
theorem all_false {α:Type}(l:List α)(p:α->Bool)(j:Nat)(h:j<l.length)(hp:p l[j]=false):l.all p=false:=by
 rw[Bool.eq_false_iff]
 intro hh
 rw[Ug] at hh
 rw[hh j h] at hp
 cases hp
theorem Q593.Y592 (h:p:=by
 cases hp:l[j].small (x-1).toNat with
 | true=>
  have HP:=Lib.hid hp;clear hp
  go_wp2_with fail
  go_roundw
  case rel=>exact⟨j+1,by omega,by go_num,by rw[Gg _ _ _ hlt,HY.out,HP.out];rfl,HBX1.out,HB1.out⟩
  case measure=>simp[intOf];omega
 | false=>
  have HP:=Lib.hid hp;clear hp
  go_wp2_with fail
  go_ret
  exact⟨De (by rw[HW.out,all_false _ _ j hlt HP.out]),HB1.out⟩):p:=h
theorem Q717.Y715 (h:p:=by
 have HR:=Lib.hid hr
 clear h3 e hr
 go_wp2_with fail
 refine(IH.out j hlt (x-1) (by omega) (by omega) wr lo hi _ HR.out (by omega)).mono ?_
 rintro e w1 ⟨rfl,hb1⟩
 have HBX1:=Lib.hid (HBX.out.later hb1 hlt0)
 have HB1:=Lib.hid (HB.out.trans (hb1.mono (by omega)))
 clear HBX HB HR hb1 c0 c1 c2 c3 c4 d0 d1 d2 d3 d4
 exact Y592):p:=h
theorem M592 (h:p:=by
 open Q717 in exact M715):p:=h
theorem Q763.Y761 (h:p:=by
 by_cases hlt:j<l.length
 ·open Q593 in exact M592
 ·go_wp2_with fail
  go_ret
  have:j=l.length:=by omega
  exact⟨De (by rw[HW.out, <-HY.out,this,List.take_length]),HB.out⟩):p:=h
theorem LW (t:VT):∀(x:Int) (_:0<=x) (_:x<=20) (w:World) (lo hi:Nat) (v:Value) (_:Rep w lo hi t v) (_:hi<=w.heap.size),
  Calls Tryz.prog 110 #[v,.int .i64 x] w fun e w'=>e= .returned (.bool (t.small x.toNat))/\Below w.heap.size w w':=by
 induction t using VT.ind with
 | _ k n f s l ih=>
  intro x hx0 hx1 w lo hi v hR hz
  obtain⟨A,cap,rfl,ho,hl,hk⟩:=hR.head
  have hc:=ho.m1
  unfold maxLen at hc
  have IH:=Lib.hid ih;clear ih hR ho
  have HK:=Lib.hid hk;clear hk
  by_cases hx:x=0
  ·subst hx
   have HW:Hid ((VT.mk k n f s l).small (0:Int).toNat=false):=Lib.hid (by rw[PZ];rfl)
   go_enter Tryz.func110,Tryz.ntmps110
   go_wp2_with fail
   go_ret
   exact⟨De HW.out.symm,(Below.refl _ _).alloc (Nat.le_refl _) _⟩
  ·have hxb : (x == 0) = false := by simpa using hx
   have HW:Hid ((VT.mk k n f s l).small x.toNat=l.all (fun t=>t.small (x-1).toNat)):=Lib.hid (by
    rw[PZ,show x.toNat-1=(x-1).toNat from by omega]
    have:(x.toNat != 0)=true:=by simp;omega
    rw[this];rfl)
   have hxp:1<=x:=by omega
   clear hx
   go_enter Tryz.func110,Tryz.ntmps110
   go_wp2_with fail
   go_loopw [5] (fun i wr=>∃(j:Nat),j<=l.length/\i= .int .i64 j/\(l.take j).all (fun t=>t.small (x-1).toNat)=true/\BoxAt wr w.heap.size k n f s A l.length cap/\Below w.heap.size w wr) (fun i _=>l.length-(intOf i).toNat)
   case atStart=>exact⟨0,by omega,rfl,rfl,BoxAt.new ..,(Below.refl _ _).alloc (Nat.le_refl _) _⟩
   case round=>
    obtain⟨j,hj,rfl,hy,hbox,hb⟩:=hrel
    open Q763 in exact M761
theorem few_any (t:VT)(w:World)(lo hi:Nat)(v:Value)(hR:Rep w lo hi t v)(hz:hi<=w.heap.size) :
  Calls Tryz.prog 78 #[v] w fun e w'=>e= .returned (.bool t.few)/\Below w.heap.size w w':=by
 have hv:=hR
 obtain⟨k,n,f,s,l,A,cap,rfl,rfl,ho,hl,hk⟩:=hR.open_
 generalize ht:VT.mk k n f s l=t at *
 have HV:=Lib.hid hv
 have hw0:=Ob t 900
 clear hv hR ho hk ht
 have HF:Hid (t.few=(decide (t.weight 900<=900)&&t.small 20)):=Lib.hid rfl
 go_enter Tryz.func78,Tryz.ntmps78
 go_wp2_with fail
 refine(Jy t 900 (by omega) (by omega) _ lo hi _ (HV.out.alloc hz _) (by simp;omega)).mono ?_
 rintro e w1 ⟨rfl,hb1⟩
 have hbox:=(BoxAt.new w k n f s A l.length cap).later hb1 (by simp)
 obtain⟨c0,c1,c2,c3,c4⟩:=hbox.cells
 have HB:=Lib.hid (((Below.refl w.heap.size w).alloc (Nat.le_refl _) (.cells #[.int .i64 k,.int .i64 n,.float .f64 f,.string s,.slice A l.length cap] 34)).trans (hb1.mono (by simp)))
 have HV1:=Lib.hid (HV.out.later (HB.out.mono hz))
 have hs1:=HB.out.size
 have HBX:=Lib.hid hbox
 clear hb1 hbox HV
 generalize t.weight 900=x at *
 by_cases hx:x<=900
 ·have hxd : decide (x <= 900) = true := by simpa using hx
  go_wp2_with fail
  refine(LW t 20 (by omega) (by omega) w1 lo hi _ HV1.out (by omega)).mono ?_
  rintro e w2 ⟨rfl,hb2⟩
  have HB2:=Lib.hid (HB.out.trans (hb2.mono hs1))
  clear hb2 HB
  go_wp2_with fail
  go_ret
  exact⟨De (by rw[HF.out,hxd];rfl),HB2.out⟩
 ·have hxd : decide (x <= 900) = false := by simpa using hx
  go_wp2_with fail
  go_ret
  exact⟨De (by rw[HF.out,hxd];rfl),HB.out⟩
end Vt
namespace Ev
open Nm (Dk De)
def Dw (s:ByteArray)(l:List Nat):Array Value:= #[.string s,.bool (l.contains 0),.bool (l.contains 1),.bool (l.contains 2),.bool (l.contains 3),.bool (l.contains 4),.bool (l.contains 5)]
def RowAt (w:World)(g:Nat)(cs:Array Value):Prop:=w.heap[g]?=some (.cells cs 184 (0,0))
theorem RowAt.cells {w:World}{g:Nat}{a b c d e f h:Value}(r:RowAt w g #[a,b,c,d,e,f,h]) :
  w.cell? ⟨g,0,none⟩=some a/\w.cell? ⟨g,1,none⟩=some b/\w.cell? ⟨g,2,none⟩=some c/\w.cell? ⟨g,3,none⟩=some d/\w.cell? ⟨g,4,none⟩=some e/\w.cell? ⟨g,5,none⟩=some f/\w.cell? ⟨g,6,none⟩=some h:=by
 unfold RowAt at r;simp[World.cell?,r]
theorem RowAt.free {w:World}{g:Nat}{cs:Array Value}(r:RowAt w g cs)(o:Nat):w.frozen? ⟨g,o,none⟩=false:=by unfold RowAt at r;simp[World.frozen?,r]
theorem RowAt.lt {w:World}{g:Nat}{cs:Array Value}(r:RowAt w g cs):g<w.heap.size:=(Array.getElem?_eq_some_iff.1 r).1
theorem RowAt.set {w:World}{g:Nat}{cs:Array Value}(r:RowAt w g cs)(o:Nat)(v:Value):RowAt (w.setCell ⟨g,o,none⟩ v) g (cs.setIfInBounds o v):=by
 unfold RowAt at *;simp[World.setCell,Array.getElem?_modify,r]
theorem RowAt.far {w:World}{g b:Nat}{cs:Array Value}(r:RowAt w g cs)(h:g≠b)(o:Nat)(v:Value):RowAt (w.setCell ⟨b,o,none⟩ v) g cs:=
 (Below.heap_setCell w ⟨b,o,none⟩ v g (by simpa using h)).trans r
theorem Vq (l:List Nat)(j:Nat)(h:j<l.length)(x:Nat):(l.take (j+1)).contains x=((l.take j).contains x||x==l[j]):=by
 rw[List.take_succ_eq_append_getElem h]
 generalize l.take j=a
 generalize l[j]=b
 rw[Bool.eq_iff_iff]
 simp
theorem row_step (s:ByteArray)(l:List Nat)(j:Nat)(h:j<l.length)(hf:l[j]<6):(Dw s (l.take j)).setIfInBounds (1+l[j]) (.bool true)=Dw s (l.take (j+1)):=by
 have e:=Vq l j h
 unfold Dw
 rw[e,e,e,e,e,e]
 rcases (by omega:l[j]=0\/l[j]=1\/l[j]=2\/l[j]=3\/l[j]=4\/l[j]=5) with q|q|q|q|q|q
 all_goals
  rw[q]
  simp
theorem with_any (s:ByteArray)(l:List Nat)(hl:l.length<=6)(hf:∀(i:Nat) (h:i<l.length),l[i]<6)(b:Nat)(w:World)(hb:b<w.heap.size)(hc:∀(i:Nat) (h:i<l.length),w.cell? ⟨b,i,none⟩=some (.int .i64 (l[i]:Int))) :
  Calls Tryz.prog 139 #[.string s,.slice (some ⟨b,0,none⟩) l.length l.length] w fun e w'=>e= .returned (.agg (Dw s l))/\Below w.heap.size w w':=by
 have HF:=Lib.hid hf;have HC:=Lib.hid hc;clear hf hc
 go_enter Tryz.func139,Tryz.ntmps139
 go_wp2_with fail
 go_loopw [12] (fun i wr=>∃(j:Nat),j<=l.length/\i= .int .i64 j/\RowAt wr (w.heap.size+1) (Dw s (l.take j))/\RowAt wr w.heap.size (Dw ⟨#[]⟩ [])/\Below w.heap.size w wr) (fun i _=>l.length-(intOf i).toNat)
 case atStart=>
  refine⟨0,by omega,rfl,?_,?_,((Below.refl _ _).alloc (Nat.le_refl _) _).alloc (by simp) _⟩
  ·have := heap_alloc_new (w.alloc (.cells (Dw ⟨#[]⟩ []) 184)) (.cells (Dw s []) 184)
   rw[World.size_alloc] at this
   exact this
  ·exact(Below.heap_alloc _ _ _ (by simp)).trans (heap_alloc_new w _)
 case round=>
  obtain⟨j,hj,rfl,hr,hr0,hbl⟩:=hrel
  have hlt0:=hr.lt
  by_cases hlt:j<l.length
  ·have hcj : wr.cell? ⟨b, j, none⟩ = some (.int .i64 (l[j] : Int)) := (hbl.cell (p := ⟨b, j, none⟩) hb).trans (HC.out j hlt)
   have hfj:=HF.out j hlt
   have HS:=Lib.hid (row_step s l j hlt hfj)
   have HR:=Lib.hid hr;have HR0:=Lib.hid hr0;have HB:=Lib.hid hbl
   have hfr:=hr.free
   obtain⟨x,hx⟩:∃x,x=l[j]:=⟨_,rfl⟩
   rw[<-hx] at hcj hfj HS
   clear hbl hr0
   unfold Dw at hr
   obtain⟨c0,c1,c2,c3,c4,c5,c6⟩:=hr.cells
   clear hr hx
   have HFR:=Lib.hid hfr;clear hfr
   have f1:=HFR.out 1;have f2:=HFR.out 2;have f3:=HFR.out 3;have f4:=HFR.out 4;have f5:=HFR.out 5;have f6:=HFR.out 6
   rcases (by omega:x=0\/x=1\/x=2\/x=3\/x=4\/x=5) with rfl|rfl|rfl|rfl|rfl|rfl
   all_goals
    go_wp2_with fail
    go_roundw
    case rel=>exact⟨j+1,by omega,by go_num,by rw[<-HS.out];exact HR.out.set _ _,HR0.out.far (by omega) _ _,HB.out.setCell (by simp) _⟩
    case measure=>simp[intOf];omega
  ·have hj' : j = l.length := by omega
   subst hj'
   rw[List.take_length] at hr
   have HB:=Lib.hid hbl;clear hbl
   have f0:=hr0.free 0;have f1:=hr0.free 1;have f2:=hr0.free 2;have f3:=hr0.free 3;have f4:=hr0.free 4;have f5:=hr0.free 5;have f6:=hr0.free 6
   have HX:=Lib.hid (show Dw s l=Dw s l from rfl)
   unfold Dw at hr hr0
   obtain⟨c0,c1,c2,c3,c4,c5,c6⟩:=hr.cells
   obtain⟨d0,d1,d2,d3,d4,d5,d6⟩:=hr0.cells
   clear hr hr0
   go_wp2_with fail
   refine bodyPost_ret (v:= .agg (Dw s l)) (by simp[results,Tryz.results139,go_sem,Dw,d0,d1,d2,d3,d4,d5,d6]) rfl ⟨rfl,?_⟩
   exact((((((HB.out.setCell (p:=⟨w.heap.size,0,none⟩) (Nat.le_refl _) _).setCell (p:=⟨w.heap.size,1,none⟩) (Nat.le_refl _) _).setCell (p:=⟨w.heap.size,2,none⟩) (Nat.le_refl _) _).setCell (p:=⟨w.heap.size,3,none⟩) (Nat.le_refl _) _).setCell (p:=⟨w.heap.size,4,none⟩) (Nat.le_refl _) _).setCell (p:=⟨w.heap.size,5,none⟩) (Nat.le_refl _) _).setCell (p:=⟨w.heap.size,6,none⟩) (Nat.le_refl _) _
def nameOf (k : Nat) : ByteArray := match k with
 | 1=>⟨#[115,116,97,114,116,101,100]⟩
 | 2=>⟨#[100,105,115,112,97,116,99,104,101,100]⟩
 | 3=>⟨#[102,105,110,105,115,104,101,100]⟩
 | 4=>⟨#[98,114,111,107,101,110]⟩
 | 5=>⟨#[102,105,114,101,100]⟩
 | 6=>⟨#[115,105,103,110,97,108]⟩
 | 7=>⟨#[115,99,104,101,100,117,108,101,100]⟩
 | 8=>⟨#[97,114,109,101,100]⟩
 | 9=>⟨#[99,111,109,112,108,101,116,101,100]⟩
 | 10=>⟨#[102,97,105,108,101,100]⟩
 | 11=>⟨#[112,97,110,105,99,107,101,100]⟩
 | _=>⟨#[]⟩
def fieldsOf (k : Nat) : List Nat := match k with
 | 1=>[3,5]
 | 2=>[0,1,2]
 | 3=>[0,1,5]
 | 4=>[0,1,2,4]
 | 5=>[0]
 | 6=>[3,4,5]
 | 7=>[0,3,5]
 | 8=>[0,2]
 | 9=>[5]
 | 10=>[4]
 | 11=>[4]
 | _=>[]
theorem DG (l:List Nat)(hl:l.length<=6)(hf:∀(i:Nat) (h:i<l.length),l[i]<6)(s:ByteArray)(w:World)(n m:Nat)(L R:Array Value)(hR:Dw s l=R)(hn:w.heap.size=n)(hm:l.length=m)(hL:L=(l.map fun x:Nat=>Value.int .i64 (x:Int)).toArray) :
  Calls Tryz.prog 139 #[.string s,.slice (some ⟨n,0,none⟩) m m] (w.alloc (.cells L 3)) fun e w'=>
   e= .returned (.agg R)/\Below n w w'/\n<w'.heap.size:=by
 subst hn hm hL hR
 have := with_any s l hl hf w.heap.size (w.alloc (.cells ((l.map fun x : Nat => Value.int .i64 (x : Int)).toArray) 3)) (by simp) (fun i h => by
  rw[World.cell?_alloc_new];simp[h])
 rw[World.size_alloc] at this
 exact this.mono fun e w' h=>⟨h.1,((Below.refl _ _).alloc (Nat.le_refl _) _).trans (h.2.mono (by omega)),by have:=h.2.size;simp at this;omega⟩
def tbl : Array Value:= #[.string ⟨#[]⟩,.bool false,.bool false,.bool false,.bool false,.bool false,.bool false,.string ⟨#[115,116,97,114,116,101,100]⟩,.bool false,.bool false,.bool false,.bool true,.bool false,.bool true,.string ⟨#[100,105,115,112,97,116,99,104,101,100]⟩,.bool true,.bool true,.bool true,.bool false,.bool false,.bool false,.string ⟨#[102,105,110,105,115,104,101,100]⟩,.bool true,.bool true,.bool false,.bool false,.bool false,.bool true,.string ⟨#[98,114,111,107,101,110]⟩,.bool true,.bool true,.bool true,.bool false,.bool true,.bool false,.string ⟨#[102,105,114,101,100]⟩,.bool true,.bool false,.bool false,.bool false,.bool false,.bool false,.string ⟨#[115,105,103,110,97,108]⟩,.bool false,.bool false,.bool false,.bool true,.bool true,.bool true,.string ⟨#[115,99,104,101,100,117,108,101,100]⟩,.bool true,.bool false,.bool false,.bool true,.bool false,.bool true,.string ⟨#[97,114,109,101,100]⟩,.bool true,.bool false,.bool true,.bool false,.bool false,.bool false,.string ⟨#[99,111,109,112,108,101,116,101,100]⟩,.bool false,.bool false,.bool false,.bool false,.bool false,.bool true,.string ⟨#[102,97,105,108,101,100]⟩,.bool false,.bool false,.bool false,.bool false,.bool true,.bool false,.string ⟨#[112,97,110,105,99,107,101,100]⟩,.bool false,.bool false,.bool false,.bool false,.bool true,.bool false]
def Ju : Array Value:= #[.string ⟨#[]⟩,.bool false,.bool false,.bool false,.bool false,.bool false,.bool false,.string ⟨#[]⟩,.bool false,.bool false,.bool false,.bool false,.bool false,.bool false,.string ⟨#[]⟩,.bool false,.bool false,.bool false,.bool false,.bool false,.bool false,.string ⟨#[]⟩,.bool false,.bool false,.bool false,.bool false,.bool false,.bool false,.string ⟨#[]⟩,.bool false,.bool false,.bool false,.bool false,.bool false,.bool false,.string ⟨#[]⟩,.bool false,.bool false,.bool false,.bool false,.bool false,.bool false,.string ⟨#[]⟩,.bool false,.bool false,.bool false,.bool false,.bool false,.bool false,.string ⟨#[]⟩,.bool false,.bool false,.bool false,.bool false,.bool false,.bool false,.string ⟨#[]⟩,.bool false,.bool false,.bool false,.bool false,.bool false,.bool false,.string ⟨#[]⟩,.bool false,.bool false,.bool false,.bool false,.bool false,.bool false,.string ⟨#[]⟩,.bool false,.bool false,.bool false,.bool false,.bool false,.bool false,.string ⟨#[]⟩,.bool false,.bool false,.bool false,.bool false,.bool false,.bool false]
theorem VC : Tryz.prog.built 223 [(1,.agg #[.string ⟨#[115,116,97,114,116,101,100]⟩,.bool false,.bool false,.bool false,.bool true,.bool false,.bool true]),(2,.agg #[.string ⟨#[100,105,115,112,97,116,99,104,101,100]⟩,.bool true,.bool true,.bool true,.bool false,.bool false,.bool false]),(3,.agg #[.string ⟨#[102,105,110,105,115,104,101,100]⟩,.bool true,.bool true,.bool false,.bool false,.bool false,.bool true]),(4,.agg #[.string ⟨#[98,114,111,107,101,110]⟩,.bool true,.bool true,.bool true,.bool false,.bool true,.bool false]),(5,.agg #[.string ⟨#[102,105,114,101,100]⟩,.bool true,.bool false,.bool false,.bool false,.bool false,.bool false]),(6,.agg #[.string ⟨#[115,105,103,110,97,108]⟩,.bool false,.bool false,.bool false,.bool true,.bool true,.bool true]),(7,.agg #[.string ⟨#[115,99,104,101,100,117,108,101,100]⟩,.bool true,.bool false,.bool false,.bool true,.bool false,.bool true]),(8,.agg #[.string ⟨#[97,114,109,101,100]⟩,.bool true,.bool false,.bool true,.bool false,.bool false,.bool false]),(9,.agg #[.string ⟨#[99,111,109,112,108,101,116,101,100]⟩,.bool false,.bool false,.bool false,.bool false,.bool false,.bool true]),(10,.agg #[.string ⟨#[102,97,105,108,101,100]⟩,.bool false,.bool false,.bool false,.bool false,.bool true,.bool false]),(11,.agg #[.string ⟨#[112,97,110,105,99,107,101,100]⟩,.bool false,.bool false,.bool false,.bool false,.bool true,.bool false])]=some tbl:=by kernel_rfl
theorem Yj : (Tryz.prog.info? 223).map (fun i=>(i.zero,i.size))=some (some (.agg Ju),84):=by kernel_rfl
theorem tbl_at (k:Nat)(h1:1<=k)(h2:k<=11):tbl[k*7]?=some (.string (nameOf k))/\tbl[k*7+1]?=some (.bool ((fieldsOf k).contains 0))/\tbl[k*7+2]?=some (.bool ((fieldsOf k).contains 1))/\tbl[k*7+3]?=some (.bool ((fieldsOf k).contains 2))/\
  tbl[k*7+4]?=some (.bool ((fieldsOf k).contains 3))/\tbl[k*7+5]?=some (.bool ((fieldsOf k).contains 4))/\tbl[k*7+6]?=some (.bool ((fieldsOf k).contains 5)):=by
 rcases (by omega:k=1\/k=2\/k=3\/k=4\/k=5\/k=6\/k=7\/k=8\/k=9\/k=10\/k=11) with rfl|rfl|rfl|rfl|rfl|rfl|rfl|rfl|rfl|rfl|rfl
 all_goals exact⟨rfl,rfl,rfl,rfl,rfl,rfl,rfl⟩
theorem Uy (w':World)(B:Nat)(a b c d e f g:Value):(((((((w'.setCell ⟨B,0,none⟩ a).setCell ⟨B,1,none⟩ b).setCell ⟨B,2,none⟩ c).setCell ⟨B,3,none⟩ d).setCell ⟨B,4,none⟩ e).setCell ⟨B,5,none⟩ f).setCell ⟨B,6,none⟩ g).heap.size=w'.heap.size:=by simp[World.setCell]
theorem SQ {B:Nat}{w w':World}(h:Below B w w')(a b c d e f g:Value) :
  Below B w (((((((w'.setCell ⟨B,0,none⟩ a).setCell ⟨B,1,none⟩ b).setCell ⟨B,2,none⟩ c).setCell ⟨B,3,none⟩ d).setCell ⟨B,4,none⟩ e).setCell ⟨B,5,none⟩ f).setCell ⟨B,6,none⟩ g):=
 ((((((h.setCell (p:=⟨B,0,none⟩) (Nat.le_refl _) _).setCell (p:=⟨B,1,none⟩) (Nat.le_refl _) _).setCell (p:=⟨B,2,none⟩) (Nat.le_refl _) _).setCell (p:=⟨B,3,none⟩) (Nat.le_refl _) _).setCell (p:=⟨B,4,none⟩) (Nat.le_refl _) _).setCell (p:=⟨B,5,none⟩) (Nat.le_refl _) _).setCell (p:=⟨B,6,none⟩) (Nat.le_refl _) _
theorem of_in' (k:Nat)(h1:1<=k)(h2:k<=11)(nm:ByteArray)(b0 b1 b2 b3 b4 b5:Bool)(t0:tbl[k*7]?=some (.string nm))(t1:tbl[k*7+1]?=some (.bool b0))(t2:tbl[k*7+2]?=some (.bool b1))(t3:tbl[k*7+3]?=some (.bool b2))(t4:tbl[k*7+4]?=some (.bool b3))(t5:tbl[k*7+5]?=some (.bool b4))(t6:tbl[k*7+6]?=some (.bool b5))(w:World) :
  Calls Tryz.prog 104 #[.int .i64 k] w fun e w'=>e= .returned (.tuple #[.agg #[.string nm,.bool b0,.bool b1,.bool b2,.bool b3,.bool b4,.bool b5],.bool true])/\Below w.heap.size w w':=by
 have T0:=Lib.hid t0;have T1:=Lib.hid t1;have T2:=Lib.hid t2;have T3:=Lib.hid t3;have T4:=Lib.hid t4;have T5:=Lib.hid t5;have T6:=Lib.hid t6
 clear t0 t1 t2 t3 t4 t5 t6
 have HR0:Hid (RowAt (w.alloc (.cells (Dw ⟨#[]⟩ []) 184)) w.heap.size (Dw ⟨#[]⟩ [])):=Lib.hid (heap_alloc_new w _)
 have HB:=Lib.hid ((Below.refl w.heap.size w).alloc (Nat.le_refl _) (.cells #[.string ⟨#[]⟩,.bool false,.bool false,.bool false,.bool false,.bool false,.bool false] 184))
 have W1:=Lib.hid (DG [3,5] (by decide) (by decide))
 have W2:=Lib.hid (DG [0,1,2] (by decide) (by decide))
 have W3:=Lib.hid (DG [0,1,5] (by decide) (by decide))
 have W4:=Lib.hid (DG [0,1,2,4] (by decide) (by decide))
 have W5:=Lib.hid (DG [0] (by decide) (by decide))
 have W6:=Lib.hid (DG [3,4,5] (by decide) (by decide))
 have W7:=Lib.hid (DG [0,3,5] (by decide) (by decide))
 have W8:=Lib.hid (DG [0,2] (by decide) (by decide))
 have W9:=Lib.hid (DG [5] (by decide) (by decide))
 have W10:=Lib.hid (DG [4] (by decide) (by decide))
 have W11:=Lib.hid (DG [4] (by decide) (by decide))
 have hbt:=VC
 obtain⟨hzt,hsz⟩:=zero_of_info Yj
 have HSZ:=Lib.hid hsz;clear hsz
 go_enter Tryz.func104,Tryz.ntmps104
 go_wp2_with fail
 refine(W1.out _ _ _ _ _ #[.string ⟨#[115,116,97,114,116,101,100]⟩,.bool false,.bool false,.bool false,.bool true,.bool false,.bool true] rfl (by simp) rfl rfl).mono ?_
 rintro e w1 ⟨rfl,hb,hz1⟩
 have B1:=Lib.hid (HB.out.trans (hb.mono (by omega)))
 have hy1:w.heap.size<w1.heap.size:=by omega
 have R1:=Lib.hid (show RowAt w1 w.heap.size _ from (hb.block w.heap.size (by omega)).trans HR0.out)
 clear hb HB HR0
 go_wp2_with fail
 refine(W2.out _ _ _ _ _ #[.string ⟨#[100,105,115,112,97,116,99,104,101,100]⟩,.bool true,.bool true,.bool true,.bool false,.bool false,.bool false] rfl (by rfl) rfl rfl).mono ?_
 rintro e w2 ⟨rfl,hb,hz2⟩
 have B2:=Lib.hid (B1.out.trans (hb.mono (by omega)))
 have hy2:w.heap.size<w2.heap.size:=by omega
 have R2:=Lib.hid (show RowAt w2 w.heap.size _ from (hb.block w.heap.size (by omega)).trans R1.out)
 clear hb B1 R1 W2
 go_wp2_with fail
 refine(W3.out _ _ _ _ _ #[.string ⟨#[102,105,110,105,115,104,101,100]⟩,.bool true,.bool true,.bool false,.bool false,.bool false,.bool true] rfl (by rfl) rfl rfl).mono ?_
 rintro e w3 ⟨rfl,hb,hz3⟩
 have B3:=Lib.hid (B2.out.trans (hb.mono (by omega)))
 have hy3:w.heap.size<w3.heap.size:=by omega
 have R3:=Lib.hid (show RowAt w3 w.heap.size _ from (hb.block w.heap.size (by omega)).trans R2.out)
 clear hb B2 R2 W3
 go_wp2_with fail
 refine(W4.out _ _ _ _ _ #[.string ⟨#[98,114,111,107,101,110]⟩,.bool true,.bool true,.bool true,.bool false,.bool true,.bool false] rfl (by rfl) rfl rfl).mono ?_
 rintro e w4 ⟨rfl,hb,hz4⟩
 have B4:=Lib.hid (B3.out.trans (hb.mono (by omega)))
 have hy4:w.heap.size<w4.heap.size:=by omega
 have R4:=Lib.hid (show RowAt w4 w.heap.size _ from (hb.block w.heap.size (by omega)).trans R3.out)
 clear hb B3 R3 W4
 go_wp2_with fail
 refine(W5.out _ _ _ _ _ #[.string ⟨#[102,105,114,101,100]⟩,.bool true,.bool false,.bool false,.bool false,.bool false,.bool false] rfl (by rfl) rfl rfl).mono ?_
 rintro e w5 ⟨rfl,hb,hz5⟩
 have B5:=Lib.hid (B4.out.trans (hb.mono (by omega)))
 have hy5:w.heap.size<w5.heap.size:=by omega
 have R5:=Lib.hid (show RowAt w5 w.heap.size _ from (hb.block w.heap.size (by omega)).trans R4.out)
 clear hb B4 R4 W5
 go_wp2_with fail
 refine(W6.out _ _ _ _ _ #[.string ⟨#[115,105,103,110,97,108]⟩,.bool false,.bool false,.bool false,.bool true,.bool true,.bool true] rfl (by rfl) rfl rfl).mono ?_
 rintro e w6 ⟨rfl,hb,hz6⟩
 have B6:=Lib.hid (B5.out.trans (hb.mono (by omega)))
 have hy6:w.heap.size<w6.heap.size:=by omega
 have R6:=Lib.hid (show RowAt w6 w.heap.size _ from (hb.block w.heap.size (by omega)).trans R5.out)
 clear hb B5 R5 W6
 go_wp2_with fail
 refine(W7.out _ _ _ _ _ #[.string ⟨#[115,99,104,101,100,117,108,101,100]⟩,.bool true,.bool false,.bool false,.bool true,.bool false,.bool true] rfl (by rfl) rfl rfl).mono ?_
 rintro e w7 ⟨rfl,hb,hz7⟩
 have B7:=Lib.hid (B6.out.trans (hb.mono (by omega)))
 have hy7:w.heap.size<w7.heap.size:=by omega
 have R7:=Lib.hid (show RowAt w7 w.heap.size _ from (hb.block w.heap.size (by omega)).trans R6.out)
 clear hb B6 R6 W7
 go_wp2_with fail
 refine(W8.out _ _ _ _ _ #[.string ⟨#[97,114,109,101,100]⟩,.bool true,.bool false,.bool true,.bool false,.bool false,.bool false] rfl (by rfl) rfl rfl).mono ?_
 rintro e w8 ⟨rfl,hb,hz8⟩
 have B8:=Lib.hid (B7.out.trans (hb.mono (by omega)))
 have hy8:w.heap.size<w8.heap.size:=by omega
 have R8:=Lib.hid (show RowAt w8 w.heap.size _ from (hb.block w.heap.size (by omega)).trans R7.out)
 clear hb B7 R7 W8
 go_wp2_with fail
 refine(W9.out _ _ _ _ _ #[.string ⟨#[99,111,109,112,108,101,116,101,100]⟩,.bool false,.bool false,.bool false,.bool false,.bool false,.bool true] rfl (by rfl) rfl rfl).mono ?_
 rintro e w9 ⟨rfl,hb,hz9⟩
 have B9:=Lib.hid (B8.out.trans (hb.mono (by omega)))
 have hy9:w.heap.size<w9.heap.size:=by omega
 have R9:=Lib.hid (show RowAt w9 w.heap.size _ from (hb.block w.heap.size (by omega)).trans R8.out)
 clear hb B8 R8 W9
 go_wp2_with fail
 refine(W10.out _ _ _ _ _ #[.string ⟨#[102,97,105,108,101,100]⟩,.bool false,.bool false,.bool false,.bool false,.bool true,.bool false] rfl (by rfl) rfl rfl).mono ?_
 rintro e w10 ⟨rfl,hb,hz10⟩
 have B10:=Lib.hid (B9.out.trans (hb.mono (by omega)))
 have hy10:w.heap.size<w10.heap.size:=by omega
 have R10:=Lib.hid (show RowAt w10 w.heap.size _ from (hb.block w.heap.size (by omega)).trans R9.out)
 clear hb B9 R9 W10
 go_wp2_with fail
 refine(W11.out _ _ _ _ _ #[.string ⟨#[112,97,110,105,99,107,101,100]⟩,.bool false,.bool false,.bool false,.bool false,.bool true,.bool false] rfl (by rfl) rfl rfl).mono ?_
 rintro e w11 ⟨rfl,hb,hz11⟩
 have B11:=Lib.hid (B10.out.trans (hb.mono (by omega)))
 have hy11:w.heap.size<w11.heap.size:=by omega
 have R11:=Lib.hid (show RowAt w11 w.heap.size _ from (hb.block w.heap.size (by omega)).trans R10.out)
 clear hb B10 R10 W11
 have hset:(w11.alloc (.cells Ju 223)).setRow w11.heap.size tbl=w11.alloc (.cells tbl 223):=World.setRow_alloc_new ..
 have hrow:=heap_alloc_new w11 (.cells Ju 223)
 have HROW:=Lib.hid hrow;clear hrow
 have hres:=R11.out
 have f0:=hres.free 0;have f1:=hres.free 1;have f2:=hres.free 2;have f3:=hres.free 3;have f4:=hres.free 4;have f5:=hres.free 5;have f6:=hres.free 6
 unfold Dw at hres
 obtain⟨d0,d1,d2,d3,d4,d5,d6⟩:=hres.cells
 clear hres R11 W1
 have t0:=T0.out;have t1:=T1.out;have t2:=T2.out;have t3:=T3.out;have t4:=T4.out;have t5:=T5.out;have t6:=T6.out
 clear T0 T1 T2 T3 T4 T5 T6
 go_wp2_with (first
  | (refine wpList_build rfl 223 _ rfl ?_ ?_)
  | (refine wpList_store_row rfl 223 _ _ rfl w11.heap.size tbl rfl rfl 223 Ju HROW.out HSZ.out rfl (by kernel_rfl) ?_))
 refine bodyPost_ret (v:= .tuple #[.agg #[.string nm,.bool b0,.bool b1,.bool b2,.bool b3,.bool b4,.bool b5],.bool true]) (by simp[results,Tryz.results104,go_sem,d0,d1,d2,d3,d4,d5,d6,hy11]) rfl ⟨rfl,?_⟩
 exact(SQ B11.out _ _ _ _ _ _ _).alloc (by rw[Uy];omega) _
theorem of_out (k:Int)(h:k<1\/11<k)(w:World):Calls Tryz.prog 104 #[.int .i64 k] w fun e w'=>e= .returned (.tuple #[.agg #[.string ⟨#[]⟩,.bool false,.bool false,.bool false,.bool false,.bool false,.bool false],.bool false])/\Below w.heap.size w w':=by
 have H:=Lib.hid h;clear h
 have HR0:Hid (RowAt (w.alloc (.cells (Dw ⟨#[]⟩ []) 184)) w.heap.size (Dw ⟨#[]⟩ [])):=Lib.hid (heap_alloc_new w _)
 have HB:=Lib.hid ((Below.refl w.heap.size w).alloc (Nat.le_refl _) (.cells #[.string ⟨#[]⟩,.bool false,.bool false,.bool false,.bool false,.bool false,.bool false] 184))
 have W1:=Lib.hid (DG [3,5] (by decide) (by decide))
 have W2:=Lib.hid (DG [0,1,2] (by decide) (by decide))
 have W3:=Lib.hid (DG [0,1,5] (by decide) (by decide))
 have W4:=Lib.hid (DG [0,1,2,4] (by decide) (by decide))
 have W5:=Lib.hid (DG [0] (by decide) (by decide))
 have W6:=Lib.hid (DG [3,4,5] (by decide) (by decide))
 have W7:=Lib.hid (DG [0,3,5] (by decide) (by decide))
 have W8:=Lib.hid (DG [0,2] (by decide) (by decide))
 have W9:=Lib.hid (DG [5] (by decide) (by decide))
 have W10:=Lib.hid (DG [4] (by decide) (by decide))
 have W11:=Lib.hid (DG [4] (by decide) (by decide))
 have hbt:=VC
 obtain⟨hzt,hsz⟩:=zero_of_info Yj
 have HSZ:=Lib.hid hsz;clear hsz
 go_enter Tryz.func104,Tryz.ntmps104
 go_wp2_with fail
 refine(W1.out _ _ _ _ _ #[.string ⟨#[115,116,97,114,116,101,100]⟩,.bool false,.bool false,.bool false,.bool true,.bool false,.bool true] rfl (by simp) rfl rfl).mono ?_
 rintro e w1 ⟨rfl,hb,hz1⟩
 have B1:=Lib.hid (HB.out.trans (hb.mono (by omega)))
 have hy1:w.heap.size<w1.heap.size:=by omega
 have R1:=Lib.hid (show RowAt w1 w.heap.size _ from (hb.block w.heap.size (by omega)).trans HR0.out)
 clear hb HB HR0
 go_wp2_with fail
 refine(W2.out _ _ _ _ _ #[.string ⟨#[100,105,115,112,97,116,99,104,101,100]⟩,.bool true,.bool true,.bool true,.bool false,.bool false,.bool false] rfl (by rfl) rfl rfl).mono ?_
 rintro e w2 ⟨rfl,hb,hz2⟩
 have B2:=Lib.hid (B1.out.trans (hb.mono (by omega)))
 have hy2:w.heap.size<w2.heap.size:=by omega
 have R2:=Lib.hid (show RowAt w2 w.heap.size _ from (hb.block w.heap.size (by omega)).trans R1.out)
 clear hb B1 R1 W2
 go_wp2_with fail
 refine(W3.out _ _ _ _ _ #[.string ⟨#[102,105,110,105,115,104,101,100]⟩,.bool true,.bool true,.bool false,.bool false,.bool false,.bool true] rfl (by rfl) rfl rfl).mono ?_
 rintro e w3 ⟨rfl,hb,hz3⟩
 have B3:=Lib.hid (B2.out.trans (hb.mono (by omega)))
 have hy3:w.heap.size<w3.heap.size:=by omega
 have R3:=Lib.hid (show RowAt w3 w.heap.size _ from (hb.block w.heap.size (by omega)).trans R2.out)
 clear hb B2 R2 W3
 go_wp2_with fail
 refine(W4.out _ _ _ _ _ #[.string ⟨#[98,114,111,107,101,110]⟩,.bool true,.bool true,.bool true,.bool false,.bool true,.bool false] rfl (by rfl) rfl rfl).mono ?_
 rintro e w4 ⟨rfl,hb,hz4⟩
 have B4:=Lib.hid (B3.out.trans (hb.mono (by omega)))
 have hy4:w.heap.size<w4.heap.size:=by omega
 have R4:=Lib.hid (show RowAt w4 w.heap.size _ from (hb.block w.heap.size (by omega)).trans R3.out)
 clear hb B3 R3 W4
 go_wp2_with fail
 refine(W5.out _ _ _ _ _ #[.string ⟨#[102,105,114,101,100]⟩,.bool true,.bool false,.bool false,.bool false,.bool false,.bool false] rfl (by rfl) rfl rfl).mono ?_
 rintro e w5 ⟨rfl,hb,hz5⟩
 have B5:=Lib.hid (B4.out.trans (hb.mono (by omega)))
 have hy5:w.heap.size<w5.heap.size:=by omega
 have R5:=Lib.hid (show RowAt w5 w.heap.size _ from (hb.block w.heap.size (by omega)).trans R4.out)
 clear hb B4 R4 W5
 go_wp2_with fail
 refine(W6.out _ _ _ _ _ #[.string ⟨#[115,105,103,110,97,108]⟩,.bool false,.bool false,.bool false,.bool true,.bool true,.bool true] rfl (by rfl) rfl rfl).mono ?_
 rintro e w6 ⟨rfl,hb,hz6⟩
 have B6:=Lib.hid (B5.out.trans (hb.mono (by omega)))
 have hy6:w.heap.size<w6.heap.size:=by omega
 have R6:=Lib.hid (show RowAt w6 w.heap.size _ from (hb.block w.heap.size (by omega)).trans R5.out)
 clear hb B5 R5 W6
 go_wp2_with fail
 refine(W7.out _ _ _ _ _ #[.string ⟨#[115,99,104,101,100,117,108,101,100]⟩,.bool true,.bool false,.bool false,.bool true,.bool false,.bool true] rfl (by rfl) rfl rfl).mono ?_
 rintro e w7 ⟨rfl,hb,hz7⟩
 have B7:=Lib.hid (B6.out.trans (hb.mono (by omega)))
 have hy7:w.heap.size<w7.heap.size:=by omega
 have R7:=Lib.hid (show RowAt w7 w.heap.size _ from (hb.block w.heap.size (by omega)).trans R6.out)
 clear hb B6 R6 W7
 go_wp2_with fail
 refine(W8.out _ _ _ _ _ #[.string ⟨#[97,114,109,101,100]⟩,.bool true,.bool false,.bool true,.bool false,.bool false,.bool false] rfl (by rfl) rfl rfl).mono ?_
 rintro e w8 ⟨rfl,hb,hz8⟩
 have B8:=Lib.hid (B7.out.trans (hb.mono (by omega)))
 have hy8:w.heap.size<w8.heap.size:=by omega
 have R8:=Lib.hid (show RowAt w8 w.heap.size _ from (hb.block w.heap.size (by omega)).trans R7.out)
 clear hb B7 R7 W8
 go_wp2_with fail
 refine(W9.out _ _ _ _ _ #[.string ⟨#[99,111,109,112,108,101,116,101,100]⟩,.bool false,.bool false,.bool false,.bool false,.bool false,.bool true] rfl (by rfl) rfl rfl).mono ?_
 rintro e w9 ⟨rfl,hb,hz9⟩
 have B9:=Lib.hid (B8.out.trans (hb.mono (by omega)))
 have hy9:w.heap.size<w9.heap.size:=by omega
 have R9:=Lib.hid (show RowAt w9 w.heap.size _ from (hb.block w.heap.size (by omega)).trans R8.out)
 clear hb B8 R8 W9
 go_wp2_with fail
 refine(W10.out _ _ _ _ _ #[.string ⟨#[102,97,105,108,101,100]⟩,.bool false,.bool false,.bool false,.bool false,.bool true,.bool false] rfl (by rfl) rfl rfl).mono ?_
 rintro e w10 ⟨rfl,hb,hz10⟩
 have B10:=Lib.hid (B9.out.trans (hb.mono (by omega)))
 have hy10:w.heap.size<w10.heap.size:=by omega
 have R10:=Lib.hid (show RowAt w10 w.heap.size _ from (hb.block w.heap.size (by omega)).trans R9.out)
 clear hb B9 R9 W10
 go_wp2_with fail
 refine(W11.out _ _ _ _ _ #[.string ⟨#[112,97,110,105,99,107,101,100]⟩,.bool false,.bool false,.bool false,.bool false,.bool true,.bool false] rfl (by rfl) rfl rfl).mono ?_
 rintro e w11 ⟨rfl,hb,hz11⟩
 have B11:=Lib.hid (B10.out.trans (hb.mono (by omega)))
 have hy11:w.heap.size<w11.heap.size:=by omega
 have R11:=Lib.hid (show RowAt w11 w.heap.size _ from (hb.block w.heap.size (by omega)).trans R10.out)
 clear hb B10 R10 W11
 have hset:(w11.alloc (.cells Ju 223)).setRow w11.heap.size tbl=w11.alloc (.cells tbl 223):=World.setRow_alloc_new ..
 have hrow:=heap_alloc_new w11 (.cells Ju 223)
 have HROW:=Lib.hid hrow;clear hrow
 have hres:=R11.out
 have f0:=hres.free 0;have f1:=hres.free 1;have f2:=hres.free 2;have f3:=hres.free 3;have f4:=hres.free 4;have f5:=hres.free 5;have f6:=hres.free 6
 unfold Dw at hres
 obtain⟨d0,d1,d2,d3,d4,d5,d6⟩:=hres.cells
 clear hres R11 W1
 rcases H.out with h|h
 all_goals
  clear H
  go_wp2_with (first
   | (refine wpList_build rfl 223 _ rfl ?_ ?_)
   | (refine wpList_store_row rfl 223 _ _ rfl w11.heap.size tbl rfl rfl 223 Ju HROW.out HSZ.out rfl (by kernel_rfl) ?_))
  refine bodyPost_ret (v:= .tuple #[.agg #[.string ⟨#[]⟩,.bool false,.bool false,.bool false,.bool false,.bool false,.bool false],.bool false]) (by simp[results,Tryz.results104,go_sem,d0,d1,d2,d3,d4,d5,d6,hy11]) rfl ⟨rfl,?_⟩
  exact(SQ B11.out _ _ _ _ _ _ _).alloc (by rw[Uy];omega) _
theorem Lc (k:Nat)(h1:1<=k)(h2:k<=11)(w:World):Calls Tryz.prog 104 #[.int .i64 k] w fun e w'=>e= .returned (.tuple #[.agg (Dw (nameOf k) (fieldsOf k)),.bool true])/\Below w.heap.size w w':=by
 obtain⟨t0,t1,t2,t3,t4,t5,t6⟩:=tbl_at k h1 h2
 exact of_in' k h1 h2 _ _ _ _ _ _ _ t0 t1 t2 t3 t4 t5 t6 w
end Ev
namespace Vt
open Nm (Di Dk De)
theorem loop_len (s:ByteArray):∀(k i:Nat) (r:List UInt8),s.size-i=k->(ByteArray.toList.loop s i r).length=k+r.length:=by
 intro k
 induction k with
 | zero=>intro i r h;rw[ByteArray.toList.loop];rw[if_neg (by omega)];simp
 | succ k ih=>intro i r h;rw[ByteArray.toList.loop];rw[if_pos (by omega)];rw[ih _ _ (by omega)];simp;omega
theorem toList_nil (s:ByteArray):s.toList= []↔s.size=0:=by
 rw[<-List.length_eq_zero_iff];unfold ByteArray.toList;rw[loop_len s s.size 0 [] (by omega)];simp
def Sn (k n:Int)(f:Nat)(s:ByteArray)(l:List VT)(x:Int):Prop:=
 0<=k/\k<=4/\(k=1\/n=0)/\(k=2\/Di f=0)/\(k=3\/s.toList= [])/\(k=4\/l.length=0)/\(k=4->x≠0)/\l.all (fun t=>t.valid (x-1).toNat)=true
theorem VM (k n:Int)(f:Nat)(s:ByteArray)(l:List VT)(x:Int)(hx:0<=x):(VT.mk k n f s l).valid x.toNat=true↔Sn k n f s l x:=by
 rw[Oc]
 unfold Sn
 rw[show (x-1).toNat=x.toNat-1 from by omega,toList_nil]
 simp only[Bool.and_eq_true,Bool.or_eq_true,decide_eq_true_iff,beq_iff_eq,bne_iff_ne,and_assoc]
 constructor
 ·rintro ⟨a, b, c, d, e, f, g, h⟩
  exact⟨a,b,c,d,e,f,fun h4=>by rcases g with g|g<;>omega,h⟩
 ·rintro ⟨a, b, c, d, e, f, g, h⟩
  refine⟨a,b,c,d,e,f,?_,h⟩
  by_cases h4:k=4
  ·right;have:=g h4;omega
  ·left;exact h4
theorem OZ {k n:Int}{f:Nat}{s:ByteArray}{l:List VT}{x:Int}{b:Bool}(h:b=true↔Sn k n f s l x)(hp:¬Sn k n f s l x):Ending.returned (.bool false)= .returned (.bool b):=by
 cases b with
 | false=>rfl
 | true=>exact absurd (h.1 rfl) hp
theorem OE {k n:Int}{f:Nat}{s:ByteArray}{l:List VT}{x:Int}{b:Bool}(h:b=true↔Sn k n f s l x)(hp:Sn k n f s l x):Ending.returned (.bool true)= .returned (.bool b):=by
 rw[h.2 hp]
def Pz (k n:Int)(f:Nat)(s:ByteArray)(m:Nat):Prop:=(k=1\/n=0)/\(k=2\/Di f=0)/\(k=3\/s.toList= [])/\(k=4\/m=0)
theorem YR {k n:Int}{f:Nat}{s:ByteArray}{l:List VT}{x:Int}(h:Sn k n f s l x):Pz k n f s l.length:=⟨h.2.2.1,h.2.2.2.1,h.2.2.2.2.1,h.2.2.2.2.2.1⟩
theorem DC (w:World)(k n:Int)(f:Nat)(s:ByteArray)(A:Option Addr)(m c:Nat):Below w.heap.size w (w.alloc (.cells #[.int .i64 k,.int .i64 n,.float .f64 f,.string s,.slice A m c] 34)):=
 (Below.refl _ _).alloc (Nat.le_refl _) _
theorem JT (k n:Int)(f:Nat)(s:ByteArray)(m cap:Nat)(A:Option Addr)(hf:f<18446744073709551616)(h:¬Pz k n f s m)(x:Int)(w:World) :
  Calls Tryz.prog 143 #[.agg #[.int .i64 k,.int .i64 n,.float .f64 f,.string s,.slice A m cap],.int .i64 x] w fun e w'=>e= .returned (.bool false)/\Below w.heap.size w w':=by
 have H:=Lib.hid h;clear h
 go_enter Tryz.func143,Tryz.ntmps143
 go_wp2_with (go_at_call 88;refine(Nm.Oi f hf _).mono ?_;rintro e w' ⟨rfl,rfl⟩)
 all_goals first
  | (go_ret;exact⟨rfl,DC ..⟩)
  | (exfalso
     refine H.out ⟨?_,?_,?_,?_⟩
     all_goals first
      | omega
      | (right;assumption)
      | (rcases (by assumption : (k != 4) = false \/ ¬ 0 < m) with q | q
         ·simp at q;omega
         ·omega))
theorem FK {k n:Int}{f:Nat}{s:ByteArray}{m:Nat}(h:Pz k n f s m) :
  (k=1/\Di f=0/\s.toList= []/\m=0)\/(k=2/\n=0/\s.toList= []/\m=0)\/(k=3/\n=0/\Di f=0/\m=0)\/(k=4/\n=0/\Di f=0/\s.toList= [])\/
   (k≠1/\k≠2/\k≠3/\k≠4/\n=0/\Di f=0/\s.toList= []/\m=0):=by
 obtain⟨h1,h2,h3,h4⟩:=h
 by_cases e1:k=1
 ·left;exact⟨e1,by omega,by rcases h3 with h3|h3;omega;exact h3,by omega⟩
 by_cases e2:k=2
 ·right;left;exact⟨e2,by omega,by rcases h3 with h3|h3;omega;exact h3,by omega⟩
 by_cases e3:k=3
 ·right;right;left;exact⟨e3,by omega,by omega,by omega⟩
 by_cases e4:k=4
 ·right;right;right;left;exact⟨e4,by omega,by omega,by rcases h3 with h3|h3;omega;exact h3⟩
 ·right;right;right;right;exact⟨e1,e2,e3,e4,by omega,by omega,by rcases h3 with h3|h3;omega;exact h3,by omega⟩
theorem M84 (h:p:=by
 go_loop [5] (fun i=>i= .int .i64 0) (fun _=>0)
 case atStart=>exact rfl
 case round=>
  subst hrel
  go_wp2_with fail
  all_goals
   go_ret
   exact⟨De (by simp[*]),HAB.out⟩):p:=h
theorem M167 (h:p:=by
 go_enter Tryz.func143,Tryz.ntmps143
 go_wp2_with (go_at_call 88;refine(Nm.Oi f hf _).mono ?_;rintro e w' ⟨rfl,rfl⟩)
 exact M84):p:=h
theorem right_1 (n:Int)(f:Nat)(s:ByteArray)(hb0:Di f=0)(hs0:s.toList= [])(A:Option Addr)(cap:Nat)(hf:f<18446744073709551616)(x:Int)(w:World) :
  Calls Tryz.prog 143 #[.agg #[.int .i64 1,.int .i64 n,.float .f64 f,.string s,.slice A 0 cap],.int .i64 x] w fun e w'=>e= .returned (.bool (true))/\Below w.heap.size w w':=by
 have HAB:=Lib.hid (DC w 1 n f s A 0 cap)
 exact M167
theorem right_2 (f:Nat)(s:ByteArray)(hs0:s.toList= [])(A:Option Addr)(cap:Nat)(_:f<18446744073709551616)(x:Int)(w:World) :
  Calls Tryz.prog 143 #[.agg #[.int .i64 2,.int .i64 0,.float .f64 f,.string s,.slice A 0 cap],.int .i64 x] w fun e w'=>e= .returned (.bool (true))/\Below w.heap.size w w':=by
 have HAB:=Lib.hid (DC w 2 0 f s A 0 cap)
 go_enter Tryz.func143,Tryz.ntmps143
 go_wp2_with fail
 exact M84
theorem right_3 (f:Nat)(s:ByteArray)(hb0:Di f=0)(A:Option Addr)(cap:Nat)(hf:f<18446744073709551616)(x:Int)(w:World) :
  Calls Tryz.prog 143 #[.agg #[.int .i64 3,.int .i64 0,.float .f64 f,.string s,.slice A 0 cap],.int .i64 x] w fun e w'=>e= .returned (.bool (true))/\Below w.heap.size w w':=by
 have HAB:=Lib.hid (DC w 3 0 f s A 0 cap)
 exact M167
theorem right_0 (k:Int)(h1:k≠1)(h2:k≠2)(h3:k≠3)(h4:k≠4)(f:Nat)(s:ByteArray)(hb0:Di f=0)(hs0:s.toList= [])(A:Option Addr)(cap:Nat)(hf:f<18446744073709551616)(x:Int)(w:World) :
  Calls Tryz.prog 143 #[.agg #[.int .i64 k,.int .i64 0,.float .f64 f,.string s,.slice A 0 cap],.int .i64 x] w fun e w'=>e= .returned (.bool (decide (0<=k/\k<=4)))/\Below w.heap.size w w':=by
 have e1:(k != 1)=true:=by simpa using h1
 have e2:(k != 2)=true:=by simpa using h2
 have e3:(k != 3)=true:=by simpa using h3
 have e4:(k != 4)=true:=by simpa using h4
 have e5:(k==4)=false:=by simpa using h4
 clear h1 h2 h3 h4
 have HAB:=Lib.hid (DC w k 0 f s A 0 cap)
 go_enter Tryz.func143,Tryz.ntmps143
 go_wp2_with (go_at_call 88;refine(Nm.Oi f hf _).mono ?_;rintro e w' ⟨rfl,rfl⟩)
 go_loop [5] (fun i=>i= .int .i64 0) (fun _=>0)
 case atStart=>exact rfl
 case round=>
  subst hrel
  go_wp2_with fail
  all_goals
   go_ret
   exact⟨De (by first | (simp[*];done)|(simp;done)|(simp;omega)|(simp[*];omega)),HAB.out⟩
theorem M103 (h:p:=by
 have hj':j=l.length:=by omega
 have HJ:=Lib.hid hj'
 clear hj'
 go_wp2_with fail
 go_ret
 have hall:l.all (fun t=>t.valid (x-1).toNat)=true:=by have:=HY.out;rw[HJ.out,List.take_length] at this;exact this
 exact⟨De (by rw[HX.out,hall];rfl),HB.out⟩):p:=h
theorem M171 (h:p:=by
 have HP:=Lib.hid hp;clear hp
 go_wp2_with fail
 go_ret
 exact⟨De (by rw[HX.out,all_false _ _ j hlt HP.out];rfl),HB1.out⟩):p:=h
theorem Q594.Y592 (h:p:=by
 cases hp:l[j].valid (x-1).toNat with
 | true=>
  have HP:=Lib.hid hp;clear hp
  go_wp2_with fail
  go_roundw
  case rel=>exact⟨j+1,by omega,by go_num,rfl,by rw[Gg _ _ _ hlt,HY.out,HP.out];rfl,HBX1.out,HB1.out⟩
  case measure=>simp[intOf];omega
 | false=>
  exact M171):p:=h
theorem Q764.Y761 (h:p:=by
 by_cases hlt:j<l.length
 ·open Q594 in exact M592
 ·exact M103):p:=h
theorem JS (f : Nat) (s : ByteArray) (l : List VT) (A : Option Addr) (cap : Nat) (hf : f < 18446744073709551616) (hb0 : Di f = 0) (hs0 : s.toList = []) (hl : l.length <= cap) (hc : cap <= maxLen) (x : Int) (hx0 : 0 <= x) (hx1 : x <= 8)
  (ih:∀(i:Nat) (hi:i<l.length) (x:Int) (_:0<=x) (_:x<=8) (w:World) (lo hi:Nat) (v:Value) (_:Rep w lo hi l[i] v) (_:hi<=w.heap.size),
   Calls Tryz.prog 143 #[v,.int .i64 x] w fun e w'=>e= .returned (.bool (l[i].valid x.toNat))/\Below w.heap.size w w')
  (w:World) (lo hi:Nat) (hk:KidsAt w lo hi l A) (hz:hi<=w.heap.size) :
  Calls Tryz.prog 143 #[.agg #[.int .i64 4,.int .i64 0,.float .f64 f,.string s,.slice A l.length cap],.int .i64 x] w fun e w'=>
   e= .returned (.bool (decide (x≠0)&&l.all (fun t=>t.valid (x-1).toNat)))/\Below w.heap.size w w':=by
 unfold maxLen at hc
 have IH:=Lib.hid ih;have HK:=Lib.hid hk;clear ih hk
 by_cases hx:x=0
 ·subst hx
  have HAB:=Lib.hid (DC w 4 0 f s A l.length cap)
  go_enter Tryz.func143,Tryz.ntmps143
  go_wp2_with (go_at_call 88;refine(Nm.Oi f hf _).mono ?_;rintro e w' ⟨rfl,rfl⟩)
  go_ret
  exact⟨De (by simp),HAB.out⟩
 ·have hxb : (x == 0) = false := by simpa using hx
  have hxp:1<=x:=by omega
  have HX:Hid (decide (x≠0)=true):=Lib.hid (by simpa using hx)
  clear hx
  have HA:=Lib.hid (BoxAt.new w 4 0 f s A l.length cap)
  have HAB:=Lib.hid (DC w 4 0 f s A l.length cap)
  go_enter Tryz.func143,Tryz.ntmps143
  go_wp2_with (go_at_call 88;refine(Nm.Oi f hf _).mono ?_;rintro e w' ⟨rfl,rfl⟩)
  go_loopw [4,5] (fun r i wr=>∃(j:Nat),j<=l.length/\i= .int .i64 j/\r= .bool false/\(l.take j).all (fun t=>t.valid (x-1).toNat)=true/\BoxAt wr w.heap.size 4 0 f s A l.length cap/\Below w.heap.size w wr) (fun _ i _=>l.length-(intOf i).toNat)
  case atStart=>exact⟨0,by omega,rfl,rfl,rfl,HA.out,HAB.out⟩
  case round=>
   obtain⟨j,hj,rfl,rfl,hy,hbox,hb⟩:=hrel
   open Q764 in exact M761
theorem M100 (h:p:=by
 rw[h.1]
 congr 2
 rw[Bool.eq_iff_iff,hp]
 unfold Sn
 simp only[Bool.and_eq_true,decide_eq_true_iff]
 constructor
 ·rintro ⟨h1, h2⟩
  exact⟨by omega,by omega,by simp,.inr q2,.inr q3,by simp,fun _=>h1,h2⟩
 ·rintro ⟨-, -, -, -, -, -, h1, h2⟩
  exact⟨h1 (by simp),h2⟩):p:=h
theorem M182 (h:p:=by
 rw[h.1]
 exact OE hp ⟨by omega,by omega,.inr rfl,.inr q2,.inl rfl,.inr rfl,by omega,rfl⟩):p:=h
theorem M185 (h:p:=by
 rw[h.1]
 exact OE hp ⟨by omega,by omega,.inr rfl,.inl rfl,.inr q2,.inr rfl,by omega,rfl⟩):p:=h
theorem M193 (h:p:=by
 rw[h.1]
 exact OE hp ⟨by omega,by omega,.inl rfl,.inr q1,.inr q2,.inr rfl,by omega,rfl⟩):p:=h
theorem Ng (t:VT):∀(x:Int) (_:0<=x) (_:x<=8) (w:World) (lo hi:Nat) (v:Value) (_:Rep w lo hi t v) (_:hi<=w.heap.size),
  Calls Tryz.prog 143 #[v,.int .i64 x] w fun e w'=>e= .returned (.bool (t.valid x.toNat))/\Below w.heap.size w w':=by
 induction t using VT.ind with
 | _ k n f s l ih=>
  intro x hx0 hx1 w lo hi v hR hz
  obtain⟨A,cap,rfl,ho,hl,hk⟩:=hR.head
  have hp:=VM k n f s l x hx0
  generalize (VT.mk k n f s l).valid x.toNat=R at hp ⊢
  by_cases hh:Pz k n f s l.length
  ·rcases FK hh with ⟨rfl, q1, q2, q3⟩ | ⟨rfl, rfl, q2, q3⟩ | ⟨rfl, rfl, q2, q3⟩ | ⟨rfl, rfl, q2, q3⟩ | ⟨e1, e2, e3, e4, rfl, q1, q2, q3⟩
   ·obtain rfl := List.eq_nil_of_length_eq_zero q3
    refine(right_1 n f s q1 q2 A cap ho.f1 x w).mono fun e w' h=>⟨?_,h.2⟩
    exact M193
   ·obtain rfl := List.eq_nil_of_length_eq_zero q3
    refine(right_2 f s q2 A cap ho.f1 x w).mono fun e w' h=>⟨?_,h.2⟩
    exact M185
   ·obtain rfl := List.eq_nil_of_length_eq_zero q3
    refine(right_3 f s q2 A cap ho.f1 x w).mono fun e w' h=>⟨?_,h.2⟩
    exact M182
   ·refine (JS f s l A cap ho.f1 q2 q3 hl ho.m1 x hx0 hx1 (fun i hi x a b w lo hi' v c d => ih i hi x a b w lo hi' v c d) w lo hi hk hz).mono fun e w' h => ⟨?_, h.2⟩
    exact M100
   ·obtain rfl := List.eq_nil_of_length_eq_zero q3
    refine(right_0 k e1 e2 e3 e4 f s q1 q2 A cap ho.f1 x w).mono fun e w' h=>⟨?_,h.2⟩
    rw[h.1]
    congr 2
    rw[Bool.eq_iff_iff,hp]
    unfold Sn
    simp only[decide_eq_true_iff]
    constructor
    ·rintro ⟨h1, h2⟩
     exact⟨h1,h2,by simp,.inr q1,.inr q2,by simp,by omega,rfl⟩
    ·rintro ⟨h1, h2, -⟩
     exact⟨h1,h2⟩
  ·refine (JT k n f s l.length cap A ho.f1 hh x w).mono fun e w' h => ⟨?_, h.2⟩
   rw[h.1]
   exact OZ hp fun q=>hh (YR q)
theorem JQ (t:VT)(w:World)(lo hi:Nat)(v:Value)(hR:Rep w lo hi t v)(hz:hi<=w.heap.size) :
  Calls Tryz.prog 112 #[v] w fun e w'=>e= .returned (.bool (t.valid 8))/\Below w.heap.size w w':=by
 have hv:=hR
 obtain⟨k,n,f,s,l,A,cap,rfl,rfl,ho,hl,hk⟩:=hR.open_
 generalize ht:VT.mk k n f s l=t at *
 have HV:=Lib.hid hv
 have HB:=Lib.hid (DC w k n f s A l.length cap)
 clear hv hR ho hk ht
 go_enter Tryz.func112,Tryz.ntmps112
 go_wp2_with fail
 refine(Ng t 8 (by omega) (by omega) _ lo hi _ (HV.out.alloc hz _) (by simp;omega)).mono ?_
 rintro e w1 ⟨rfl,hb1⟩
 have HB2:=Lib.hid (HB.out.trans (hb1.mono (by simp)))
 clear hb1
 go_wp2_with fail
 go_ret
 exact⟨rfl,HB2.out⟩
def On (k:Int):Value:=if k=0 then .iface 260 (.agg #[]) else if k=1 then .iface 256 (.agg #[]) else if k=2 then .iface 257 (.agg #[]) else if k=3 then .iface 258 (.agg #[]) else if k=4 then .iface 259 (.agg #[]) else .nilIface
theorem M198 (h:p:=by
 clear h
 go_enter Tryz.func169,Tryz.ntmps169
 go_wp2_with fail
 go_ret
 exact⟨rfl,rfl⟩):p:=h
theorem Fs (k:Int)(w:World):Calls Tryz.prog 169 #[.int .i64 k] w fun e w'=>e= .returned (On k)/\w=w':=by
 by_cases h:0<=k/\k<=4
 ·rcases (by omega : k = 0 \/ k = 1 \/ k = 2 \/ k = 3 \/ k = 4) with rfl | rfl | rfl | rfl | rfl
  all_goals
   have k0:Tryz.prog.concrete 260=true:=by kernel_rfl
   have k1:Tryz.prog.concrete 256=true:=by kernel_rfl
   have k2:Tryz.prog.concrete 257=true:=by kernel_rfl
   have k3:Tryz.prog.concrete 258=true:=by kernel_rfl
   have k4:Tryz.prog.concrete 259=true:=by kernel_rfl
   have i0:∀w,(Instr.index 261 (.agg #[.iface 260 (.agg #[]),.iface 256 (.agg #[]),.iface 257 (.agg #[]),.iface 258 (.agg #[]),.iface 259 (.agg #[])]) (.int .i64 0)).run Tryz.prog w= .ok (.iface 260 (.agg #[])) w:=fun _=>by kernel_rfl
   have i1:∀w,(Instr.index 261 (.agg #[.iface 260 (.agg #[]),.iface 256 (.agg #[]),.iface 257 (.agg #[]),.iface 258 (.agg #[]),.iface 259 (.agg #[])]) (.int .i64 1)).run Tryz.prog w= .ok (.iface 256 (.agg #[])) w:=fun _=>by kernel_rfl
   have i2:∀w,(Instr.index 261 (.agg #[.iface 260 (.agg #[]),.iface 256 (.agg #[]),.iface 257 (.agg #[]),.iface 258 (.agg #[]),.iface 259 (.agg #[])]) (.int .i64 2)).run Tryz.prog w= .ok (.iface 257 (.agg #[])) w:=fun _=>by kernel_rfl
   have i3:∀w,(Instr.index 261 (.agg #[.iface 260 (.agg #[]),.iface 256 (.agg #[]),.iface 257 (.agg #[]),.iface 258 (.agg #[]),.iface 259 (.agg #[])]) (.int .i64 3)).run Tryz.prog w= .ok (.iface 258 (.agg #[])) w:=fun _=>by kernel_rfl
   have i4:∀w,(Instr.index 261 (.agg #[.iface 260 (.agg #[]),.iface 256 (.agg #[]),.iface 257 (.agg #[]),.iface 258 (.agg #[]),.iface 259 (.agg #[])]) (.int .i64 4)).run Tryz.prog w= .ok (.iface 259 (.agg #[])) w:=fun _=>by kernel_rfl
   go_enter Tryz.func169,Tryz.ntmps169
   go_wp2_with fail
   go_ret
   exact⟨rfl,rfl⟩
 ·have hk : On k = .nilIface := by unfold On; rw [if_neg (by omega), if_neg (by omega), if_neg (by omega), if_neg (by omega), if_neg (by omega)]
  rw[hk]
  have HK:=Lib.hid hk;clear hk
  by_cases h0:k<0
  ·exact M198
  ·have h4 : 4 < k := by omega
   exact M198
theorem kv0 : On 0= .iface 260 (.agg #[]):=rfl
theorem kv1 : On 1= .iface 256 (.agg #[]):=rfl
theorem kv2 : On 2= .iface 257 (.agg #[]):=rfl
theorem kv3 : On 3= .iface 258 (.agg #[]):=rfl
theorem kv4 : On 4= .iface 259 (.agg #[]):=rfl
theorem SU (w:World):(Instr.typeAssert (.iface 260 (.agg #[])) 244 256 true).run Tryz.prog w= .ok (.tuple #[.agg #[],.bool false]) w:=by kernel_rfl
theorem Vl (w:World):(Instr.typeAssert (.iface 260 (.agg #[])) 244 257 true).run Tryz.prog w= .ok (.tuple #[.agg #[],.bool false]) w:=by kernel_rfl
theorem Xj (w:World):(Instr.typeAssert (.iface 260 (.agg #[])) 244 258 true).run Tryz.prog w= .ok (.tuple #[.agg #[],.bool false]) w:=by kernel_rfl
theorem Xk (w:World):(Instr.typeAssert (.iface 260 (.agg #[])) 244 259 true).run Tryz.prog w= .ok (.tuple #[.agg #[],.bool false]) w:=by kernel_rfl
theorem PC (w:World):(Instr.typeAssert (.iface 256 (.agg #[])) 244 256 true).run Tryz.prog w= .ok (.tuple #[.agg #[],.bool true]) w:=by kernel_rfl
theorem Sw (w:World):(Instr.typeAssert (.iface 256 (.agg #[])) 244 257 true).run Tryz.prog w= .ok (.tuple #[.agg #[],.bool false]) w:=by kernel_rfl
theorem SY (w:World):(Instr.typeAssert (.iface 256 (.agg #[])) 244 258 true).run Tryz.prog w= .ok (.tuple #[.agg #[],.bool false]) w:=by kernel_rfl
theorem SZ (w:World):(Instr.typeAssert (.iface 256 (.agg #[])) 244 259 true).run Tryz.prog w= .ok (.tuple #[.agg #[],.bool false]) w:=by kernel_rfl
theorem Sx (w:World):(Instr.typeAssert (.iface 257 (.agg #[])) 244 256 true).run Tryz.prog w= .ok (.tuple #[.agg #[],.bool false]) w:=by kernel_rfl
theorem Uq (w:World):(Instr.typeAssert (.iface 257 (.agg #[])) 244 257 true).run Tryz.prog w= .ok (.tuple #[.agg #[],.bool true]) w:=by kernel_rfl
theorem Vn (w:World):(Instr.typeAssert (.iface 257 (.agg #[])) 244 258 true).run Tryz.prog w= .ok (.tuple #[.agg #[],.bool false]) w:=by kernel_rfl
theorem Vo (w:World):(Instr.typeAssert (.iface 257 (.agg #[])) 244 259 true).run Tryz.prog w= .ok (.tuple #[.agg #[],.bool false]) w:=by kernel_rfl
theorem SS (w:World):(Instr.typeAssert (.iface 258 (.agg #[])) 244 256 true).run Tryz.prog w= .ok (.tuple #[.agg #[],.bool false]) w:=by kernel_rfl
theorem Vk (w:World):(Instr.typeAssert (.iface 258 (.agg #[])) 244 257 true).run Tryz.prog w= .ok (.tuple #[.agg #[],.bool false]) w:=by kernel_rfl
theorem Xh (w:World):(Instr.typeAssert (.iface 258 (.agg #[])) 244 258 true).run Tryz.prog w= .ok (.tuple #[.agg #[],.bool true]) w:=by kernel_rfl
theorem Xi (w:World):(Instr.typeAssert (.iface 258 (.agg #[])) 244 259 true).run Tryz.prog w= .ok (.tuple #[.agg #[],.bool false]) w:=by kernel_rfl
theorem SX (w:World):(Instr.typeAssert (.iface 259 (.agg #[])) 244 256 true).run Tryz.prog w= .ok (.tuple #[.agg #[],.bool false]) w:=by kernel_rfl
theorem Vm (w:World):(Instr.typeAssert (.iface 259 (.agg #[])) 244 257 true).run Tryz.prog w= .ok (.tuple #[.agg #[],.bool false]) w:=by kernel_rfl
theorem Xm (w:World):(Instr.typeAssert (.iface 259 (.agg #[])) 244 258 true).run Tryz.prog w= .ok (.tuple #[.agg #[],.bool false]) w:=by kernel_rfl
theorem Xn (w:World):(Instr.typeAssert (.iface 259 (.agg #[])) 244 259 true).run Tryz.prog w= .ok (.tuple #[.agg #[],.bool true]) w:=by kernel_rfl
theorem Up (w:World):(Instr.typeAssert .nilIface 244 256 true).run Tryz.prog w= .ok (.tuple #[.agg #[],.bool false]) w:=by kernel_rfl
theorem Xl (w:World):(Instr.typeAssert .nilIface 244 257 true).run Tryz.prog w= .ok (.tuple #[.agg #[],.bool false]) w:=by kernel_rfl
theorem Yl (w:World):(Instr.typeAssert .nilIface 244 258 true).run Tryz.prog w= .ok (.tuple #[.agg #[],.bool false]) w:=by kernel_rfl
theorem Ym (w:World):(Instr.typeAssert .nilIface 244 259 true).run Tryz.prog w= .ok (.tuple #[.agg #[],.bool false]) w:=by kernel_rfl
theorem Ua (P:Program)(w:World)(a:Addr)(m:Mode)(k:FloatKind)(b:Nat):(store a (.float k b) m).run P w=stored P w a (.float k b) m:=run_store P w a _ m rfl
def Fx (k n:Int)(f:Nat)(s:ByteArray)(A:Option Addr)(m c:Nat):Value:=
 .agg #[.int .i64 k,.int .i64 (if k=1 then 0 else n),.float .f64 (if k=2 then 0 else f),.string (if k=3 then ⟨#[]⟩ else s),if k=4 then .slice none 0 0 else .slice A m c]
attribute [go_sem] Ua
theorem M55 (h:p:=by
 go_wp2_with fail
 refine bodyPost_ret (v:=Fx _ n f s A m c) (by simp[results,Tryz.results168,go_sem,Fx]) rfl ⟨rfl,?_⟩
 exact((Below.refl _ _).alloc (Nat.le_refl _) _).alloc (by simp) _):p:=h
theorem Q733.Y732 (h:p:=by
 rw[HK.out]
 go_wp2_with fail
 rw[HB.out]
 refine bodyPost_ret (v:= .agg #[.int .i64 k,.int .i64 n,.float .f64 f,.string s,.slice A m c]) (by simp[results,Tryz.results168,go_sem]) rfl ⟨rfl,?_⟩
 exact((Below.refl _ _).alloc (Nat.le_refl _) _).alloc (by simp) _):p:=h
theorem Q734.Y732 (h:p:=by
 rw[kv0]
 exact M55):p:=h
theorem Q735.Y732 (h:p:=by
 rw[kv1]
 exact M55):p:=h
theorem Q736.Y732 (h:p:=by
 rw[kv2]
 exact M55):p:=h
theorem Q737.Y732 (h:p:=by
 rw[kv3]
 exact M55):p:=h
theorem Q738.Y732 (h:p:=by
 rw[kv4]
 exact M55):p:=h
theorem Rc (h:p:=by
 go_enter Tryz.func168,Tryz.ntmps168
 go_wp2_with fail
 refine(O.out _ _).mono ?_
 rintro e w' ⟨rfl,rfl⟩
 exact Y732):p:=h
theorem Fi (k n:Int)(f:Nat)(s:ByteArray)(A:Option Addr)(m c:Nat)(w:World) :
  Calls Tryz.prog 168 #[.agg #[.int .i64 k,.int .i64 n,.float .f64 f,.string s,.slice A m c]] w fun e w'=>e= .returned (Fx k n f s A m c)/\Below w.heap.size w w':=by
 have O:=Lib.hid Fs
 by_cases h:0<=k/\k<=4
 ·rcases (by omega : k = 0 \/ k = 1 \/ k = 2 \/ k = 3 \/ k = 4) with rfl | rfl | rfl | rfl | rfl
  ·clear h
   have tinteger:=SU
   have tfloat:=Vl
   have ttext:=Xj
   have tlist:=Xk
   open Q734 in exact Rc
  ·clear h
   have tinteger:=PC
   have tfloat:=Sw
   have ttext:=SY
   have tlist:=SZ
   open Q735 in exact Rc
  ·clear h
   have tinteger:=Sx
   have tfloat:=Uq
   have ttext:=Vn
   have tlist:=Vo
   open Q736 in exact Rc
  ·clear h
   have tinteger:=SS
   have tfloat:=Vk
   have ttext:=Xh
   have tlist:=Xi
   open Q737 in exact Rc
  ·clear h
   have tinteger:=SX
   have tfloat:=Vm
   have ttext:=Xm
   have tlist:=Xn
   open Q738 in exact Rc
 ·have hk : On k = .nilIface := by unfold On; rw [if_neg (by omega), if_neg (by omega), if_neg (by omega), if_neg (by omega), if_neg (by omega)]
  have HK:=Lib.hid hk;clear hk
  have HB:Hid (Fx k n f s A m c= .agg #[.int .i64 k,.int .i64 n,.float .f64 f,.string s,.slice A m c]):=Lib.hid (by unfold Fx;rw[if_neg (by omega),if_neg (by omega),if_neg (by omega),if_neg (by omega)])
  clear h
  have tinteger:=Up
  have tfloat:=Xl
  have ttext:=Yl
  have tlist:=Ym
  open Q733 in exact Rc
end Vt
namespace Nm
theorem KT (h:p:=by
 go_wp2
 go_ret
 exact⟨rfl,rfl⟩):p:=h
theorem NO (b:Nat)(w:World):Calls Tryz.prog 180 #[.float .f64 b] w fun e w'=>e= .returned (.float .f64 (Di b))/\w=w':=by
 have hs:=Se b
 have hr:=fun w=>Xo 9221120237041090561 w
 unfold Di
 cases h:Fm.isNan b with
 | true=>
  rw[h] at hs
  clear h
  go_enter Tryz.func180,Tryz.ntmps180
  exact KT
 | false=>
  rw[h] at hs
  clear h
  go_enter Tryz.func180,Tryz.ntmps180
  exact KT
theorem Fj (b:Nat)(w:World):Calls Tryz.prog 170 #[.float .f64 b] w fun e w'=>e= .returned (.int .u64 (Di b))/\w=w':=by
 have hr:=fun w=>OX (Di b) w
 go_enter Tryz.func170,Tryz.ntmps170
 go_wp2_with (go_at_call 180;refine(NO b _).mono ?_;rintro e w' ⟨rfl,rfl⟩)
 go_ret
 exact⟨rfl,rfl⟩
def okW (b:Nat):Bool:= !(Fm.isNan b&&decide (b≠Xr))
def ofW (b:Nat):Nat:=if okW b=true then b else 0
theorem Yu (b:Nat)(hb:b<18446744073709551616)(w:World):Calls Tryz.prog 187 #[.float .f64 b] w fun e w'=>e= .returned (.bool (Fm.neg b))/\w=w':=by
 have hr:=fun w=>OX b w
 have HB:=Lib.hid hb;clear hb
 go_enter Tryz.func187,Tryz.ntmps187
 go_wp2
 go_ret
 refine⟨De ?_,rfl⟩
 have:=HB.out
 unfold Fm.neg wrap64
 rw[Bool.eq_iff_iff]
 simp only[decide_eq_true_eq,beq_iff_eq]
 omega
def FI (b:Nat):Nat:=if 9223372036854775808<=b then 18446744073709551615-b else b+9223372036854775808
def DZ (a b:Nat):Int:=if a<b then -1 else if b<a then 1 else 0
theorem OM (a b:Nat):DZ a b= -1/\a<b\/DZ a b=0/\a=b\/DZ a b=1/\b<a:=by
 unfold DZ
 by_cases h:a<b
 ·rw[if_pos h];omega
 ·rw [if_neg h]
  by_cases h2:b<a
  ·rw[if_pos h2];omega
  ·rw[if_neg h2];omega
def Fo (a b:Nat):Int:=DZ (FI (Di a)) (FI (Di b))
theorem Jl (b:Nat)(hb:b<18446744073709551616):Di b<18446744073709551616:=by
 unfold Di Xr;split<;>omega
theorem UM (b:Nat)(w:World):Calls Tryz.prog 183 #[.float .f64 b] w fun e w'=>e= .returned (.bool (Fm.isNan b))/\w=w':=by
 have hs:=Se b
 generalize Fm.isNan b=z at *
 go_enter Tryz.func183,Tryz.ntmps183
 exact KT
theorem M148 (h:p:=by
 rw[h] at C;clear h
 go_enter Tryz.func184,Tryz.ntmps184
 go_wp2_with (go_at_call 187;refine(C.out _).mono ?_;rintro e w' ⟨rfl,rfl⟩)
 go_ret
 exact⟨rfl,rfl⟩):p:=h
theorem Yv (b:Nat)(hb:b<18446744073709551616)(w:World):Calls Tryz.prog 184 #[.float .f64 b] w fun e w'=>e= .returned (.int .i64 (if Fm.neg b=true then -1 else 1))/\w=w':=by
 have C:=Lib.hid (fun w=>Yu b hb w)
 clear hb
 cases h:Fm.neg b with
 | true=>
  exact M148
 | false=>
  exact M148
def GL (a b:Int):Int:=if a<b then -1 else if b<a then 1 else 0
theorem Vb (a b:Int)(w:World):Calls Tryz.prog 77 #[.int .i64 a,.int .i64 b] w fun e w'=>e= .returned (.int .i64 (GL a b))/\w=w':=by
 unfold GL
 by_cases h:a<b
 ·rw [if_pos h]
  go_enter Tryz.func77,Tryz.ntmps77
  exact KT
 ·rw [if_neg h]
  by_cases h2:b<a
  ·rw [if_pos h2]
   go_enter Tryz.func77,Tryz.ntmps77
   exact KT
  ·rw [if_neg h2]
   go_enter Tryz.func77,Tryz.ntmps77
   exact KT
theorem ord_sv (a b:Nat)(ha:Fm.isNan a=false)(hb:Fm.isNan b=false):FloatKind.f64.format.order a b=some (compare (Fm.SV a) (Fm.SV b)):=Fm.YK a b ha hb
theorem M204 (h:p:=by
 go_enter Tryz.func185,Tryz.ntmps185
 exact KT):p:=h
theorem cmpf_any (a b:Nat)(ha:Fm.isNan a=false)(hb:Fm.isNan b=false)(w:World) :
  Calls Tryz.prog 185 #[.float .f64 a,.float .f64 b] w fun e w'=>e= .returned (.int .i64 (GL (Fm.SV a) (Fm.SV b)))/\w=w':=by
 have h1:=Se a
 have h2:=Se b
 have h3:=ord_sv a b ha hb
 rw[ha] at h1
 rw[hb] at h2
 unfold GL
 by_cases h:Fm.SV a<Fm.SV b
 ·rw [if_pos h]
  rw[Int.compare_eq_lt.2 h] at h3
  clear h ha hb
  exact M204
 ·rw [if_neg h]
  by_cases h':Fm.SV b<Fm.SV a
  ·rw [if_pos h']
   rw[Int.compare_eq_gt.2 h'] at h3
   clear h h' ha hb
   exact M204
  ·rw [if_neg h']
   have e:Fm.SV a=Fm.SV b:=by omega
   rw[e] at h3
   have h4:FloatKind.f64.format.order a b=some Ordering.eq:=by rw[h3];simp
   clear h h' ha hb e h3
   exact M204
theorem GO (b:Nat):Fm.SV b=0↔b%2^63=0:=by
 have h1:=Fm.SV_abs b
 constructor
 ·intro h
  refine Classical.byContradiction fun hn=> ?_
  have:=V_pos hn
  omega
 ·intro h
  rw[h,Fm.V_zero] at h1
  omega
theorem M86 (h:p:=by
 by_cases l:x<y
 ·rw[if_pos l];omega
 ·rw [if_neg l]
  by_cases g:y<x
  ·rw[if_pos g];omega
  ·rw[if_neg g];omega):p:=h
theorem M110 (h:p:=by
 unfold Fm.neg;rw[Bool.eq_iff_iff];simp only[beq_iff_eq,decide_eq_true_eq];omega):p:=h
theorem cmp_num (a b:Nat)(ha:a<18446744073709551616)(hb:b<18446744073709551616)(h1:Fm.isNan a=false)(h2:Fm.isNan b=false)(hz:¬(Fm.SV a=0/\Fm.SV b=0)) :
  GL (Fm.SV a) (Fm.SV b)=Fo a b:=by
 have ea:Di a=a:=by unfold Di;rw[h1];rfl
 have eb:Di b=b:=by unfold Di;rw[h2];rfl
 have za:=GO a
 have zb:=GO b
 have hl:=Fm.Jq (a%2^63) (b%2^63)
 have hg:=Fm.Jq (b%2^63) (a%2^63)
 have na:Fm.neg a=decide (9223372036854775808<=a):=by
  exact M110
 have nb:Fm.neg b=decide (9223372036854775808<=b):=by
  exact M110
 have c3:=OM (FI a) (FI b)
 unfold Fo
 rw[ea,eb]
 unfold GL
 have sa:Fm.SV a=if 9223372036854775808<=a then -(Fm.V (a%2^63):Int) else Fm.V (a%2^63):=by
  unfold Fm.SV;rw[na];simp only[decide_eq_true_eq]
 have sb:Fm.SV b=if 9223372036854775808<=b then -(Fm.V (b%2^63):Int) else Fm.V (b%2^63):=by
  unfold Fm.SV;rw[nb];simp only[decide_eq_true_eq]
 generalize Fm.V (a%2^63)=va at *
 generalize Fm.V (b%2^63)=vb at *
 generalize Fm.SV a=x at *
 generalize Fm.SV b=y at *
 unfold FI at *
 clear na nb ea eb h1 h2
 by_cases p:9223372036854775808<=a
 ·rw [if_pos p] at sa c3
  by_cases q:9223372036854775808<=b
  ·rw [if_pos q] at sb c3
   rw[if_pos p,if_pos q]
   exact M86
  ·rw [if_neg q] at sb c3
   rw[if_pos p,if_neg q]
   exact M86
 ·rw [if_neg p] at sa c3
  by_cases q:9223372036854775808<=b
  ·rw [if_pos q] at sb c3
   rw[if_neg p,if_pos q]
   exact M86
  ·rw [if_neg q] at sb c3
   rw[if_neg p,if_neg q]
   exact M86
end Nm
end Go.Proofs.YtaahfiopdoinkaaGreat
