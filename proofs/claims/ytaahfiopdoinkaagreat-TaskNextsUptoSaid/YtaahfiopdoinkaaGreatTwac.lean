/- Plain facts on IEEE doubles: rounding is monotone, exact where nothing is dropped. No program in sight. -/
import Derived.Laws.FloatArith
import Derived.RangeFuncNested
import Derived.RangeFuncBound
import Derived.RangeFuncCalls
import Derived.RangeFuncLeaves
import Derived.Below
variable {p : Prop}
open Go.RowKit
namespace Go.Proofs.YtaahfiopdoinkaaGreat
namespace Fm
open Ieee
def rne (n g:Nat):Nat:=n/g+(decide (g<2*(n%g))||(decide (g=2*(n%g))&&decide (n/g%2=1))).toNat
def last (m:Nat)(p:Int):Int:=max (p+m.log2-52) (-1074)
def kept (m:Nat)(p:Int):Nat:=rne (m <<< (p-last m p).toNat) (2^(last m p-p).toNat)
def R (m:Nat)(p:Int):Nat:=(last m p+1074).toNat*2^52+kept m p
theorem PJ : double.infRung=2047*2^52:=by decide
theorem UQ : double.leastPlace= -1074:=by decide
def V (r:Nat):Nat:=if r<2^52 then r else (2^52+r%2^52)*2^(r/2^52-1)
theorem V_of (e k:Nat)(h1:e=0\/2^52<=k)(h2:k<=2^53):V (e*2^52+k)=k*2^e:=by
 unfold V
 by_cases hk:k<2^52
 ·have : e = 0 := by omega
  subst this
  rw[if_pos (by omega)];simp
 ·rw [if_neg (by omega)]
  by_cases hk2:k=2^53
  ·subst hk2
   have e1:(e*2^52+2^53)%2^52=0:=by omega
   have e2:(e*2^52+2^53)/2^52=e+2:=by omega
   have e3:(2:Nat)^53=2^52*2:=by decide
   rw[e1,e2,show e+2-1=e+1 by omega,Nat.add_zero,e3,Nat.mul_assoc,Nat.pow_succ 2 e,Nat.mul_comm (2^e) 2]
  ·have e1 : (e * 2 ^ 52 + k) % 2 ^ 52 = k - 2 ^ 52 := by omega
   have e2:(e*2^52+k)/2^52=e+1:=by omega
   rw[e1,e2,show e+1-1=e by omega,show 2^52+(k-2^52)=k by omega]
theorem Xb (r:Nat):V r<V (r+1):=by
 by_cases h:r<2^52
 ·by_cases h' : r + 1 < 2 ^ 52
  ·unfold V;rw[if_pos h,if_pos h'];omega
  ·have : r = 2 ^ 52 - 1 := by omega
   subst this;decide
 ·have ed := Nat.div_add_mod r (2 ^ 52)
  have hm:r%2^52<2^52:=Nat.mod_lt _ (by omega)
  have a1:r=(r/2^52-1)*2^52+(2^52+r%2^52):=by omega
  have a2:r+1=(r/2^52-1)*2^52+(2^52+r%2^52+1):=by omega
  have hk:2^52<=2^52+r%2^52:=by omega
  have hk':2^52+r%2^52<2^53:=by omega
  rw[a2,show V r=V ((r/2^52-1)*2^52+(2^52+r%2^52)) from congrArg V a1]
  clear a1 a2 ed h
  generalize r/2^52-1=e
  generalize 2^52+r%2^52=k at *
  rw[V_of e k (Or.inr hk) (by omega),V_of e (k+1) (Or.inr (by omega)) (by omega)]
  exact Nat.mul_lt_mul_of_pos_right (by omega) (Nat.two_pow_pos _)
theorem Sm {r s:Nat}(h:r<s):V r<V s:=by
 obtain⟨d,rfl⟩:∃d,s=r+1+d:=⟨s-r-1,by omega⟩
 clear h
 induction d with
 | zero=>exact Xb r
 | succ d ih=>exact Nat.lt_trans ih (Xb _)
theorem V_mono {r s:Nat}(h:r<=s):V r<=V s:=by
 rcases Nat.lt_or_eq_of_le h with h|h
 ·exact Nat.le_of_lt (Sm h)
 ·rw[h];exact Nat.le_refl _
theorem Jq (r s:Nat):V r<V s↔r<s:=by
 constructor
 ·intro h
  by_cases h':r<s
  ·exact h'
  ·have:=V_mono (show s<=r by omega);omega
 ·exact Sm
theorem sw_eq : double.signWeight=2^63:=by decide
theorem Ku : double.binade=2^52:=by decide
def neg (b:Nat):Bool:=b/2^63%2==1
theorem UJ (b:Nat)(h:b%2^63<2047*2^52) :
  ∃m p,double.read b= .number (neg b) m p/\ -1074<=p/\m*2^(p+1074).toNat=V (b%2^63)/\m<2^53:=by
 unfold Format.read
 simp only[sw_eq,Ku,PJ,UQ]
 generalize b%2^63=r at *
 by_cases h1:r<2^52
 ·refine ⟨r, -1074, ?_, by omega, ?_, by omega⟩
  ·rw[if_pos h1];rfl
  ·unfold V;rw[if_pos h1];simp
 ·refine ⟨2 ^ 52 + r % 2 ^ 52, -1074 + (r / 2 ^ 52 - 1 : Nat), ?_, by omega, ?_, by omega⟩
  ·rw[if_neg h1,if_pos h];rfl
  ·unfold V;rw[if_neg h1];congr 2;omega
theorem UK (b:Nat)(h:b%2^63=2047*2^52):double.read b= .infinity (neg b):=by
 unfold Format.read
 simp only[sw_eq,Ku,PJ,UQ]
 rw[if_neg (by omega),if_neg (by omega),if_pos h];rfl
theorem read_nan (b:Nat)(h:2047*2^52<b%2^63):double.read b= .nan (neg b) (b%2^63-2047*2^52):=by
 unfold Format.read
 simp only[sw_eq,Ku,PJ,UQ]
 rw[if_neg (by omega),if_neg (by omega),if_neg (by omega)];rfl
def isNan (b:Nat):Bool:=decide (2047*2^52<b%2^63)
def SV (b:Nat):Int:=if neg b then -(V (b%2^63):Int) else V (b%2^63)
theorem Vr (x y:Int)(k:Nat)(hk:0<k):compare (x*k) (y*k)=compare x y:=by
 have hk':(0:Int)<k:=by omega
 rcases Int.lt_trichotomy x y with h|h|h
 ·rw[Int.compare_eq_lt.2 h,Int.compare_eq_lt.2 (Int.mul_lt_mul_of_pos_right h hk')]
 ·rw[h];simp
 ·rw[Int.compare_eq_gt.2 h,Int.compare_eq_gt.2 (Int.mul_lt_mul_of_pos_right h hk')]
theorem LZ (s:Bool)(m u:Nat):signed s m u=(if s then -((m*2^u:Nat):Int) else ((m*2^u:Nat):Int)):=by
 unfold signed;rw[Nat.shiftLeft_eq]
theorem Sb (s:Bool)(m:Nat)(p base:Int)(h1:base<=p)(h2 : -1074<=base) :
  signed s m (p-base).toNat*((2^(base+1074).toNat:Nat):Int)=(if s then -((m*2^(p+1074).toNat:Nat):Int) else ((m*2^(p+1074).toNat:Nat):Int)):=by
 have e:m*2^(p-base).toNat*2^(base+1074).toNat=m*2^(p+1074).toNat:=by
  rw[Nat.mul_assoc, <-Nat.pow_add];congr 2;omega
 rw[LZ, <-e]
 cases s
 ·simp only[Bool.false_eq_true,if_false,Int.natCast_mul]
 ·simp only[if_true,Int.natCast_mul,Int.neg_mul]
theorem Vh (r:Nat)(h:r<2047*2^52):V r<V (2047*2^52):=Sm h
theorem SV_abs (b:Nat):(SV b).natAbs=V (b%2^63):=by unfold SV;split<;>simp
theorem M201 (h:p:=by
 rw[Int.compare_eq_lt.2 (by omega)]):p:=h
theorem M206 (h:p:=by
 rw[Int.compare_eq_gt.2 (by omega)]):p:=h
theorem YK (x y:Nat)(hx:isNan x=false)(hy:isNan y=false):double.order x y=some (compare (SV x) (SV y)):=by
 have hx':x%2^63<=2047*2^52:=by simp only[isNan,decide_eq_false_iff_not] at hx;omega
 have hy':y%2^63<=2047*2^52:=by simp only[isNan,decide_eq_false_iff_not] at hy;omega
 unfold Format.order SV
 by_cases hx1:x%2^63=2047*2^52
 ·rw [UK x hx1, hx1]
  by_cases hy1:y%2^63=2047*2^52
  ·rw [UK y hy1, hy1]
   have hp:0<V (2047*2^52):=Nat.lt_of_le_of_lt (Nat.zero_le _) (Vh 0 (by omega))
   generalize V (2047*2^52)=z at *
   generalize neg x=s at *
   generalize neg y=t at *
   cases s<;>cases t<;>simp only[Datum.order,Option.some.injEq,Bool.false_eq_true,if_true,if_false]
   ·simp
   ·rw[Int.compare_eq_gt.2 (by omega)];rfl
   ·rw[Int.compare_eq_lt.2 (by omega)];rfl
   ·simp
  ·obtain ⟨n, j, e, _, hv, _⟩ := UJ y (by omega)
   have hz:=Vh (y%2^63) (by omega)
   rw[e]
   generalize V (2047*2^52)=z at *
   generalize V (y%2^63)=u at *
   generalize neg x=s at *
   generalize neg y=t at *
   cases s<;>cases t<;>simp only[Datum.order,Option.some.injEq,Bool.false_eq_true,if_true,if_false]
   ·exact M206
   ·exact M206
   ·exact M201
   ·exact M201
 ·obtain ⟨m, i, e1, hi, hv, _⟩ := UJ x (by omega)
  rw[e1]
  by_cases hy1:y%2^63=2047*2^52
  ·rw [UK y hy1, hy1]
   have hz:=Vh (x%2^63) (by omega)
   generalize V (2047*2^52)=z at *
   generalize V (x%2^63)=u at *
   generalize neg x=s at *
   generalize neg y=t at *
   cases s<;>cases t<;>simp only[Datum.order,Option.some.injEq,Bool.false_eq_true,if_true,if_false]
   ·exact M201
   ·exact M206
   ·exact M201
   ·exact M206
  ·obtain ⟨n, j, e2, hj, hw, _⟩ := UJ y (by omega)
   rw[e2]
   simp only[Datum.order,Option.some.injEq]
   have hb : -1074<=min i j:=by omega
   rw[<-Vr _ _ (2^(min i j+1074).toNat) (Nat.two_pow_pos _),Sb (neg x) m i (min i j) (by omega) hb,Sb (neg y) n j (min i j) (by omega) hb,hv,hw]
theorem YJ (x y:Nat)(hx:isNan x=true):double.order x y=none:=by
 simp only[isNan,decide_eq_true_eq] at hx
 unfold Format.order
 rw[read_nan x hx];rfl
def fl (n:Nat):Nat:=if n=0 then 0 else R n 0
theorem V_zero : V 0=0:=by unfold V;rw[if_pos (by omega)]
theorem Nl (r:Nat)(h:r<2^63):neg r=false/\r%2^63=r:=by
 refine⟨?_,Nat.mod_eq_of_lt h⟩
 unfold neg;rw[Nat.div_eq_of_lt h];rfl
end Fm
namespace Rt
section
variable {F : Fence} {n : Nat} {P : Program}
def leftPost (A : World -> Prop) (B : Code -> World -> Prop) (W : World) : Exit -> Act -> World -> Prop
 | .normal,_,W'=>KeepsOthers W W'/\A W'
 | .ret,_,W'=>KeepsOthers W W'/\B .ret W'
 | .exit id,_,W'=>KeepsOthers W W'/\B (.exit id) W'
 | .goto t,_,W'=>KeepsOthers W W'/\B (.goto t) W'
 | .panic _,_,_=>False
 | .outgrown,_,_=>False
def Abides (m:Nat)(X:World->Prop):Prop:=∀W l o o',X W->m<=l->W.heap[l]?=some o->o.isCells=false->X (W.putObj l o')
theorem Oj {σ : Type} {g : Operand} {ps : Array Tmp} {assign body : Code} {Q : Exit -> Act -> World -> Prop} {a : Act} {w : World}
  (hro:F.round=none) (h1:1<=n) {gf:Nat} {lb:Array Value} (hg:a.eval g= .func (.func gf) #[] lb) (hFg:F.fn gf) (eg:∀args w,(callFunc gf args).run P w= .ok (.enter gf args) w)
  (encs:σ->Array Value) (hps:∀s,(encs s).size=ps.size)
  (I A:σ->World->Prop) (B:Code->World->Prop) (Z:World->Prop)
  (tI:∀s,Abides w.heap.size (I s)) (tA:∀s,Abides w.heap.size (A s)) (tB:∀c,Abides w.heap.size (B c)) (tZ:Abides w.heap.size Z)
  (a₁:σ->Act)
  (hassign:∀(l:Nat) (s:σ) (W:World) (K:Act->World->Prop),K (a₁ s) W->
   assign.wpIn (F.inRound l) (n-1-1) P (Exit.then K (fun _ _ _=>False)) {tmps:=(ps.zip (encs s)).foldl (fun t (p,v)=>t.setIfInBounds p v) a.tmps,defers:=[]} W)
  (hbody:∀(l:Nat) (s:σ) (W:World),I s W->body.wpIn (F.inRound l) (n-1-1) P (leftPost (A s) B W) (a₁ s) W)
  (hiter:∀(l:Nat) (o o':Obj) (L:World->Prop) (L':Code->World->Prop),o.isCells=false->o'.isCells=false->
   (∀W (x:Addr) v,x.block<w.heap.size->L W->L (W.setCell x v))->(∀W,L W->L W.drew)->
   (∀s W,I s W->L W->YieldAt F (n-1-1) P l (encs s) W fun e W'=>(e= .returned (.bool true)/\A s W'/\L W')\/(e= .returned (.bool false)/\∃c,B c W'/\L' c W'))->
   L ((w.alloc o).alloc o')->
   CallsIn F (n-1) P gf (#[.func (.yield l) #[] #[]]++lb) ((w.alloc o).alloc o') fun e W'=>(∃v,e= .returned v)/\((Z W'/\L W')\/∃c,B c W'/\L' c W'))
  (hdone:∀(D:Nat) (W:World),w.heap.size<=D->Z W->W.heap[D]?=some (.deferred (some []))->Q .normal {a with defers:={target:= .collected D,args:= #[]}::a.defers} W)
  (hstop:∀(D:Nat) (c:Code) (W:World),w.heap.size<=D->B c W->W.heap[D]?=some (.deferred (some []))->c.wpIn F n P Q {a with defers:={target:= .collected D,args:= #[]}::a.defers} W) :
  (Code.rangeFunc g ps assign body).wpIn F n P Q a w:=by
 refine wpIn_rangeFunc fun fn hfn=> ?_
 rw[hro]
 -- the loop's record in each of its states
 let rec':LoopState->Option Code->Loop:=fun st pe=>{state:=st,pending:=pe,fn,tmps:=a.tmps,params:=ps,assign,body,defers:=w.heap.size}
 have nl:∀st pe,(Obj.loop (rec' st pe)).isCells=false:=fun _ _=>rfl
 let D:=w.heap.size
 let l:=w.heap.size+1
 let W1:=(w.alloc (.deferred (some []))).alloc (.loop (rec' .ready none))
 have hl1:W1.heap[l]?=some (.loop (rec' .ready none)):=by
  have:=World.alloc_heap_new (w.alloc (.deferred (some []))) (.loop (rec' .ready none));rwa [World.size_alloc] at this
 have hd1:W1.heap[D]?=some (.deferred (some [])):=(Below.heap_alloc _ _ _ (by simp[D])).trans (World.alloc_heap_new w _)
 refine⟨l,[{target:= .collected D,args:= #[]}],W1,{target:= .fn (.func gf) lb,args:= #[.func (.yield l) #[] #[]]},W1,gf,#[.func (.yield l) #[] #[]]++lb,W1,run_enterLoop_outer _ _ _ _ _,?_,?_,?_,fun _=>h1,?_⟩
 ·simp only[resolve,hg];simp[go_sem]
 ·intro f' hf';simp[Target.leads] at hf';subst hf';exact hFg
 ·simp[invoke,go_sem,eg]
 ·refine (hiter l (.deferred (some [])) (.loop (rec' .ready none))
   (fun W=>W.heap[l]?=some (.loop (rec' .ready none))/\W.heap[D]?=some (.deferred (some [])))
   (fun c W=>W.heap[l]?=some (.loop (rec' .done (some c)))/\W.heap[D]?=some (.deferred (some [])))
   rfl rfl
   (fun W x v hx h=>⟨(Below.heap_setCell W x v l (by simp only[l];omega)).trans h.1,(Below.heap_setCell W x v D (by simp only[D];omega)).trans h.2⟩)
   (fun W h=>h) ?_ ⟨hl1,hd1⟩).mono ?_
  ·-- one round
   rintro s W hi ⟨hl,hd⟩
   have hy:=run_yield (P:=P) (args:=encs s) hl (hps s)
   refine⟨fn,_,assign,body,hy,roundIn_of_wpIn hfn (hassign l s W _ ⟨_,run_beginRound hl rfl,?_⟩)⟩
   have hlt:l<W.heap.size:=(Array.getElem?_eq_some_iff.1 hl).1
   have hDl:D≠l:=by simp only[D,l];omega
   refine wpIn_mono (hbody l s _ (tI s W l _ _ hi (by simp only[l];omega) hl (nl _ _))) ?_
   have fin:∀(jump:Option Code) (W3:World),KeepsOthers (W.putObj l (.loop {rec' .ready none with state:= .busy})) W3->
     W3.heap[l]?=some (.loop {rec' .ready none with state:= .busy})/\
     (Instr.endRound l jump).run P W3= .ok (.bool jump.isNone) (W3.putObj l (.loop (rec' (if jump.isNone then .ready else .done) jump)))/\
     (W3.putObj l (.loop (rec' (if jump.isNone then .ready else .done) jump))).heap[l]?=some (.loop (rec' (if jump.isNone then .ready else .done) jump))/\
     (W3.putObj l (.loop (rec' (if jump.isNone then .ready else .done) jump))).heap[D]?=some (.deferred (some [])):=fun jump W3 hk=>by
    have h3:=hk.same _ _ (World.putObj_heap_same hlt) rfl
    have d3:=hk.same _ _ ((World.putObj_heap_other (o:= .loop {rec' .ready none with state:= .busy}) hDl).trans hd) rfl
    exact⟨h3,run_endRound (P:=P) jump h3,World.putObj_heap_same (Array.getElem?_eq_some_iff.1 h3).1,(World.putObj_heap_other hDl).trans d3⟩
   rintro e a3 W3 hp
   cases e with
   | normal=>
    obtain⟨hk,ha⟩:=hp
    obtain⟨h3,hr,hl4,hd4⟩:=fin none W3 hk
    exact⟨_,_,hr,.inl ⟨rfl,tA s W3 l _ _ ha (by simp only[l];omega) h3 rfl,hl4,hd4⟩⟩
   | ret=>
    obtain⟨hk,hb⟩:=hp
    obtain⟨h3,hr,hl4,hd4⟩:=fin (some .ret) W3 hk
    exact⟨_,_,hr,.inr ⟨rfl,.ret,tB _ W3 l _ _ hb (by simp only[l];omega) h3 rfl,hl4,hd4⟩⟩
   | exit id=>
    obtain⟨hk,hb⟩:=hp
    obtain⟨h3,hr,hl4,hd4⟩:=fin (some (.exit id)) W3 hk
    exact⟨_,_,hr,.inr ⟨rfl,.exit id,tB _ W3 l _ _ hb (by simp only[l];omega) h3 rfl,hl4,hd4⟩⟩
   | goto t=>
    obtain⟨hk,hb⟩:=hp
    obtain⟨h3,hr,hl4,hd4⟩:=fin (some (.goto t)) W3 hk
    exact⟨_,_,hr,.inr ⟨rfl,.goto t,tB _ W3 l _ _ hb (by simp only[l];omega) h3 rfl,hl4,hd4⟩⟩
   | panic ch=>exact hp.elim
   | outgrown=>exact hp.elim
  ·-- behind the iterator
   have hDl:D≠l:=by simp only[D,l];omega
   rintro e W2 ⟨⟨v,rfl⟩,⟨hz,hl,hd⟩|⟨c,hb,hl,hd⟩⟩
   ·exact⟨none,_,run_endLoop (P:=P) hl (by simp[rec']),hdone D _ (Nat.le_refl _) (tZ W2 l _ _ hz (by simp only[l];omega) hl rfl) ((World.putObj_heap_other hDl).trans hd)⟩
   ·exact⟨some c,_,run_endLoop (P:=P) hl (by simp[rec']),hstop D c _ (Nat.le_refl _) (tB c W2 l _ _ hb (by simp only[l];omega) hl rfl) ((World.putObj_heap_other hDl).trans hd)⟩
end
end Rt
end Go.Proofs.YtaahfiopdoinkaaGreat
