/- bin.Uint: the bytes of a number, in new memory. -/
import Derived.Test.YtaahfiopdoinkaaGreatTwak
import Derived.RangeFuncCalls
import Derived.RangeFuncBox
import Derived.Maps.AppendAt
import Derived.Deep.AppendLies
import Derived.Below
import Derived.Shelf.Abstract
import Derived.Lib.AppendStr
import Derived.Lib.AppendZeros
import Derived.Laws.AppendOwnNone
import Derived.ChangeArms
import Derived.Deep.Draws
import Derived.Test.YtaahfiopdoinkaaGreatTwad
set_option maxRecDepth 100000
set_option maxHeartbeats 1000000
set_option linter.unusedVariables false
set_option linter.unusedSimpArgs false
open Go.RowKit
namespace Go.Proofs.YtaahfiopdoinkaaGreat
open Go.RowKit Go.Shelf
namespace Bt
open _root_.Go.Proofs.YtaahfiopdoinkaaGreat.Nm (Dk De)
open Rt (Oj)
attribute [local go_sem] Oper.semAt_some
def BOwn (w:World)(base:Nat)(v:Value)(l:List Nat):Prop:=w.ownsRow base 5 1 v l.length (l.map fun(b:Nat)=>Value.int .u8 (b:Int))
theorem Tryz.infoB : (Tryz.prog.info? 5).map (fun i=>(i.zero,i.size,i.bytes))=some (some (.int .u8 0),1,1):=by kernel_rfl
theorem Si (w:World)(base:Nat):BOwn w base (.slice none 0 0) []:=⟨rfl,.inl ⟨rfl,rfl⟩⟩
def US (w:World)(m g bx y:Nat)(l:List Nat)(W:World):Prop:=
 (∃v,Boxed W g 100 v/\BOwn W w.heap.size v l)/\Boxed W bx 23 (.int .u64 y)/\Below w.heap.size w W/\m<=W.heap.size
theorem FL {W:World}{B:Nat}{t:TypeId}{v:Value}(h:Boxed W B t v){l:Nat}{o:Obj}(o':Obj)(hl:W.heap[l]?=some o)(ho:o.isCells=false):Boxed (W.putObj l o') B t v:=by
 refine h.kept (grownBy_putObj' W l o') fun e=> ?_
 injection e with e
 subst e
 rw[show W.heap[B]?=_ from h] at hl
 injection hl with hl
 subst hl
 simp[Obj.isCells] at ho
theorem FG {m:Nat}{w W:World}{l:Nat}(o':Obj)(hw:Below m w W)(hm:m<=W.heap.size)(hl:m<=l):Below m w (W.putObj l o'):=
 hw.grown (grownBy_putObj' W l o') hm (fun k e=>by cases e;exact hl)
theorem US.put {w:World}{m g bx y:Nat}{l:List Nat}{W:World}{k:Nat}{o:Obj}(o':Obj)(h:US w m g bx y l W)(hm:w.heap.size<=m)(hl:m<=k)(hk:W.heap[k]?=some o)(ho:o.isCells=false):US w m g bx y l (W.putObj k o'):=by
 obtain⟨⟨v,h1,h2⟩,h3,h4,h5⟩:=h
 exact⟨⟨v,FL h1 o' hk ho,ownsRow_putObj h2 o' hk ho⟩,FL h3 o' hk ho,FG o' h4 (by omega) (by omega),by rw[World.putObj_size];exact h5⟩
theorem US.alloc {w:World}{m g bx y:Nat}{l:List Nat}{W:World}(h:US w m g bx y l W)(hm:w.heap.size<=m)(o:Obj):US w m g bx y l (W.alloc o):=by
 obtain⟨⟨v,h1,h2⟩,h3,h4,h5⟩:=h
 exact⟨⟨v,h1.alloc o,h2.alloc o⟩,h3.alloc o,h4.alloc (by omega) o,by simp;omega⟩
theorem US.num {w:World}{m g bx y:Nat}{l:List Nat}{W:World}(h:US w m g bx y l W)(hg:g≠bx)(hb:w.heap.size<=bx)(z:Nat):US w m g bx z l (W.setCell ⟨bx,0,none⟩ (.int .u64 z)):=by
 obtain⟨⟨v,h1,h2⟩,h3,h4,h5⟩:=h
 refine⟨⟨v,h1.kept (grownBy_setCell' W bx _) (fun e=>hg (Option.some.inj e)),h2.kept (grownBy_setCell' W bx _) (.inr (fun e=>h3.not_row (by decide) h2 e.symm))⟩,h3.set _,h4.setCell hb _,by simpa[World.setCell] using h5⟩
theorem Yb (f y:Nat)(h:128<=y):Dm (f+1) y=ub y::Dm f (y/128):=by
 rw[Dm,if_neg (by omega),ub,if_neg (by omega)]
theorem Ya (f y:Nat)(h:y<128):Dm f y= [ub y]:=by
 cases f with
 | zero=>simp[Dm,ub,h]
 | succ f=>simp[Dm,ub,h]
theorem Dv (f:Nat):∀y,(Dm f y).length<=f+1:=by
 induction f with
 | zero=>intro y;simp[Dm]
 | succ f ih=>
  intro y
  rw[Dm]
  split
  ·simp
  ·have := ih (y / 128)
   simp;omega
def At (x y:Nat)(l:List Nat):Prop:=y<18446744073709551616/\∃f,l++Dm f y=Dm 10 x/\y<128^(f+1)/\l.length+f=10
theorem at_start (x:Nat)(hx:x<18446744073709551616):At x x []:=⟨hx,10,rfl,by omega,rfl⟩
theorem at_next {x y:Nat}{l:List Nat}(h:At x y l)(hy:128<=y):At x (y/128) (l++ [ub y]):=by
 obtain⟨h0,f,h1,h2,h3⟩:=h
 cases f with
 | zero=>simp at h2;omega
 | succ f=>
  refine⟨by omega,f,?_,?_,by simp;omega⟩
  ·rw [Yb f y hy] at h1
   rw[<-h1];simp
  ·rw [Nat.pow_succ] at h2
   exact Nat.div_lt_of_lt_mul (by rw[Nat.mul_comm];exact h2)
theorem at_end {x y:Nat}{l:List Nat}(h:At x y l)(hy:y<128):l++ [ub y]=Dm 10 x:=by
 obtain⟨h0,f,h1,-⟩:=h
 rw[<-h1,Ya f y hy]
theorem at_len {x y:Nat}{l:List Nat}(h:At x y l):l.length<=10:=by
 obtain⟨h0,f,h1,h2,h3⟩:=h
 omega
theorem Fl (x:Nat)(hx:x<18446744073709551616)(w:World) :
  Calls Tryz.prog 73 #[.int .u64 x] w fun e w'=>∃v,e= .returned v/\BOwn w' w.heap.size v (Dm 10 x)/\Below w.heap.size w w':=by
 obtain⟨i0,hi,hz0,hz1,hz2⟩:=info_parts Tryz.infoB
 refine(callsIn_wide (n:=9)).1 ?_
 refine callsIn_of_wp_marks Tryz.func73 rfl trivial ?_ rfl
 simp only[Tryz.ntmps73,List.size_toArray,List.length_cons,List.length_nil,Nat.reduceAdd,Nat.reduceSub,Array.replicate_succ,Array.replicate_zero,List.push_toArray,List.append_toArray,List.nil_append,List.cons_append]
 gi_wp2_with fail
 refine⟨trivial,(callsIn_wide.2 (Kq x _)).mono ?_⟩
 rintro e W2 ⟨rfl,hW2⟩
 gi_wp2_with fail
 have hz2w:W2.heap.size=w.heap.size+1+1:=by rw[<-hW2];simp
 have u0:US w W2.heap.size w.heap.size (w.heap.size+1) x [] W2:=by
  rw[<-hW2]
  have b0:=(Boxed.new w 100 (.slice none 0 0)).alloc (.cells #[.int .u64 x] 23)
  have b1:=Boxed.new (w.alloc (.cells #[.slice none 0 0] 100)) 23 (.int .u64 x)
  rw[World.size_alloc] at b1
  exact⟨⟨_,b0,Si _ _⟩,b1,((Below.refl _ w).alloc (Nat.le_refl _) _).alloc (by simp) _,Nat.le_refl _⟩
 clear hW2
 refine Oj (σ := Nat × List Nat) rfl (by omega) (gf := 141) (lb := #[.pointer (some ⟨w.heap.size + 1, 0, none⟩)]) rfl trivial (enters_of Tryz.func141 (by kernel_rfl) rfl)
  (fun s=> #[.int .u8 (ub s.1:Nat)]) (fun _=>rfl)
  (fun s W=>At x s.1 s.2/\US w W2.heap.size w.heap.size (w.heap.size+1) s.1 s.2 W)
  (fun s W=>At x s.1 s.2/\US w W2.heap.size w.heap.size (w.heap.size+1) s.1 (s.2++ [ub s.1]) W)
  (fun _ _=>False)
  (fun W=>∃y,US w W2.heap.size w.heap.size (w.heap.size+1) y (Dm 10 x) W)
  (fun s W l o o' h hl ho hc=>⟨h.1,h.2.put o' (by omega) hl ho hc⟩)
  (fun s W l o o' h hl ho hc=>⟨h.1,h.2.put o' (by omega) hl ho hc⟩)
  (fun c W l o o' h hl ho hc=>h)
  (fun W l o o' h hl ho hc=>h.elim fun y h=>⟨y,h.put o' (by omega) hl ho hc⟩)
  (fun s=>{tmps:= #[.int .u64 x,undef,.slice none 0 0,.pointer (some ⟨w.heap.size,0,none⟩),.int .u8 (ub s.1:Nat),.int .u64 x,.func (.func 141) #[] #[.pointer (some ⟨w.heap.size+1,0,none⟩)],.int .u8 (ub s.1:Nat),undef,undef,undef,undef,undef],defers:=[]})
  ?assign ?body ?iter ?done ?stop
 case assign=>
  intro l s W K hK
  gi_wp2
  exact hK
 case body=>
  rintro l ⟨y,d⟩ W ⟨hat,⟨v,hv,hrow⟩,hnum,hB,hm⟩
  have hc:=hv.cell
  have hdl:=at_len hat
  simp only at hat hc hdl hrow hv
  gi_wp2_with (gi_at_builtin;refine wpListIn_append_own _ rfl _ _ 100 rfl w.heap.size 5 i0 (.int .u8 0) 1 1 Tryz.underlying100 hi hz0 hz1 hz2 rfl (by decide) _ _ _ rfl (hrow.alloc _) ⟨W.heap.size,0,none⟩ 1 1 [.int .u8 (ub y:Nat)] rfl rfl (cell_one_new _ _ _) (by simp[Value.oneCell']) (by simp only[maxLen];omega) (by omega) (by have:=hB.size;simp;omega) ?_;intro v' w1 hown' hgrow _;obtain⟨g',cap',rfl⟩:=ownsRow_succ hown';obtain⟨hv1,hv2,hr2,hk2,hb2⟩:=hv.appended (by decide) hrow hB.size (Nat.le_refl _) hown' hgrow;have hc1:=hv1.cell;have hf1:=hv1.frozen)
  have hg2:(W.alloc (.cells #[.int .u8 (ub y:Nat)] 5)).grownBy w1 v.ownBlock:=hgrow
  have hn2:Boxed w1 (w.heap.size+1) 23 (.int .u64 y):=(hnum.alloc _).kept hg2 (hnum.not_row (by decide) hrow)
  have hn3:=hn2.kept (grownBy_setCell' w1 w.heap.size (.slice (some ⟨g',0,none⟩) (d.length+1) cap')) (fun e=>by injection e;omega)
  refine⟨hk2,⟨_,hv2,?_⟩,hn3,hB.trans hb2,by have:=hk2.size;omega⟩
  unfold BOwn
  rw[List.length_append,List.length_singleton,List.map_append]
  exact hr2
 case iter=>
  intro l o o' L L' ho ho' hLs hLd hY hl0
  refine (iter_in 8 (by omega) l (w.heap.size + 1) x hx
   (fun s W=>At x s.1 s.2/\US w W2.heap.size w.heap.size (w.heap.size+1) s.1 s.2 W)
   (fun s W=>At x s.1 s.2/\US w W2.heap.size w.heap.size (w.heap.size+1) s.1 s.2 W)
   (fun s W=>At x s.1 s.2/\US w W2.heap.size w.heap.size (w.heap.size+1) s.1 (s.2++ [ub s.1]) W)
   (fun _ _=>False) L L'
   (fun s W h=>⟨⟨h.2.2.1.cell,h.2.2.1.frozen⟩,h.1.1⟩) (fun s W h=>h) (fun s W h=>⟨h.2.2.1.cell,h.2.2.1.frozen⟩)
   (fun s W hy h=>⟨at_next h.1 hy,h.2.num (by omega) (by omega) _⟩)
   (fun W v h=>hLs W ⟨w.heap.size+1,0,none⟩ v (by simp only[];omega) h) (fun s W h hl=>hY s W h hl) _ ⟨at_start x hx,(u0.alloc (by omega) _).alloc (by omega) _⟩ hl0).mono ?_
  rintro e W' ⟨hv,⟨⟨s,hs,ha,hu⟩,hl⟩|⟨c,hc,-⟩⟩
  ·exact⟨hv,.inl ⟨⟨s.1,by rw[at_end ha hs] at hu;exact hu⟩,hl⟩⟩
  ·exact hc.elim
 case done=>
  rintro D W hD ⟨y,⟨v,hv,hrow⟩,hnum,hB,hm⟩ hK
  have hc:=hv.cell
  gi_wp2
  refine⟨by simp,.inl ⟨_,_,rfl,run_takeDeferred hK,?_⟩⟩
  exact⟨_,results_tmp rfl _ _ _,v,rfl,ownsRow_putObj hrow _ hK rfl,FG _ hB (by omega) (by omega)⟩
 case stop=>
  rintro D c W hD h hK
  exact h.elim
end Bt
end Go.Proofs.YtaahfiopdoinkaaGreat
namespace Go.Proofs.YtaahfiopdoinkaaGreat
namespace Bt
open _root_.Go.Proofs.YtaahfiopdoinkaaGreat.Nm (Dk De)
def bv (b:Nat):Value:= .int .u8 (b:Int)
def BIn (w:World)(v:Value)(l:List Nat):Prop:=(v= .slice none 0 0/\l= [])\/∃ad cap,v= .slice (some ad) l.length cap/\l.length<=cap/\cap<=maxLen/\ad.block<w.heap.size/\∀j u,(l.map bv)[j]?=some u->w.cell? (ad.add j)=some u
theorem block_add (a:Addr)(n:Nat):(a.add n).block=a.block:=by unfold Addr.add;split<;>rfl
theorem BIn.later {w w':World}{v:Value}{l:List Nat}(h:BIn w v l)(hb:Below w.heap.size w w'):BIn w' v l:=by
 rcases h with h|⟨ad,cap,h1,h2,h3,h4,h5⟩
 ·exact .inl h
 ·exact .inr ⟨ad,cap,h1,h2,h3,Nat.lt_of_lt_of_le h4 hb.size,fun j u hu=>(hb.cell (by rw[block_add];exact h4)).trans (h5 j u hu)⟩
theorem BOwn.read {w:World}{base:Nat}{v:Value}{l:List Nat}(h:BOwn w base v l):BIn w v l:=by
 rcases h.2 with ⟨h1,h2⟩|⟨g,cap,cur,q1,q2,q3,q4,q5,q6,q7⟩
 ·exact .inl ⟨h1,List.eq_nil_of_length_eq_zero h2⟩
 ·refine .inr ⟨_, cap, q1, q4, q5, (Array.getElem?_eq_some_iff.1 q3).1, fun j u hu => ?_⟩
  have hj:j<l.length:=by have:=(List.getElem?_eq_some_iff.1 hu).1;simpa using this
  have:cur[j]?=some u:=by
   rw[<-hu]
   have e:(l.map bv)=l.map (fun(b:Nat)=>Value.int .u8 (b:Int)):=rfl
   rw[e, <-q7,List.getElem?_take_of_lt (by omega),Array.getElem?_toList]
  rw[show (⟨g,0,none⟩:Addr).add j=⟨g,0+j,none⟩ from Go.WideShapes.add_plain ..,Nat.zero_add]
  simp[World.cell?,q3,this]
theorem BOwn.later {w w':World}{base:Nat}{v:Value}{l:List Nat}(h:BOwn w base v l)(hb:Below w.heap.size w w'):BOwn w' base v l:=by
 refine⟨h.1,?_⟩
 rcases h.2 with h|⟨g,cap,cur,q1,q2,q3,q4⟩
 ·exact .inl h
 ·exact .inr ⟨g,cap,cur,q1,q2,(hb.block g (Array.getElem?_eq_some_iff.1 q3).1).trans q3,q4⟩
theorem BOwn.base {w:World}{base base':Nat}{v:Value}{l:List Nat}(h:BOwn w base v l)(hb:base'<=base):BOwn w base' v l:=by
 refine⟨h.1,?_⟩
 rcases h.2 with h|⟨g,cap,cur,q1,q2,q3,q4⟩
 ·exact .inl h
 ·exact .inr ⟨g,cap,cur,q1,by omega,q3,q4⟩
theorem BOwn.row_ge {w:World}{base:Nat}{v:Value}{l:List Nat}(h:BOwn w base v l):∀k,v.ownBlock=some k->base<=k:=by
 intro k hk
 rcases h.2 with ⟨rfl,-⟩|⟨g,cap,cur,rfl,q2,-⟩
 ·cases hk
 ·cases hk;exact q2
theorem bv_one (l:List Nat):∀u∈l.map bv,u.oneCell'=true:=by
 intro u hu
 rw[List.mem_map] at hu
 obtain⟨b,-,rfl⟩:=hu
 rfl
theorem Gb {W:World}{base:Nat}(ty:TypeId){v src:Value}{l m:List Nat}(hown:BOwn W base v l)(hs:BIn W src m)(hlen:l.length+m.length<=35184372088832)(hbase:base<=W.heap.size) :
  ∃v' W',(Builtin.append_ #[100,100] ty #[v,src]).run Tryz.prog W= .ok v' W'/\BOwn W' base v' (l++m)/\W.grownBy W' v.ownBlock:=by
 obtain⟨i0,hi,hz0,hz1,hz2⟩:=info_parts Tryz.infoB
 rcases hs with ⟨rfl,rfl⟩|⟨ad,cap,rfl,h1,h2,h3,h4⟩
 ·refine⟨v,W,run_append_owned_none (P:=Tryz.prog) (w:=W) base 100 ty 5 i0 1 Tryz.underlying100 hi v l.length _ hown,by simpa using hown,⟨rfl,rfl,rfl,Nat.le_refl _,fun _ _ _=>rfl⟩⟩
 ·obtain ⟨v', W', hr, ho, hg, -, -⟩ := run_append_own_at (P := Tryz.prog) W base 100 ty 5 i0 (.int .u8 0) 1 1 Tryz.underlying100 hi hz0 hz1 hz2 rfl (by decide) v l.length _ hown ad m.length cap (m.map bv) (by simp) h4 (bv_one m) (by simp only [maxLen]; omega) (by omega) hbase
  refine⟨v',W',hr,?_,hg⟩
  unfold BOwn
  rw[List.length_append,List.map_append]
  exact ho
theorem Dl {ops : Array Oper} {rest : List Oper} {o : Oper} {a : Act} {Q : Exit -> Act -> World -> Prop} (W : World) (hgd : o.guard = none) (s x : Operand)
  (ho:o.op= .call {callee:= .builtin .append,args:= #[s,x],argTypes:= #[100,100]}) (base:Nat) (v src:Value) (l m:List Nat) (hv:a.eval s=v) (hx:a.eval x=src) (hown:BOwn W base v l) (hs:BIn W src m) (hlen:l.length+m.length<=35184372088832) (hbase:base<=W.heap.size)
  (h:∀v' W',BOwn W' base v' (l++m)->W.grownBy W' v.ownBlock->Below base W W'->wpList Tryz.prog ops Q rest (a.put o.dst v') W'):wpList Tryz.prog ops Q (o::rest) a W:=by
 obtain⟨v',W',hr,h1,h2⟩:=Gb o.type hown hs hlen hbase
 exact Lib.wpList_append_run W hgd s x _ _ ho v src hv hx v' W' hr (h v' W' h1 h2 ((Below.refl base W).grown h2 hbase hown.row_ge))
def sb (s:ByteArray):List Nat:=s.data.toList.map (·.toNat)
theorem Ox (s:ByteArray):(sb s).length=s.size:=by simp[sb]
theorem sb_cells (s:ByteArray):Lib.strCells s=(sb s).map fun(b:Nat)=>Value.int .u8 (b:Int):=by simp[sb,Lib.strCells]
theorem Gz (s:ByteArray)(hs:s.size<=100000)(w:World) :
  Calls Tryz.prog 72 #[.string s] w fun e w'=>∃v,e= .returned v/\BOwn w' w.heap.size v (Dm 10 s.size++sb s)/\Below w.heap.size w w':=by
 obtain⟨i0,hi,hz0,hz1,hz2⟩:=info_parts Tryz.infoB
 have HU:=Lib.hid (Fl s.size (by omega) w)
 have hl:=Dv 10 s.size
 go_enter Tryz.func72,Tryz.ntmps72
 go_wp2_with fail
 refine HU.out.mono ?_
 rintro e w1 ⟨v,rfl,hown,hb⟩
 have HB:=Lib.hid hb
 have hbs:=hb.size
 clear hb HU
 go_wp2_with (at_builtin;refine Lib.wpList_append_own_string _ rfl _ _ 100 9 rfl w.heap.size 5 i0 Tryz.underlying100 Tryz.underlying9 hi hz0 hz1 hz2 v _ _ rfl hown s rfl (by simp only[maxLen];omega) (by omega) hbs ?_;intro v2 w2 hown2 hg2 _)
 have HB2:=HB.out.grown hg2 hbs (fun k hk=>hown.row_ge k hk)
 go_ret
 refine⟨v2,rfl,?_,HB2⟩
 unfold BOwn
 rw[List.length_append,Ox,List.map_append, <-sb_cells]
 exact hown2
theorem grow_any (n:Nat)(hn:n<=35184372088832)(w:World) :
  Calls Tryz.prog 106 #[.slice none 0 0,.int .i64 n] w fun e w'=>∃v,e= .returned v/\BOwn w' w.heap.size v []/\Below w.heap.size w w':=by
 obtain⟨i0,hi,hz0,hz1,hz2⟩:=info_parts Tryz.infoB
 rcases Nat.eq_zero_or_pos n with h0|h0
 ·subst h0
  go_enter Tryz.func106,Tryz.ntmps106
  go_wp2_with fail
  go_ret
  exact⟨_,rfl,Si _ _,Below.refl _ _⟩
 ·have hr := Lib.run_append_nil_zeros (P := Tryz.prog) w 100 3 100 5 i0 (.int .u8 0) .i64 .i64 Tryz.underlying100 Tryz.underlying3 hi hz0 n h0 (by omega) (by omega) (by rw [hz2]; omega)
  have HR:=Lib.hid hr
  obtain⟨gc,hgc⟩:∃gc,gc=grownCap w n 0 5:=⟨_,rfl⟩
  have hge:n<=gc:=by rw[hgc];exact grownCap_ge ..
  have hle:gc<=maxLen:=by rw[hgc];exact grownCap_le_maxLen _ _ _ _ (by simp only[maxLen];omega)
  rw[<-hgc] at HR
  clear hr hgc
  have hle2:=hle
  simp only[maxLen] at hle2
  go_enter Tryz.func106,Tryz.ntmps106
  go_wp2_with (at_builtin;refine Lib.wpList_append_run _ rfl _ _ _ _ rfl _ _ rfl rfl _ _ HR.out ?_)
  go_ret
  refine⟨_,rfl,⟨rfl,.inr ⟨w.heap.size,gc,_,rfl,Nat.le_refl _,heap_alloc_new w.drew _,Nat.zero_le _,hle,?_,rfl⟩⟩,(Below.refl _ _).drew.alloc (Nat.le_refl _) _⟩
  simp only[Array.size_append,size_zeroCells]
  show n*1+(gc-n)*1=gc*1
  omega
def PIn (w:World)(A:Option Addr)(cap:Nat)(ls:List (List Nat)):Prop:=ls.length<=cap/\cap<=maxLen/\(0<ls.length->∃b off,A=some ⟨b,off,none⟩/\b<w.heap.size/\∀i (h:i<ls.length),∃v,w.cell? ⟨b,off+i,none⟩=some v/\BIn w v ls[i])
theorem PIn.later {w w':World}{A:Option Addr}{cap:Nat}{ls:List (List Nat)}(h:PIn w A cap ls)(hb:Below w.heap.size w w'):PIn w' A cap ls:=⟨h.1,h.2.1,fun hp=>by
 obtain⟨b,off,hA,hlt,h3⟩:=h.2.2 hp
 refine⟨b,off,hA,Nat.lt_of_lt_of_le hlt hb.size,fun i hi=> ?_⟩
 obtain⟨v,h4,h5⟩:=h3 i hi
 exact⟨v,(hb.cell (p:=⟨b,_,none⟩) hlt).trans h4,h5.later hb⟩⟩
theorem BIn.form {w:World}{v:Value}{l:List Nat}(h:BIn w v l):∃A cap,v= .slice A l.length cap:=by
 rcases h with ⟨rfl,rfl⟩|⟨ad,cap,rfl,-⟩
 ·exact⟨none,0,rfl⟩
 ·exact⟨some ad,cap,rfl⟩
theorem VS (ls:List (List Nat))(j:Nat)(h:j<ls.length):(ls.take (j+1)).flatten=(ls.take j).flatten++ls[j]:=by
 rw[List.take_succ_eq_append_getElem h,List.flatten_append];simp
theorem Pc (ls:List (List Nat))(j:Nat):(ls.take j).flatten.length<=ls.flatten.length:=by
 have:(ls.take j++ls.drop j).flatten.length=ls.flatten.length:=by rw[List.take_append_drop]
 rw[List.flatten_append,List.length_append] at this
 omega
def Vp (ls:List (List Nat))(j:Nat):Nat:=(ls.take j).flatten.length
theorem OL (ls:List (List Nat))(A:Option Addr)(cap:Nat)(w:World)(h:PIn w A cap ls)(hn:ls.flatten.length<=35184372088832)(hl0:ls.length<=35184372088832) :
  Calls Tryz.prog 71 #[.slice A ls.length cap] w fun e w'=>∃v,e= .returned v/\BOwn w' w.heap.size v ls.flatten/\Below w.heap.size w w':=by
 have hl:=h.1
 have hc:=h.2.1
 simp only[maxLen] at hc
 have HK:=Lib.hid h;clear h
 go_enter Tryz.func71,Tryz.ntmps71
 go_wp2_with fail
 go_loop [3,11] (fun n i=>∃(j:Nat),j<=ls.length/\i= .int .i64 j/\n= .int .i64 (Vp ls j:Nat)) (fun _ i=>ls.length-(intOf i).toNat)
 case atStart=>exact⟨0,by omega,rfl,rfl⟩
 case round=>
  obtain⟨j,hj,rfl,rfl⟩:=hrel
  by_cases hlt:j<ls.length
  ·obtain ⟨b, off, rfl, hbl, h3⟩ := HK.out.2.2 (by omega)
   obtain⟨v,hv,hin⟩:=h3 j hlt
   obtain⟨A',cap',rfl⟩:=hin.form
   have hf:=VS ls j hlt
   have hm:=Pc ls (j+1)
   rw[hf,List.length_append] at hm
   have HF:Hid (Vp ls (j+1)=Vp ls j+ls[j].length):=Lib.hid (by unfold Vp;rw[hf,List.length_append])
   have hm2:Vp ls j+ls[j].length<=35184372088832:=by unfold Vp;omega
   generalize Vp ls j=a at *
   generalize ls[j].length=c at *
   clear h3 hin hf hm
   go_wp2_with fail
   exact⟨⟨j+1,by omega,by go_num,by rw[HF.out];go_num⟩,by simp[intOf];omega⟩
  ·have hj' : j = ls.length := by omega
   subst hj'
   have hp:Vp ls ls.length<=35184372088832:=by unfold Vp;rw[List.take_length];exact hn
   generalize Vp ls ls.length=N at *
   have HG:=Lib.hid (grow_any N (by omega) w)
   go_wp2_with fail
   refine HG.out.mono ?_
   rintro e w1 ⟨v0,rfl,hown0,hb0⟩
   have HO:=Lib.hid hown0
   have HB0:=Lib.hid hb0
   clear hown0 hb0 HG
   go_wp2_with fail
   go_loopw [6,27] (fun o i wr=>∃(j:Nat),j<=ls.length/\i= .int .i64 j/\BOwn wr w.heap.size o (ls.take j).flatten/\Below w.heap.size w wr) (fun _ i _=>ls.length-(intOf i).toNat)
   case atStart=>exact⟨0,by omega,rfl,HO.out,HB0.out⟩
   case round=>
    obtain⟨j,hj,rfl,hown,hb⟩:=hrel
    by_cases hlt:j<ls.length
    ·obtain ⟨b, off, rfl, hbl, h3⟩ := (HK.out.later hb).2.2 (by omega)
     obtain⟨v,hv,hin⟩:=h3 j hlt
     have hf:=VS ls j hlt
     have hm:=Pc ls (j+1)
     rw[hf,List.length_append] at hm
     have hbs:=hb.size
     have HB:=Lib.hid hb
     clear h3 hb
     go_wp2_with (at_builtin;refine Dl _ rfl _ _ rfl w.heap.size _ v (ls.take j).flatten ls[j] rfl rfl hown hin (by omega) hbs ?_;intro v2 w2 hown2 hg2 hb2)
     rw[<-hf] at hown2
     have HO2:=Lib.hid hown2
     have HB2:=Lib.hid (HB.out.trans hb2)
     clear hown2 hb2
     go_wp2_with fail
     exact⟨⟨j+1,by omega,by go_num,HO2.out,HB2.out⟩,by simp[intOf];omega⟩
    ·have hj' : j = ls.length := by omega
     subst hj'
     rw[List.take_length] at hown
     go_wp2_with fail
     go_ret
     exact⟨_,rfl,hown,hb⟩
end Bt
namespace Pf
open _root_.Go.Proofs.YtaahfiopdoinkaaGreat.Nm (Di)
open Vt (VT)
open Bt (Dm sb Ox)
def Og (s:ByteArray):List Nat:=Dm 10 s.size++sb s
def zz (n:Int):Nat:=if 0<=n then (2*n).toNat else (-2*n-1).toNat
theorem zz_lt {n:Int}(h0 : -9223372036854775808<=n)(h1:n<=9223372036854775807):zz n<18446744073709551616:=by unfold zz;split<;>omega
def be8 (v:Nat):List Nat:=[v/72057594037927936%256,v/281474976710656%256,v/1099511627776%256,v/4294967296%256,v/16777216%256,v/65536%256,v/256%256,v%256]
def VT.form (t:VT):List Nat:=t.fold fun k n f s r=>Dm 10 k.toNat++(if k=1 then Dm 10 (zz n) else if k=2 then be8 (Di f) else if k=3 then Og s else if k=4 then Dm 10 r.length++r.flatten else [])
theorem Xy (k n:Int)(f:Nat)(s:ByteArray)(l:List VT):VT.form (.mk k n f s l)=Dm 10 k.toNat++(if k=1 then Dm 10 (zz n) else if k=2 then be8 (Di f) else if k=3 then Og s else if k=4 then Dm 10 l.length++(l.map VT.form).flatten else []):=by
 unfold VT.form;rw[VT.fold,List.length_map]
def VT.fine (t:VT):Prop:=t.fold (α:=Prop) fun k n f s r=>(-9223372036854775808<=n/\n<=9223372036854775807/\f<18446744073709551616/\s.size<18446744073709551616/\r.length<18446744073709551616)/\∀p∈r,p
theorem Lh {k n:Int}{f:Nat}{s:ByteArray}{l:List VT}:VT.fine (.mk k n f s l)↔(-9223372036854775808<=n/\n<=9223372036854775807/\f<18446744073709551616/\s.size<18446744073709551616/\l.length<18446744073709551616)/\∀t∈l,VT.fine t:=by
 unfold VT.fine;rw[VT.fold,List.length_map]
 simp only[List.mem_map,forall_exists_index,and_imp,forall_apply_eq_imp_iff₂]
theorem Rep.fine {w:World}{lo hi:Nat}{t:VT}:∀{v:Value},Vt.Rep w lo hi t v->VT.fine t:=by
 induction t using VT.ind with
 | _ k n f s l ih=>
  intro v h
  obtain⟨A,cap,rfl,ho,hl,hk⟩:=h.head
  obtain⟨k0,k1,n0,n1,f1,s1,m1⟩:=ho
  simp only[maxLen] at s1 m1
  refine Lh.2 ⟨⟨n0,n1,f1,by omega,by omega⟩,fun t ht=> ?_⟩
  obtain⟨i,hi,rfl⟩:=List.getElem_of_mem ht
  obtain⟨b,off,-,-,-,h3⟩:=hk.at_ (by omega)
  obtain⟨_,_,_,_,_,_,_,-,-,-,-,-,-,hr⟩:=h3 i hi
  exact ih i hi hr
theorem SL {k n:Int}{f:Nat}{s:ByteArray}{l:List VT}{d:Nat}(h:(VT.mk k n f s l).valid d=true) :
  (k=0/\n=0/\Di f=0/\s.size=0/\l= [])\/(k=1/\Di f=0/\s.size=0/\l= [])\/(k=2/\n=0/\s.size=0/\l= [])\/(k=3/\n=0/\Di f=0/\l= [])\/(k=4/\n=0/\Di f=0/\s.size=0/\∀t∈l,t.valid (d-1)=true):=by
 rw[Vt.Oc] at h
 simp only[Bool.and_eq_true,Bool.or_eq_true,decide_eq_true_iff,beq_iff_eq,bne_iff_ne,List.all_eq_true,List.length_eq_zero_iff] at h
 obtain⟨⟨⟨⟨⟨⟨⟨h0,h1⟩,h2⟩,h3⟩,h4⟩,h5⟩,h6⟩,h7⟩:=h
 rcases (by omega:k=0\/k=1\/k=2\/k=3\/k=4) with rfl|rfl|rfl|rfl|rfl
 ·exact .inl ⟨rfl,by simpa using h2,by simpa using h3,by simpa using h4,by simpa using h5⟩
 ·exact .inr (.inl ⟨rfl,by simpa using h3,by simpa using h4,by simpa using h5⟩)
 ·exact .inr (.inr (.inl ⟨rfl,by simpa using h2,by simpa using h4,by simpa using h5⟩))
 ·exact .inr (.inr (.inr (.inl ⟨rfl,by simpa using h2,by simpa using h3,by simpa using h5⟩)))
 ·exact .inr (.inr (.inr (.inr ⟨rfl,by simpa using h2,by simpa using h3,by simpa using h4,h7⟩)))
theorem VG {s:ByteArray}(h:s.size=0):s=⟨#[]⟩:=by
 apply ByteArray.ext
 apply Array.eq_empty_of_size_eq_zero
 exact h
theorem JM {k n:Int}{f f':Nat}{s:ByteArray}{l l':List VT}(hf:Di f=Di f')(hl:l.length=l'.length)(h:∀(i:Nat) (hi:i<l.length) (hi':i<l'.length),l[i].same l'[i]=true):(VT.mk k n f s l).same (.mk k n f' s l')=true:=
 (Vt.OW ..).2 ⟨rfl,rfl,rfl,hf,hl,h⟩
theorem bits_lt {f:Nat}(h:f<18446744073709551616):Di f<18446744073709551616:=by
 unfold Di _root_.Go.Proofs.YtaahfiopdoinkaaGreat.Nm.Xr;split<;>omega
end Pf
namespace Rd
open Bt (Dm sb)
def nf : (f i x : Nat) -> List Nat -> Option (Nat × Nat)
 | 0,_,_,_=>none
 | _+1,_,_,[]=>none
 | f+1,i,x,c::l=>if i=9/\1<c%128 then none else if c<128 then (if 0<i/\c%128=0 then none else some (x+c%128*128^i,i+1)) else nf f (i+1) (x+c%128*128^i) l
def num (l:List Nat):Option (Nat×Nat):=nf 10 0 0 l
end Rd
end Go.Proofs.YtaahfiopdoinkaaGreat
