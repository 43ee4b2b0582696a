/- Worlds with some blocks hidden; maps by their keys, whatever their elements. -/
import Derived.Laws.Rows
import Derived.Laws.IdiomRangeMap
import Derived.Test.YtaahfiopdoinkaaGreatTwag
import Derived.Maps.OwnSet
import Derived.Maps.RangeWalk
import Derived.StringKeys
import Derived.Carry
import Derived.Laws.CopyOwn
set_option maxRecDepth 100000
set_option maxHeartbeats 8000000
variable {p : Prop}
set_option linter.unusedVariables false
set_option linter.unusedSimpArgs false
open Go.RowKit
namespace Go.Proofs.YtaahfiopdoinkaaGreat
open Go.RowKit Go.ChangeShapes Go.WideShapes Go.WideMaps Go.Maps Go.ChangeMaps Go.MapKept
namespace Hi
open Vt (VT Rep Fy Oy)
open Ev (EV Dj Db Dn)
open Cm (EvsIn)
def dum : Obj:= .cells #[] 0 (0,0)
open Classical in
noncomputable def Ds (X : Nat -> Prop) (w : World) : World := { w with heap := w.heap.mapIdx fun b o => if X b then dum else o }
variable {X X' : Nat -> Prop} {u v w w' : World}
theorem DM (X:Nat->Prop)(w:World):(Ds X w).heap.size=w.heap.size:=by simp[Ds]
open Classical in
theorem XV (X:Nat->Prop)(w:World)(b:Nat):(Ds X w).heap[b]?=(w.heap[b]?).map fun o=>if X b then dum else o:=by simp[Ds]
theorem FB {b:Nat}(h:¬X b):(Ds X w).heap[b]?=w.heap[b]?:=by
 rw[XV]
 cases w.heap[b]? with
 | none=>rfl
 | some o=>simp[h]
theorem KV {b:Nat}(h:X b){o:Obj}(ho:(Ds X w).heap[b]?=some o):o=dum:=by
 rw[XV] at ho
 cases hw:w.heap[b]? with
 | none=>rw[hw] at ho;cases ho
 | some q=>rw[hw] at ho;simp[h] at ho;exact ho.symm
structure Leads (v w : World) : Prop where
 size:v.heap.size<=w.heap.size
 block:∀(b:Nat) (o:Obj),v.heap[b]?=some o->o≠dum->w.heap[b]?=some o
theorem Leads.refl (w:World):Leads w w:=⟨Nat.le_refl _,fun _ _ h _=>h⟩
theorem Leads.trans (h:Leads u v)(k:Leads v w):Leads u w:=⟨Nat.le_trans h.size k.size,fun b o ho hd=>k.block b o (h.block b o ho hd) hd⟩
theorem Df (X : Nat -> Prop) (w : World) : Leads (Ds X w) w := ⟨by rw [DM]; exact Nat.le_refl _, fun b o ho hd => by
 by_cases h:X b
 ·exact absurd (KV h ho) hd
 ·rw[FB h] at ho;exact ho⟩
theorem Leads.of_below (h:Below w.heap.size w w'):Leads w w':=⟨h.size,fun b o ho _=>(h.block b (Array.getElem?_eq_some_iff.1 ho).1).trans ho⟩
theorem Dp (hz:w.heap.size<=w'.heap.size)(h:∀b:Nat,b<w.heap.size->¬X b->¬X' b/\w'.heap[b]?=w.heap[b]?):Leads (Ds X w) (Ds X' w'):=
 ⟨by rw [DM, DM]; exact hz, fun b o ho hd => by
  by_cases hx:X b
  ·exact absurd (KV hx ho) hd
  ·rw [FB hx] at ho
   obtain⟨h1,h2⟩:=h b (Array.getElem?_eq_some_iff.1 ho).1 hx
   rw[FB h1,h2];exact ho⟩
theorem Ka (hz:u.heap.size<=w.heap.size)(h:∀(b:Nat) (o:Obj),u.heap[b]?=some o->o≠dum->¬X b/\w.heap[b]?=some o):Leads u (Ds X w):=
 ⟨by rw [DM]; exact hz, fun b o ho hd => by
  obtain⟨h1,h2⟩:=h b o ho hd
  rw[FB h1];exact h2⟩
theorem Leads.cell (h:Leads v w){p:Addr}{x:Value}(hp:v.cell? p=some x):w.cell? p=some x:=by
 cases hb:v.heap[p.block]? with
 | none=>simp[World.cell?,hb] at hp
 | some o=>
  by_cases hd:o=dum
  ·subst hd
   simp[World.cell?,hb,dum] at hp
  ·have := h.block _ _ hb hd
   rw[World.cell?_of_block (w:=v) (by rw[this,hb])]
   exact hp
theorem Rep.leads {lo hi:Nat}{t:VT}{x:Value}(h:Rep v lo hi t x)(hl:Leads v w):Rep w lo hi t x:=by
 induction t using VT.ind generalizing x with
 | _ k n f s l ih=>
  obtain⟨A,cap,C,rfl,ho,hln,hc,hr⟩:=Oy.1 h
  refine .mk k n f s l A cap C ho hln (fun hp=> ?_) (fun i hi=>ih i hi (hr i hi))
  obtain⟨b,off,hA,h1,h2,h3⟩:=hc hp
  refine⟨b,off,hA,h1,h2,fun i hi j hj=> ?_⟩
  obtain⟨k',n',f',s',l',A',cap',-,hv,-⟩:=(hr i hi).open_
  injection hv with hv
  have e:=h3 i hi j hj
  rw[hv] at e ⊢
  have hq:∃y,(#[Value.int .i64 k',.int .i64 n',.float .f64 f',.string s',.slice A' l'.length cap'])[j]?=some y:=⟨_,Array.getElem?_eq_getElem (by simpa using hj)⟩
  obtain⟨y,hy⟩:=hq
  rw[hy] at e ⊢
  exact hl.cell e
theorem EvsIn.leads {A:Option Addr}{cap:Nat}{es:List EV}(h:EvsIn v A cap es)(hl:Leads v w):EvsIn w A cap es:=⟨h.le,h.cap_le,fun hp=>by
 obtain⟨b,off,hA,hlt,h3⟩:=h.at_ hp
 refine⟨b,off,hA,Nat.lt_of_lt_of_le hlt hl.size,fun i hi=> ?_⟩
 obtain⟨lo,hi',vk,vn,vf,vs,A',m,c,h4,h5,h6,h7⟩:=h3 i hi
 refine⟨lo,hi',vk,vn,vf,vs,A',m,c,h4,Rep.leads h5 hl,Nat.le_trans h6 hl.size,fun q hq=> ?_⟩
 have e:=h7 q hq
 have hy:∃y,(Db es[i] vk vn vf vs A' m c)[q]?=some y:=⟨_,Array.getElem?_eq_getElem (by simpa[Db] using hq)⟩
 obtain⟨y,hy⟩:=hy
 rw[hy] at e ⊢
 exact hl.cell e⟩
structure Chg (X : Nat -> Prop) (w w' : World) : Prop where
 os:w'.os=w.os
 tape:w'.tape=w.tape
 output:w'.output=w.output
 size:w.heap.size<=w'.heap.size
 block:∀b:Nat,b<w.heap.size->¬X b->w'.heap[b]?=w.heap[b]?
theorem Chg.refl (X:Nat->Prop)(w:World):Chg X w w:=⟨rfl,rfl,rfl,Nat.le_refl _,fun _ _ _=>rfl⟩
theorem Chg.trans {w1 w2 w3:World}(h:Chg X w1 w2)(k:Chg X w2 w3):Chg X w1 w3:=
 ⟨k.os.trans h.os,k.tape.trans h.tape,k.output.trans h.output,Nat.le_trans h.size k.size,fun b hb hx=>(k.block b (Nat.lt_of_lt_of_le hb h.size) hx).trans (h.block b hb hx)⟩
theorem Chg.of_below (h:Below w.heap.size w w'):Chg X w w':=⟨h.os,h.tape,h.output,h.size,fun b hb _=>h.block b hb⟩
theorem Chg.below (h:Chg X w w'){B:Nat}(hB:B<=w.heap.size)(hX:∀b,X b->B<=b):Below B w w':=
 ⟨h.os,h.tape,h.output,h.size,fun b hb=>h.block b (Nat.lt_of_lt_of_le hb hB) (fun hx=>absurd (hX b hx) (by omega))⟩
theorem Chg.leads (h:Chg X w w'):Leads (Ds X w) (Ds X w'):=Dp h.size fun b hb hx=>⟨hx,h.block b hb hx⟩
theorem Chg.setCell {p:Addr}(hp:X p.block)(x:Value):Chg X w (w.setCell p x):=⟨rfl,rfl,rfl,by simp[World.setCell],fun b _ hx=>RowKit.Below.heap_setCell _ _ _ _ (fun e=>hx (e ▸ hp))⟩
theorem Chg.turned {b:Nat}(h:w.mapTurned w' b)(hb:X b):Chg X w w':=by
 obtain⟨h1,h2,h3,h4,h5⟩:=h.grown
 exact⟨h1,h2,h3,h4,fun i hi hx=>h5 i hi (fun e=>hx (by injection e with e;exact e ▸ hb))⟩
def HR (x:Value):Option (DataW Value×List MemPlace):=some (.held x,[])
def At (D : DataW Value) (k : Lit) : Option Value -> Prop
 | none=>Maps.has D k=false
 | some x=>Maps.has D k=true/\∀z,D.atKey k z= .held x
theorem At.empty (k:Lit):At (.map []) k none:=by simp[At,Maps.has]
theorem At.put {D:DataW Value}{k:Lit}(hD:IsMap D)(hk:WideAt.IsKeyLit k)(x:Value):At (D.put k (.held x)) k (some x):=⟨has_put_same hD hk _,fun z=>atKey_put_same hD hk _ _⟩
theorem At.put_other {D:DataW Value}{k k':Lit}{o:Option Value}(h:At D k' o)(hne:k'≠k)(x:Value):At (D.put k (.held x)) k' o:=by
 cases o with
 | none=>exact(has_put_other hne _).trans h
 | some y=>exact⟨(has_put_other hne _).trans h.1,fun z=>(atKey_put_other hne _ _).trans (h.2 z)⟩
theorem At.del (D:DataW Value)(k:Lit):At (D.del k) k none:=has_del_same
theorem At.del_other {D:DataW Value}{k k':Lit}{o:Option Value}(h:At D k' o)(hne:k'≠k):At (D.del k) k' o:=by
 cases o with
 | none=>exact(has_del_other hne).trans h
 | some y=>exact⟨(has_del_other hne).trans h.1,fun z=>(atKey_del_other hne _).trans (h.2 z)⟩
section
variable {kt : TypeId} {b n : Nat} {D : DataW Value}
theorem look2 {t e:TypeId}(h:w.ownsMap Tryz.prog kt HR b n D)(K:Keyed Tryz.prog kt)(ht:Tryz.prog.underlying t=some (.map kt e)){z:Value}(hz:(zeroValue e).run Tryz.prog w= .ok z w){key:Value}{kl:Lit}(hkey:keyOf Tryz.prog kt key=some kl){o:Option Value}(ho:At D kl o) :
  (Instr.lookup t (.map (some b)) key true).run Tryz.prog w= .ok (.tuple #[o.getD z,.bool o.isSome]) w:=by
 obtain⟨x,ps,hr,hx⟩:=h.look_ok K ht hz (zd:= .held z) (zp:=[]) rfl hkey
 simp only[HR,Option.some.injEq,Prod.mk.injEq] at hx
 replace hx:=hx.1
 cases o with
 | none=>
  rw[atKey_of_not_has ho] at hx
  rw[DataW.held.injEq] at hx
  subst hx
  rw[hr,show Maps.has D kl=false from ho];rfl
 | some y=>
  rw[ho.2] at hx
  rw[DataW.held.injEq] at hx
  subst hx
  rw[hr,ho.1];rfl
theorem look1 {t e:TypeId}(h:w.ownsMap Tryz.prog kt HR b n D)(K:Keyed Tryz.prog kt)(ht:Tryz.prog.underlying t=some (.map kt e)){z:Value}(hz:(zeroValue e).run Tryz.prog w= .ok z w){key:Value}{kl:Lit}(hkey:keyOf Tryz.prog kt key=some kl){o:Option Value}(ho:At D kl o) :
  (Instr.lookup t (.map (some b)) key false).run Tryz.prog w= .ok (o.getD z) w:=by
 obtain⟨x,ps,hr,hx⟩:=h.lookup K ht hz (zd:= .held z) (zp:=[]) rfl hkey
 simp only[HR,Option.some.injEq,Prod.mk.injEq] at hx
 replace hx:=hx.1
 cases o with
 | none=>
  rw[atKey_of_not_has ho] at hx
  rw[DataW.held.injEq] at hx
  subst hx
  exact hr
 | some y=>
  rw[ho.2] at hx
  rw[DataW.held.injEq] at hx
  subst hx
  exact hr
theorem DW (h:w.ownsMap Tryz.prog kt HR b n D)(hk:w'.heap[b]?=w.heap[b]?):w'.ownsMap Tryz.prog kt HR b n D:=by
 obtain⟨es,clock,hb,r⟩:=h
 exact⟨es,clock,hk.trans hb,r⟩
theorem Py {t e:TypeId}(h:w.ownsMap Tryz.prog kt HR b n D)(ht:Tryz.prog.underlying t=some (.map kt e))(ty:TypeId) :
  ∃w',(Builtin.clear_ #[t] ty #[.map (some b)]).run Tryz.prog w= .ok (.tuple #[]) w'/\w'.ownsMap Tryz.prog kt HR b 0 (.map [])/\w.mapTurned w' b:=by
 obtain⟨es,clock,hb,F,hs,rfl⟩:=h
 refine⟨setBlock w b (.map #[] clock),?_,⟨#[],clock,heap_setBlock_same hb _,⟨by simp,stamped_empty clock,by simp⟩,Nat.le_refl _,rfl⟩,⟨es,clock,#[],clock,hb,rfl⟩⟩
 simp[Builtin.clear_,run_underlying ht,MapKept.run_getObj_map hb,MapKept.run_setObj_map _ hb,Result.andThen,setBlock]
end
def GX (id:Nat):Lit:= .int .u64 (id:Nat)
theorem Ub {a b:Nat}(h:a≠b):GX a≠GX b:=fun e=>h (by unfold GX at e;injection e with _ e;omega)
theorem Fe : Keyed Tryz.prog 23:=int_keyed Tryz.underlying23
theorem FH : Keyed Tryz.prog 9:=string_keyed Tryz.underlying9
theorem PG (id:Nat)(h:id<18446744073709551616):keyOf Tryz.prog 23 (.int .u64 (id:Nat))=some (GX id):=
 keyOf_int_mk Tryz.underlying23 (by simp[Lit.wf,IntKind.min,IntKind.max,IntKind.bits,IntKind.signed];omega)
theorem Gv (s:ByteArray)(h:s.size<=maxLen):keyOf Tryz.prog 9 (.string s)=some (.string s.data.toList):=keyOf_string_mk Tryz.underlying9 h
theorem isKey (id:Nat):WideAt.IsKeyLit (GX id):=trivial
def FO (x:Nat×Nat):Value:= .agg #[.int .u64 (x.1:Nat),.int .u64 (x.2:Nat)]
def taskV (t:TK)(k n:Int)(f:Nat)(s:ByteArray)(A:Option Addr)(m c:Nat):Value:=
 .agg #[.int .u64 (t.id:Nat),.string t.name,.int .i64 k,.int .i64 n,.float .f64 f,.string s,.slice A m c,.int .i64 t.n,.bool t.fl,.int .u64 (t.at':Nat)]
def XR : Value:= .agg #[.int .u64 0,.string ⟨#[]⟩,.int .i64 0,.int .i64 0,.float .f64 0,.string ⟨#[]⟩,.slice none 0 0,.int .i64 0,.bool false,.int .u64 0]
structure TOk (t : TK) : Prop where
 i1:t.id<18446744073709551616
 n0:0<=t.n
 n1:t.n<=2147483647
 a1:t.at'<18446744073709551616
 s1:t.name.size<=maxLen
def TRep (V:World)(t:TK)(x:Value):Prop:=∃lo hi k n f s A m c,x=taskV t k n f s A m c/\TOk t/\Rep V lo hi t.v (Dn k n f s A m c)/\hi<=V.heap.size
theorem TRep.leads {t:TK}{x:Value}(h:TRep v t x)(hl:Leads v w):TRep w t x:=by
 obtain⟨lo,hi,k,n,f,s,A,m,c,h1,h2,h3,h4⟩:=h
 exact⟨lo,hi,k,n,f,s,A,m,c,h1,h2,Rep.leads h3 hl,Nat.le_trans h4 hl.size⟩
def Both {α β : Type} (R : α -> β -> Prop) : Option α -> Option β -> Prop
 | none,none=>True
 | some a,some b=>R a b
 | _,_=>False
def TMap (w V:World)(b n:Nat)(ts:List TK):Prop:=∃D:DataW Value,w.ownsMap Tryz.prog 23 HR b n D/\∀id,id<18446744073709551616->∃o,At D (GX id) o/\Both (TRep V) (Fb ts id) o
def MMap (w:World)(b n:Nat)(l:List (Nat×Nat)):Prop:=∃D:DataW Value,w.ownsMap Tryz.prog 23 HR b n D/\(∀id,id<18446744073709551616->At D (GX id) ((FR l id).map FO))
def KMap (w:World)(b n:Nat)(ks:List ByteArray):Prop:=∃D:DataW Value,w.ownsMap Tryz.prog 9 HR b n D/\∀s:ByteArray,s.size<=maxLen->At D (.string s.data.toList) (if OG ks s=true then some (.bool true) else none)
theorem Lt (w:World):(zeroValue 36).run Tryz.prog w= .ok XR w:=by rw[Tryz.zeroValue36];rfl
theorem Jw (w:World):(zeroValue 89).run Tryz.prog w= .ok (FO (0,0)) w:=by rw[Tryz.zeroValue89];rfl
theorem Lu (w:World):(zeroValue 4).run Tryz.prog w= .ok (.bool false) w:=by rw[Tryz.zeroValue4]
theorem M109 (h:p:=by
 rw[List.find?_cons_of_pos (by simpa using e),List.find?_cons_of_pos (by simpa using e),if_neg (fun h=>ha (e.trans h))]):p:=h
theorem tget_put {ts:List TK}{t:TK}(h:∃x∈ts,x.id=t.id)(id:Nat):Fb (FN ts t) id=if id=t.id then some t else Fb ts id:=by
 unfold Fb FN
 induction ts with
 | nil=>obtain⟨x,hx,_⟩:=h;simp at hx
 | cons a r ih=>
  rw[List.map_cons]
  by_cases ha:a.id=t.id
  ·rw [if_pos ha]
   by_cases e:id=t.id
   ·subst e;simp
   ·rw [if_neg e, List.find?_cons_of_neg (by simp; exact fun h => e h.symm), List.find?_cons_of_neg (by simp; exact fun h => e (h.symm.trans ha))]
    by_cases hr:∃x∈r,x.id=t.id
    ·rw[ih hr,if_neg e]
    ·have:List.map (fun x=>if x.id=t.id then t else x) r=r:=by
      conv=>rhs;rw[<-List.map_id r]
      refine List.map_congr_left fun x hx=> ?_
      rw[if_neg (fun h=>hr ⟨x,hx,h⟩)];rfl
     rw[this]
  ·rw [if_neg ha]
   obtain⟨x,hx,hxe⟩:=h
   rcases List.mem_cons.1 hx with q|q
   ·exact absurd (q ▸ hxe) ha
   ·by_cases e : a.id = id
    ·exact M109
    ·rw[List.find?_cons_of_neg (by simpa using e),List.find?_cons_of_neg (by simpa using e),ih ⟨x,q,hxe⟩]
theorem M131 (h:p:=by
 rw[List.filter_cons_of_neg (by simpa using ha),ih]
 by_cases e:id=d
 ·rw[if_pos e,if_pos e]
 ·rw[if_neg e,if_neg e,List.find?_cons_of_neg (by simp;exact fun h=>e (h.symm.trans ha))]):p:=h
theorem M196 (h:p:=by
 rw[List.find?_cons_of_neg (by simpa using e),List.find?_cons_of_neg (by simpa using e),ih]):p:=h
theorem tget_del (ts:List TK)(d id:Nat):Fb (GV ts d) id=if id=d then none else Fb ts id:=by
 unfold Fb GV
 induction ts with
 | nil=>simp
 | cons a r ih=>
  by_cases ha:a.id=d
  ·exact M131
  ·rw [List.filter_cons_of_pos (by simpa using ha)]
   by_cases e:a.id=id
   ·exact M109
   ·exact M196
theorem M203 (h:p:=by
 rw[List.find?_append,List.find?_cons_of_neg (by simp;exact fun h=>e h.symm)]
 simp):p:=h
theorem LK {ts:List TK}{t:TK}(h:Fb ts t.id=none)(id:Nat):Fb (ts++ [t]) id=if id=t.id then some t else Fb ts id:=by
 by_cases e:id=t.id
 ·subst e
  unfold Fb at h ⊢
  rw[List.find?_append,h,if_pos rfl];simp
 ·rw [if_neg e]
  unfold Fb
  exact M203
theorem mget_del (ts:List (Nat×Nat))(d id:Nat):FR (Om ts d) id=if id=d then none else FR ts id:=by
 unfold FR Om
 induction ts with
 | nil=>simp
 | cons a r ih=>
  by_cases ha:a.1=d
  ·exact M131
  ·rw [List.filter_cons_of_pos (by simpa using ha)]
   by_cases e:a.1=id
   ·exact M109
   ·exact M196
theorem Nr {ts:List (Nat×Nat)}{t:Nat×Nat}(h:FR ts t.1=none)(id:Nat):FR (ts++ [t]) id=if id=t.1 then some t else FR ts id:=by
 by_cases e:id=t.1
 ·subst e
  unfold FR at h ⊢
  rw[List.find?_append,h,if_pos rfl];simp
 ·rw [if_neg e]
  unfold FR
  exact M203
variable {V V' : World} {b n : Nat} {ts : List TK} {l : List (Nat × Nat)} {ks : List ByteArray}
theorem TMap.keep (h:TMap w V b n ts)(hk:w'.heap[b]?=w.heap[b]?)(hl:Leads V V'):TMap w' V' b n ts:=by
 obtain⟨D,h1,h2⟩:=h
 refine⟨D,DW h1 hk,fun id hid=> ?_⟩
 obtain⟨o,h3,h4⟩:=h2 id hid
 refine⟨o,h3,?_⟩
 cases ht:Fb ts id with
 | none=>
  rw[ht] at h4
  cases o with
  | none=>trivial
  | some x=>exact h4.elim
 | some t=>
  rw[ht] at h4
  cases o with
  | none=>exact h4
  | some x=>exact TRep.leads h4 hl
theorem M149 (h:p:=by
 obtain⟨D,h1,h2⟩:=h
 exact⟨D,DW h1 hk,h2⟩):p:=h
theorem MMap.keep (h:MMap w b n l)(hk:w'.heap[b]?=w.heap[b]?):MMap w' b n l:=by
 exact M149
theorem KMap.keep (h:KMap w b n ks)(hk:w'.heap[b]?=w.heap[b]?):KMap w' b n ks:=by
 exact M149
theorem TMap.mono (h:TMap w V b n ts){n':Nat}(hn:n<=n'):TMap w V b n' ts:=let ⟨D,h1,h2⟩:=h;⟨D,h1.mono hn,h2⟩
theorem MMap.mono (h:MMap w b n l){n':Nat}(hn:n<=n'):MMap w b n' l:=let ⟨D,h1,h2⟩:=h;⟨D,h1.mono hn,h2⟩
theorem KMap.mono (h:KMap w b n ks){n':Nat}(hn:n<=n'):KMap w b n' ks:=let ⟨D,h1,h2⟩:=h;⟨D,h1.mono hn,h2⟩
theorem TMap.lt (h:TMap w V b n ts):b<w.heap.size:=let ⟨_,h1,_⟩:=h;h1.lt
theorem MMap.lt (h:MMap w b n l):b<w.heap.size:=let ⟨_,h1,_⟩:=h;h1.lt
theorem KMap.lt (h:KMap w b n ks):b<w.heap.size:=let ⟨_,h1,_⟩:=h;h1.lt
theorem TMap.made (w V:World):TMap (w.alloc (.map #[] 0)) V w.heap.size 0 []:=⟨.map [],World.ownsMap_made _ _ _ _,fun id _=>⟨none,At.empty _,trivial⟩⟩
theorem MMap.made (w:World):MMap (w.alloc (.map #[] 0)) w.heap.size 0 []:=⟨.map [],World.ownsMap_made _ _ _ _,fun id _=>At.empty _⟩
theorem hasK_nil (s:ByteArray):OG [] s=false:=by simp[OG]
theorem KMap.made (w:World):KMap (w.alloc (.map #[] 0)) w.heap.size 0 []:=⟨.map [],World.ownsMap_made _ _ _ _,fun s _=>by rw[hasK_nil];exact At.empty _⟩
theorem TMap.look (h:TMap w V b n ts)(id:Nat)(hid:id<18446744073709551616) :
  (Fb ts id=none/\∀W:World,W.heap[b]?=w.heap[b]?->(Instr.lookup 119 (.map (some b)) (.int .u64 (id:Nat)) true).run Tryz.prog W= .ok (.tuple #[XR,.bool false]) W)\/
  ∃t x,Fb ts id=some t/\TRep V t x/\∀W:World,W.heap[b]?=w.heap[b]?->(Instr.lookup 119 (.map (some b)) (.int .u64 (id:Nat)) true).run Tryz.prog W= .ok (.tuple #[x,.bool true]) W:=by
 obtain⟨D,h1,h2⟩:=h
 obtain⟨o,h3,h4⟩:=h2 id hid
 have hr:=fun(W:World) (hW:W.heap[b]?=w.heap[b]?)=>look2 (DW h1 hW) Fe Tryz.underlying119 (Lt W) (PG id hid) h3
 cases ht:Fb ts id with
 | none=>
  rw[ht] at h4
  cases o with
  | none=>exact .inl ⟨rfl,hr⟩
  | some x=>exact h4.elim
 | some t=>
  rw[ht] at h4
  cases o with
  | none=>exact h4.elim
  | some x=>exact .inr ⟨t,x,rfl,h4,hr⟩
theorem TMap.any (h:TMap w V b n ts)(id:Nat)(hid:id<18446744073709551616) :
  ∃(yi:Nat) (yn:ByteArray) (yk yv:Int) (yf:Nat) (ys:ByteArray) (yA:Option Addr) (ym yc:Nat) (yN:Int) (yb:Bool) (ya:Nat) (okb:Bool),∀W:World,W.heap[b]?=w.heap[b]?->
   (Instr.lookup 119 (.map (some b)) (.int .u64 (id:Nat)) true).run Tryz.prog W= .ok (.tuple #[.agg #[.int .u64 (yi:Nat),.string yn,.int .i64 yk,.int .i64 yv,.float .f64 yf,.string ys,.slice yA ym yc,.int .i64 yN,.bool yb,.int .u64 (ya:Nat)],.bool okb]) W:=by
 rcases h.look id hid with ⟨-,hr⟩|⟨t,x,-,⟨lo,hi,k,n,f,s,A,m,c,rfl,-⟩,hr⟩
 ·exact⟨0,_,_,_,_,_,_,_,_,_,_,0,_,hr⟩
 ·exact⟨_,_,_,_,_,_,_,_,_,_,_,_,_,hr⟩
theorem TMap.put (h:TMap w V b n ts)(hn:n<maxLen){t:TK}{x:Value}(hx:TRep V t x){ts':List TK}(he:∀id,Fb ts' id=if id=t.id then some t else Fb ts id) :
  ∃w',(Instr.mapUpdate 119 (.map (some b)) (.int .u64 (t.id:Nat)) x).run Tryz.prog w= .ok () w'/\TMap w' V b (n+1) ts'/\w.mapTurned w' b:=by
 obtain⟨D,h1,h2⟩:=h
 have hi:t.id<18446744073709551616:=by obtain⟨_,_,_,_,_,_,_,_,_,_,q,_⟩:=hx;exact q.i1
 obtain⟨w',hr,own,turn⟩:=h1.store Fe Tryz.underlying119 hn (PG t.id hi) (d:= .held x) (ps:=[]) rfl
 refine⟨w',hr,⟨_,own,fun id hid=> ?_⟩,turn⟩
 rw[he]
 by_cases e:id=t.id
 ·subst e
  rw[if_pos rfl]
  exact⟨some x,At.put h1.isMap (isKey _) x,hx⟩
 ·rw [if_neg e]
  obtain⟨o,h3,h4⟩:=h2 id hid
  exact⟨o,At.put_other h3 (Ub e) x,h4⟩
theorem TMap.raw (h:TMap w V b n ts)(hn:n<maxLen)(id:Nat)(hid:id<18446744073709551616)(x:Value) :
  ∃w',(Instr.mapUpdate 119 (.map (some b)) (.int .u64 (id:Nat)) x).run Tryz.prog w= .ok () w'/\w.mapTurned w' b:=by
 obtain⟨D,h1,h2⟩:=h
 obtain⟨w',hr,own,turn⟩:=h1.store Fe Tryz.underlying119 hn (PG id hid) (d:= .held x) (ps:=[]) rfl
 exact⟨w',hr,turn⟩
theorem TMap.drop (h:TMap w V b n ts)(id:Nat)(hid:id<18446744073709551616)(ty:TypeId) :
  ∃w',(Builtin.delete_ #[119,23] ty #[.map (some b),.int .u64 (id:Nat)]).run Tryz.prog w= .ok (.tuple #[]) w'/\TMap w' V b n (GV ts id)/\w.mapTurned w' b:=by
 obtain⟨D,h1,h2⟩:=h
 obtain⟨w',hr,own,turn⟩:=h1.drop Fe Tryz.underlying119 (PG id hid) ty
 refine⟨w',hr,⟨_,own,fun i hi=> ?_⟩,turn⟩
 rw[tget_del]
 by_cases e:i=id
 ·subst e
  rw[if_pos rfl]
  exact⟨none,At.del _ _,trivial⟩
 ·rw [if_neg e]
  obtain⟨o,h3,h4⟩:=h2 i hi
  exact⟨o,At.del_other h3 (Ub e),h4⟩
theorem TMap.clear (h:TMap w V b n ts)(ty:TypeId) :
  ∃w',(Builtin.clear_ #[119] ty #[.map (some b)]).run Tryz.prog w= .ok (.tuple #[]) w'/\TMap w' V b 0 []/\w.mapTurned w' b:=by
 obtain⟨D,h1,h2⟩:=h
 obtain⟨w',hr,own,turn⟩:=Py h1 Tryz.underlying119 ty
 exact⟨w',hr,⟨_,own,fun i hi=>⟨none,At.empty _,trivial⟩⟩,turn⟩
theorem MMap.any (h:MMap w b n l)(id:Nat)(hid:id<18446744073709551616) :
  ∃(xi xa:Nat) (is:Bool),(∀W:World,W.heap[b]?=w.heap[b]?->(Instr.lookup 120 (.map (some b)) (.int .u64 (id:Nat)) true).run Tryz.prog W= .ok (.tuple #[.agg #[.int .u64 (xi:Nat),.int .u64 (xa:Nat)],.bool is]) W)/\
   ((is=false/\FR l id=none)\/(is=true/\FR l id=some (xi,xa))):=by
 obtain⟨D,h1,h2⟩:=h
 have hr:=fun(W:World) (hW:W.heap[b]?=w.heap[b]?)=>look2 (DW h1 hW) Fe Tryz.underlying120 (Jw W) (PG id hid) (h2 id hid)
 cases ht:FR l id with
 | none=>rw[ht] at hr;exact⟨0,0,false,hr,.inl ⟨rfl,rfl⟩⟩
 | some t=>rw[ht] at hr;exact⟨t.1,t.2,true,hr,.inr ⟨rfl,rfl⟩⟩
theorem MMap.put (h:MMap w b n l)(hn:n<maxLen)(x:Nat×Nat)(hi:x.1<18446744073709551616){l':List (Nat×Nat)}(he:∀id,FR l' id=if id=x.1 then some x else FR l id) :
  ∃w',(Instr.mapUpdate 120 (.map (some b)) (.int .u64 (x.1:Nat)) (FO x)).run Tryz.prog w= .ok () w'/\MMap w' b (n+1) l'/\w.mapTurned w' b:=by
 obtain⟨D,h1,h2⟩:=h
 obtain⟨w',hr,own,turn⟩:=h1.store Fe Tryz.underlying120 hn (PG x.1 hi) (d:= .held (FO x)) (ps:=[]) rfl
 refine⟨w',hr,⟨_,own,fun id hid=> ?_⟩,turn⟩
 rw[he]
 by_cases e:id=x.1
 ·subst e
  rw[if_pos rfl]
  exact At.put h1.isMap (isKey _) _
 ·rw [if_neg e]
  exact At.put_other (h2 id hid) (Ub e) _
theorem MMap.drop (h:MMap w b n l)(id:Nat)(hid:id<18446744073709551616)(ty:TypeId) :
  ∃w',(Builtin.delete_ #[120,23] ty #[.map (some b),.int .u64 (id:Nat)]).run Tryz.prog w= .ok (.tuple #[]) w'/\MMap w' b n (Om l id)/\w.mapTurned w' b:=by
 obtain⟨D,h1,h2⟩:=h
 obtain⟨w',hr,own,turn⟩:=h1.drop Fe Tryz.underlying120 (PG id hid) ty
 refine⟨w',hr,⟨_,own,fun i hi=> ?_⟩,turn⟩
 rw[mget_del]
 by_cases e:i=id
 ·subst e
  rw[if_pos rfl]
  exact At.del _ _
 ·rw [if_neg e]
  exact At.del_other (h2 i hi) (Ub e)
theorem MMap.clear (h:MMap w b n l)(ty:TypeId) :
  ∃w',(Builtin.clear_ #[120] ty #[.map (some b)]).run Tryz.prog w= .ok (.tuple #[]) w'/\MMap w' b 0 []/\w.mapTurned w' b:=by
 obtain⟨D,h1,h2⟩:=h
 obtain⟨w',hr,own,turn⟩:=Py h1 Tryz.underlying120 ty
 exact⟨w',hr,⟨_,own,fun i hi=>At.empty _⟩,turn⟩
theorem KMap.look (h:KMap w b n ks)(s:ByteArray)(hs:s.size<=maxLen) :
  (Instr.lookup 121 (.map (some b)) (.string s) false).run Tryz.prog w= .ok (.bool (OG ks s)) w:=by
 obtain⟨D,h1,h2⟩:=h
 have hr:=look1 h1 FH Tryz.underlying121 (Lu w) (Gv s hs) (h2 s hs)
 rw[hr]
 cases OG ks s<;>rfl
theorem Uf {s s':ByteArray}(h:s'≠s):Lit.string s'.data.toList≠Lit.string s.data.toList:=fun e=>h (by
 injection e with e
 exact ByteArray.ext (Array.ext' e))
theorem VR (ks:List ByteArray)(s s':ByteArray):OG (ks++ [s]) s'=(OG ks s'||(decide (s'.size≠0)&&decide (s=s'))):=by
 unfold OG
 rw[List.any_append]
 cases decide (s'.size≠0)<;>simp
theorem KMap.put (h:KMap w b n ks)(hn:n<maxLen)(s:ByteArray)(hs:s.size<=maxLen)(h0:s.size≠0) :
  ∃w',(Instr.mapUpdate 121 (.map (some b)) (.string s) (.bool true)).run Tryz.prog w= .ok () w'/\KMap w' b (n+1) (ks++ [s])/\w.mapTurned w' b:=by
 obtain⟨D,h1,h2⟩:=h
 obtain⟨w',hr,own,turn⟩:=h1.store FH Tryz.underlying121 hn (Gv s hs) (d:= .held (.bool true)) (ps:=[]) rfl
 refine⟨w',hr,⟨_,own,fun s' hs'=> ?_⟩,turn⟩
 rw[VR]
 by_cases e:s'=s
 ·subst e
  rw[if_pos (by simp[h0])]
  exact At.put h1.isMap (show WideAt.IsKeyLit (Lit.string s'.data.toList) from trivial) _
 ·rw [decide_eq_false (fun q => e q.symm : ¬ s = s'), Bool.and_false, Bool.or_false]
  exact At.put_other (h2 s' hs') (Uf e) _
theorem KMap.same (h:KMap w b n ks)(s:ByteArray)(h0:s.size=0):KMap w b n (ks++ [s]):=by
 obtain⟨D,h1,h2⟩:=h
 refine⟨D,h1,fun s' hs'=> ?_⟩
 have:OG (ks++ [s]) s'=OG ks s':=by
  rw[VR]
  by_cases e:s=s'
  ·subst e;simp[h0]
  ·simp[e]
 rw[this]
 exact h2 s' hs'
section
variable {n : Nat}
structure Maps3 (w V : World) (bt bm bk n : Nat) (s : ST) : Prop where
 tasks:TMap w V bt n s.tasks
 timers:MMap w bm n s.timers
 keys:KMap w bk n s.keys
theorem Maps3.later {bt bm bk:Nat}{s:ST}(h:Maps3 w V bt bm bk n s)(hb:Below w.heap.size w w')(hl:Leads V V'):Maps3 w' V' bt bm bk n s:=
 ⟨h.tasks.keep (hb.block _ h.tasks.lt) hl,h.timers.keep (hb.block _ h.timers.lt),h.keys.keep (hb.block _ h.keys.lt)⟩
def stC (bt bm bk next:Nat)(closed:Int):Array Value:= #[.map (some bt),.map (some bm),.map (some bk),.int .u64 (next:Nat),.int .i64 closed]
theorem DE {W:World}{g:Nat}{bt bm bk next:Nat}{closed:Int}(h:W.heap[g]?=some (.cells (stC bt bm bk next closed) 123 (0,0))) :
  W.cell? ⟨g,0,none⟩=some (.map (some bt))/\W.cell? ⟨g,1,none⟩=some (.map (some bm))/\W.cell? ⟨g,2,none⟩=some (.map (some bk))/\W.cell? ⟨g,3,none⟩=some (.int .u64 (next:Nat))/\W.cell? ⟨g,4,none⟩=some (.int .i64 closed)/\
  W.frozen? ⟨g,0,none⟩=false/\W.frozen? ⟨g,1,none⟩=false/\W.frozen? ⟨g,2,none⟩=false/\W.frozen? ⟨g,3,none⟩=false/\W.frozen? ⟨g,4,none⟩=false:=by
 simp[World.cell?,World.frozen?,h,stC]
end
end Hi
end Go.Proofs.YtaahfiopdoinkaaGreat
namespace Go.Proofs.YtaahfiopdoinkaaGreat
namespace Cn
open Nm (Di Dk De)
open Vt (VT Rep BoxAt Da DX DY KidsAt Fy)
open Ev (EV Dj Db Dn EBox SJ zeroT take_drop tk ap rd1 rd2 Dh)
open Cm (rowOf EvsIn EvsAt EvNew FU Gr)
def ECell (w:World)(ro:Option Nat)(xs:List Value)(i:Nat)(e:EV):Prop:=∃lo hi vk vn vf vs A m c,Dj e/\Rep w lo hi e.v (Dn vk vn vf vs A m c)/\hi<=w.heap.size/\(∀r,ro=some r->r<lo\/hi<=r)/\
 ∀j,j<11->xs[i*11+j]?=(Db e vk vn vf vs A m c)[j]?
def ERow (w:World)(base:Nat)(A:Option Addr)(cap n:Nat)(es:List EV):Prop:=es.length=n/\∃xs,w.ownsRow base 61 11 (.slice A n cap) n xs/\∀i (h:i<es.length),ECell w (rowOf A) xs i es[i]
theorem ECell.keep {w w':World}{ro:Option Nat}{xs:List Value}{i:Nat}{e:EV}(h:ECell w ro xs i e)(hz:w.heap.size<=w'.heap.size)(ho:∀b,b<w.heap.size->some b≠ro->w'.heap[b]?=w.heap[b]?):ECell w' ro xs i e:=by
 obtain⟨lo,hi,vk,vn,vf,vs,A,m,c,h1,h2,h3,h5,h6⟩:=h
 refine⟨lo,hi,vk,vn,vf,vs,A,m,c,h1,h2.keep fun b o hb1 hb2=> ?_,Nat.le_trans h3 hz,h5,h6⟩
 exact World.cell?_of_block (a:=⟨b,o,none⟩) (ho b (by omega) (fun e=>by have:=h5 b e.symm;omega))
theorem GF {w w':World}{base n:Nat}{T:TypeId}{s:Nat}{v:Value}{xs:List Value}(h:w.ownsRow base T s v n xs)(hb:Below w.heap.size w w'):w'.ownsRow base T s v n xs:=by
 refine⟨h.1,?_⟩
 rcases h.2 with h|⟨r,cp,cur,q1,q2,q3,q4⟩
 ·exact .inl h
 ·exact .inr ⟨r,cp,cur,q1,q2,(hb.block r (Array.getElem?_eq_some_iff.1 q3).1).trans q3,q4⟩
theorem own_lt {w:World}{base n cap:Nat}{T:TypeId}{s:Nat}{A:Option Addr}{xs:List Value}(h:w.ownsRow base T s (.slice A n cap) n xs):∀r,rowOf A=some r->r<w.heap.size/\base<=r:=fun r hr=>by
 rcases h.2 with ⟨h2,-⟩|⟨r',cp,cur,q1,q0,q3,-⟩
 ·rw[<-Cm.Fa A n cap,h2] at hr;cases hr
 ·rw [<- Cm.Fa A n cap, q1] at hr
  obtain rfl:r'=r:=Option.some.inj hr
  exact⟨(Array.getElem?_eq_some_iff.1 q3).1,q0⟩
theorem ERow.later {w w':World}{base:Nat}{A:Option Addr}{cap n:Nat}{es:List EV}(h:ERow w base A cap n es)(hb:Below w.heap.size w w'):ERow w' base A cap n es:=by
 obtain⟨h0,xs,h1,h3⟩:=h
 exact⟨h0,xs,GF h1 hb,fun i hi=>(h3 i hi).keep hb.size (fun b hlt _=>hb.block b hlt)⟩
def BB (w:World)(g:Nat)(f:ByteArray)(at':Nat)(A:Option Addr)(n c:Nat):Prop:=w.heap[g]?=some (.cells #[.string f,.int .u64 at',.slice A n c] 64 (0,0))
theorem BB.cells {w:World}{g:Nat}{f:ByteArray}{at':Nat}{A:Option Addr}{n c:Nat}(h:BB w g f at' A n c) :
  w.cell? ⟨g,0,none⟩=some (.string f)/\w.cell? ⟨g,1,none⟩=some (.int .u64 at')/\w.cell? ⟨g,2,none⟩=some (.slice A n c)/\∀o,w.frozen? ⟨g,o,none⟩=false:=by
 unfold BB at h;simp[World.cell?,World.frozen?,h]
theorem BB.later {w w':World}{g B:Nat}{f:ByteArray}{at':Nat}{A:Option Addr}{n c:Nat}(h:BB w g f at' A n c)(hb:Below B w w')(hg:g<B):BB w' g f at' A n c:=(hb.block g hg).trans h
theorem BB.lt {w:World}{g:Nat}{f:ByteArray}{at':Nat}{A:Option Addr}{n c:Nat}(h:BB w g f at' A n c):g<w.heap.size:=(Array.getElem?_eq_some_iff.1 h).1
theorem BB.new (w:World)(f:ByteArray)(at':Nat)(A:Option Addr)(n c:Nat):BB (w.alloc (.cells #[.string f,.int .u64 at',.slice A n c] 64)) w.heap.size f at' A n c:=heap_alloc_new w _
theorem BB.set {w:World}{g:Nat}{f:ByteArray}{at':Nat}{A A2:Option Addr}{n c n2 c2:Nat}(h:BB w g f at' A n c):BB (w.setCell ⟨g,2,none⟩ (.slice A2 n2 c2)) g f at' A2 n2 c2:=by
 unfold BB at h ⊢;simp[World.setCell,Array.getElem?_modify,h]
theorem BB.far {w:World}{g b o:Nat}{f:ByteArray}{at':Nat}{A:Option Addr}{n c:Nat}(h:BB w g f at' A n c)(hb:b≠g)(v:Value):BB (w.setCell ⟨b,o,none⟩ v) g f at' A n c:=
 (Below.heap_setCell w ⟨b,o,none⟩ v g (fun e=>hb e.symm)).trans h
theorem Kn (e:EV)(vk vn:Int)(vf:Nat)(vs:ByteArray)(A:Option Addr)(m c:Nat):∀u∈(Db e vk vn vf vs A m c).toList,u.oneCell'=true:=Cm.Kn e vk vn vf vs A m c
theorem GS {w:World}{base:Nat}{A:Option Addr}{cap n:Nat}{es:List EV}(h:EvsAt w base A cap n es){p:Addr}(hp:p.block<base)(v:Value):EvsAt (w.setCell p v) base A cap n es:=by
 obtain⟨h0,xs,h1,h3⟩:=h
 have hb:∀b,base<=b->(w.setCell p v).heap[b]?=w.heap[b]?:=fun b hb=>Below.heap_setCell _ _ _ b (by omega)
 refine⟨h0,xs,⟨h1.1,?_⟩,fun i hi=> ?_⟩
 ·exact M175
 ·obtain ⟨lo, hi', vk, vn, vf, vs, A, m, c, h0, h1, h2, h3, h5, hfr, h6⟩ := h3 i hi
  have hin:=Cm.Pp h2
  exact⟨lo,hi',vk,vn,vf,vs,A,m,c,h0,h1,h2.setCell (.inl (by omega)) v,by simpa[World.setCell] using h3,h5,fun hp b off hA o=>(Cm.DO (hb b (by have:=hin hp b off hA;omega)) o).trans (hfr hp b off hA o),h6⟩
theorem evs_base {w:World}{base base':Nat}{A:Option Addr}{cap n:Nat}{es:List EV}(h:EvsAt w base A cap n es)(hb:base'<=base):EvsAt w base' A cap n es:=by
 obtain⟨h0,xs,h1,h3⟩:=h
 refine⟨h0,xs,⟨h1.1,?_⟩,fun i hi=> ?_⟩
 ·rcases h1.2 with h | ⟨r, cp, cur, q1, q2, q3, q4⟩
  ·exact .inl h
  ·exact .inr ⟨r,cp,cur,q1,by omega,q3,q4⟩
 ·obtain ⟨lo, hi', vk, vn, vf, vs, A, m, c, h0, h1, h2, h3, h5, hfr, h6⟩ := h3 i hi
  exact⟨lo,hi',vk,vn,vf,vs,A,m,c,by omega,h1,h2,h3,h5,hfr,h6⟩
theorem Gs (w:World)(e:EV)(vk vn:Int)(vf:Nat)(vs:ByteArray)(A:Option Addr)(m c:Nat):EBox (w.alloc (.cells (Db e vk vn vf vs A m c) 61)) w.heap.size (Db e vk vn vf vs A m c):=heap_alloc_new w _
end Cn
namespace Hi
open Nm (Dk De)
open Vt (VT Rep Da DX DY)
open Ev (EV Dj Db Dn EBox take_drop tk ap rd1 rd2 Dh)
open Cm (rowOf EvsIn EvsAt EvNew)
open Cn (BB)
section
variable {P : Program}
theorem JR {k : Nat} (w : World) (dT sT ty elem : TypeId) (g dLen dCap : Nat) (a : Addr) (sLen sCap : Nat) (cur : Array Value) (t : TypeId) (cs : List Value)
  (hu:P.underlying dT=some (.slice elem)) (hs:(P.info? elem).map (·.size)=some k)
  (hg:w.heap[g]?=some (.cells cur t (0,0))) (hn:cs.length=Nat.min sLen dLen*k)
  (hsrc:∀j v,cs[j]?=some v->w.cell? (a.add j)=some v) (hfit:cs.length<=cur.size) (h1:∀v∈cs,v.oneCell'=true) :
  (Builtin.copy_ #[dT,sT] ty #[.slice (some ⟨g,0,none⟩) dLen dCap,.slice (some a) sLen sCap]).run P w=
   .ok (goInt (Nat.min sLen dLen)) (w.setRow g (cs++cur.toList.drop cs.length).toArray):=by
 have hl:=run_loadCells_list (P:=P) w a cs hsrc
 have hst:=run_storeCells_at P g 0 t cs 0 cur w hg (by simpa using hfit) h1
 simp only[Nat.zero_add,List.take_zero,List.nil_append] at hst
 cases hq:P.info? elem with
 | none=>simp[hq] at hs
 | some i=>
  have hi:i.size=k:=by simpa[hq] using hs
  simp[Builtin.copy_,run_underlying hu,Builtin.lenOf,Builtin.firstCells,sizeOf,typeInfo,hq,hi, <-hn,hl,hst]
end
def Sg (w:World)(b off n:Nat):List Value:=(List.range (n*11)).map fun j=>(w.cell? ⟨b,off+j,none⟩).getD undef
theorem Ps (w:World)(b off n:Nat):(Sg w b off n).length=n*11:=by simp[Sg]
def Src (w:World)(xs:List Value)(i:Nat)(e:EV):Prop:=∃lo hi vk vn vf vs A m c,Dj e/\Rep w lo hi e.v (Dn vk vn vf vs A m c)/\hi<=w.heap.size/\∀q,q<11->xs[i*11+q]?=(Db e vk vn vf vs A m c)[q]?
theorem NF {w:World}{b off cap:Nat}{es:List EV}(h:EvsIn w (some ⟨b,off,none⟩) cap es)(hb:b<w.heap.size):(∀i (h:i<es.length),Src w (Sg w b off es.length) i es[i])/\(∀j v,(Sg w b off es.length)[j]?=some v->w.cell? ((⟨b,off,none⟩:Addr).add j)=some v)/\∀v∈Sg w b off es.length,v.oneCell'=true:=by
 have key:∀i (hi:i<es.length),∃lo hi vk vn vf vs A m c,Dj es[i]/\Rep w lo hi es[i].v (Dn vk vn vf vs A m c)/\hi<=w.heap.size/\∀q,q<11->w.cell? ⟨b,off+i*11+q,none⟩=(Db es[i] vk vn vf vs A m c)[q]?:=fun i hi=>by
  obtain⟨b',off',hA,-,h3⟩:=h.at_ (by omega)
  injection hA with hA
  injection hA with e1 e2 _
  subst e1;subst e2
  exact h3 i hi
 have cell:∀j,j<es.length*11->∃v,w.cell? ⟨b,off+j,none⟩=some v/\v.oneCell'=true:=fun j hj=>by
  obtain⟨lo,hi,vk,vn,vf,vs,A,m,c,-,-,-,h4⟩:=key (j/11) (by omega)
  have h5:=h4 (j%11) (by omega)
  rw[show off+j/11*11+j%11=off+j by omega] at h5
  have hy:∃y,(Db es[j/11] vk vn vf vs A m c)[j%11]?=some y:=⟨_,Array.getElem?_eq_getElem (by simp[Db];omega)⟩
  obtain⟨y,hy⟩:=hy
  refine⟨y,h5.trans hy,Cm.Kn es[j/11] vk vn vf vs A m c y ?_⟩
  exact List.mem_of_getElem? (by rw[Array.getElem?_toList];exact hy)
 have get:∀j,j<es.length*11->(Sg w b off es.length)[j]?=w.cell? ⟨b,off+j,none⟩:=fun j hj=>by
  obtain⟨v,hv,-⟩:=cell j hj
  simp[Sg,hj,hv]
 refine⟨fun i hi=> ?_,fun j v hj=> ?_,fun v hv=> ?_⟩
 ·obtain ⟨lo, hi', vk, vn, vf, vs, A, m, c, h1, h2, h3, h4⟩ := key i hi
  exact⟨lo,hi',vk,vn,vf,vs,A,m,c,h1,h2,h3,fun q hq=>by rw[get _ (by omega), <-h4 q hq];congr 2;omega⟩
 ·have hl : j < es.length * 11 := by rw [<- Ps w b off]; exact (List.getElem?_eq_some_iff.1 hj).1
  rw[get j hl] at hj
  rw[show (⟨b,off,none⟩:Addr).add j=⟨b,off+j,none⟩ from by unfold Addr.add;split<;>simp_all]
  exact hj
 ·obtain ⟨j, hj, rfl⟩ := List.getElem_of_mem hv
  rw[Ps] at hj
  obtain⟨v,h1,h2⟩:=cell j hj
  have:=get j hj
  rw[h1,List.getElem?_eq_getElem (by rw[Ps];exact hj)] at this
  injection this with this
  rw[this];exact h2
theorem DP {w:World}{base r cap n k:Nat}{T:TypeId}{xs:List Value}(h:w.ownsRow base T k (.slice (some ⟨r,0,none⟩) n cap) n xs):(∀p,p<n*k->w.cell? ⟨r,p,none⟩=xs[p]?)/\(∀o,w.frozen? ⟨r,o,none⟩=false)/\r<w.heap.size/\base<=r:=by
 rcases h.2 with ⟨h',_⟩|⟨r',cp,cur,q1,q2,q3,q4,q5,q6,q7⟩
 ·cases h'
 ·injection q1 with q1 _ _
  injection q1 with q1
  injection q1 with q1 _ _
  subst q1
  refine⟨fun p hp=> ?_,fun o=>by simp[World.frozen?,q3],(Array.getElem?_eq_some_iff.1 q3).1,q2⟩
  rw[<-q7,List.getElem?_take_of_lt hp,Array.getElem?_toList]
  simp[World.cell?,q3]
def Half (w0 w:World)(base r n j:Nat)(es:List EV):Prop:=∃xs,w.ownsRow base 61 11 (.slice (some ⟨r,0,none⟩) n n) n xs/\(∀i (h:i<es.length),i<j->EvNew w base (some r) xs i es[i])/\(∀i (h:i<es.length),j<=i->Src w0 xs i es[i])
theorem UA (xs:List Value)(p q:Nat)(d0 d1 d2 d3 d4:Value)(h:q<p\/p+5<=q):(((((xs.set p d0).set (p+1) d1).set (p+2) d2).set (p+3) d3).set (p+4) d4)[q]?=xs[q]?:=by
 rw[List.getElem?_set_ne (by omega),List.getElem?_set_ne (by omega),List.getElem?_set_ne (by omega),List.getElem?_set_ne (by omega),List.getElem?_set_ne (by omega)]
theorem set5_at (xs:List Value)(p:Nat)(d0 d1 d2 d3 d4:Value)(h:p+5<=xs.length)(q:Nat)(hq:q<5):(((((xs.set p d0).set (p+1) d1).set (p+2) d2).set (p+3) d3).set (p+4) d4)[p+q]?=(#[d0,d1,d2,d3,d4])[q]?:=by
 have e:=fun(ys:List Value) (i:Nat) (d:Value) (hi:i<ys.length)=>List.getElem?_set_self (l:=ys) (i:=i) (a:=d) hi
 rcases (by omega:q=0\/q=1\/q=2\/q=3\/q=4) with rfl|rfl|rfl|rfl|rfl
 ·show (((((xs.set p d0).set (p + 1) d1).set (p + 2) d2).set (p + 3) d3).set (p + 4) d4)[p]? = some d0
  rw[List.getElem?_set_ne (by omega),List.getElem?_set_ne (by omega),List.getElem?_set_ne (by omega),List.getElem?_set_ne (by omega),e _ _ _ (by omega)]
 ·rw[List.getElem?_set_ne (by omega),List.getElem?_set_ne (by omega),List.getElem?_set_ne (by omega),e _ _ _ (by simp only[List.length_set];omega)];rfl
 ·rw[List.getElem?_set_ne (by omega),List.getElem?_set_ne (by omega),e _ _ _ (by simp only[List.length_set];omega)];rfl
 ·rw[List.getElem?_set_ne (by omega),e _ _ _ (by simp only[List.length_set];omega)];rfl
 ·rw[e _ _ _ (by simp only[List.length_set];omega)];rfl
theorem Half.step {w0 w W w' : World} {base r n j : Nat} {es : List EV} (h : Half w0 w base r n j es) (hn : es.length = n) (hj : j < es.length) (hb : Below w.heap.size w W) (hb2 : Below W.heap.size W w')
  {k m:Int} {f:Nat} {s:ByteArray} {A:Option Addr} {l c:Nat} (hr:Rep w' W.heap.size w'.heap.size es[j].v (Dn k m f s A l c))
  (hfr:0<es[j].v.l.length->∀b off,A=some ⟨b,off,none⟩->∀o,w'.frozen? ⟨b,o,none⟩=false) (hf:Dj es[j]) :
  Half w0 (DY w' r (j*11+6) (.int .i64 k) (.int .i64 m) (.float .f64 f) (.string s) (.slice A l c)) base r n (j+1) es:=by
 obtain⟨xs,h1,h2,h3⟩:=h
 have hrlt:=(DP h1).2.2.1
 have hbase:=(DP h1).2.2.2
 have hlen:xs.length=n*11:=h1.1
 have o1:=Cn.GF h1 (hb.trans (hb2.mono hb.size))
 have o2:=(((((o1.stored (j*11+6) (.int .i64 k)).1.stored (j*11+6+1) (.int .i64 m)).1.stored (j*11+6+2) (.float .f64 f)).1.stored (j*11+6+3) (.string s)).1.stored (j*11+6+4) (.slice A l c)).1
 have hoth:∀i q,i≠j->q<11->(((((xs.set (j*11+6) (.int .i64 k)).set (j*11+6+1) (.int .i64 m)).set (j*11+6+2) (.float .f64 f)).set (j*11+6+3) (.string s)).set (j*11+6+4) (.slice A l c))[i*11+q]?=xs[i*11+q]?:=fun i q hi hq=>UA _ _ _ _ _ _ _ _ (by rcases Nat.lt_or_gt_of_ne hi with z|z<;>omega)
 have hblk:∀b,b≠r->(DY w' r (j*11+6) (.int .i64 k) (.int .i64 m) (.float .f64 f) (.string s) (.slice A l c)).heap[b]?=w'.heap[b]?:=fun b hb=>Vt.OC _ _ _ _ _ _ _ _ b hb
 refine⟨_,o2,fun i hi hij=> ?_,fun i hi hij=> ?_⟩
 ·by_cases e : i = j
  ·subst e
   obtain⟨lo,hi2,vk,vn,vf,vs,A',m',c',q1,q2,q3,q4⟩:=h3 i hi (Nat.le_refl _)
   refine⟨W.heap.size,w'.heap.size,k,m,f,s,A,l,c,by have:=hb.size;omega,hf,hr.keep fun b o z1 z2=>World.cell?_of_block (a:=⟨b,o,none⟩) (hblk b (by have:=hb.size;omega)),by rw[Vt.FJ];exact Nat.le_refl _,fun r' hr'=> .inl (by injection hr' with hr';have:=hb.size;omega),fun hp b off hA o=> ?_,fun q hq=> ?_⟩
   ·have hin := Cm.Pp hr hp b off hA
    exact(Cm.DO (hblk b (by have:=hb.size;omega)) o).trans (hfr hp b off hA o)
   ·rcases Nat.lt_or_ge q 6 with z | z
    ·rw [UA _ _ _ _ _ _ _ _ (by omega), q4 q hq]
     rcases (by omega:q=0\/q=1\/q=2\/q=3\/q=4\/q=5) with rfl|rfl|rfl|rfl|rfl|rfl<;>rfl
    ·have e6 := set5_at xs (i * 11 + 6) (.int .i64 k) (.int .i64 m) (.float .f64 f) (.string s) (.slice A l c) (by omega) (q - 6) (by omega)
     rw[show i*11+6+(q-6)=i*11+q by omega] at e6
     rw[e6]
     rcases (by omega:q=6\/q=7\/q=8\/q=9\/q=10) with rfl|rfl|rfl|rfl|rfl<;>rfl
  ·obtain ⟨lo, hi2, vk, vn, vf, vs, A', m', c', q0, q1, q2, q3, q5, qf, q6⟩ := h2 i hi (by omega)
   have q5':=q5 r rfl
   have hk:∀b,lo<=b->b<hi2->(DY w' r (j*11+6) (.int .i64 k) (.int .i64 m) (.float .f64 f) (.string s) (.slice A l c)).heap[b]?=w.heap[b]?:=fun b z1 z2=>
    (hblk b (by omega)).trans ((hb2.block b (by have:=hb.size;omega)).trans (hb.block b (by omega)))
   refine⟨lo,hi2,vk,vn,vf,vs,A',m',c',q0,q1,q2.keep fun b o z1 z2=>World.cell?_of_block (a:=⟨b,o,none⟩) (hk b z1 z2),by rw[Vt.FJ];have:=hb.size;have:=hb2.size;omega,q5,fun hp b off hA o=> ?_,fun q hq=>(hoth i q e hq).trans (q6 q hq)⟩
   have hin:=Cm.Pp q2 hp b off hA
   exact(Cm.DO (hk b hin.1 hin.2) o).trans (qf hp b off hA o)
 ·obtain ⟨lo, hi2, vk, vn, vf, vs, A', m', c', q1, q2, q3, q4⟩ := h3 i hi (by omega)
  exact⟨lo,hi2,vk,vn,vf,vs,A',m',c',q1,q2,q3,fun q hq=>(hoth i q (by omega) hq).trans (q4 q hq)⟩
theorem Half.later {w0 w w':World}{base r n j:Nat}{es:List EV}(h:Half w0 w base r n j es)(hb:Below w.heap.size w w'):Half w0 w' base r n j es:=by
 obtain⟨xs,h1,h2,h3⟩:=h
 refine⟨xs,Cn.GF h1 hb,fun i hi hij=> ?_,h3⟩
 obtain⟨lo,hi2,vk,vn,vf,vs,A',m',c',q0,q1,q2,q3,q5,qf,q6⟩:=h2 i hi hij
 refine⟨lo,hi2,vk,vn,vf,vs,A',m',c',q0,q1,q2.later (hb.mono q3),Nat.le_trans q3 hb.size,q5,fun hp b off hA o=> ?_,q6⟩
 have hin:=Cm.Pp q2 hp b off hA
 exact(Cm.DO (hb.block b (by omega)) o).trans (qf hp b off hA o)
theorem Half.get {w0 w:World}{base r n j:Nat}{es:List EV}(h:Half w0 w base r n j es)(hn:es.length=n)(hj:j<es.length):∃lo hi vk vn vf vs A m c,Dj es[j]/\Rep w0 lo hi es[j].v (Dn vk vn vf vs A m c)/\hi<=w0.heap.size/\r<w.heap.size/\base<=r/\(∀o,w.frozen? ⟨r,o,none⟩=false)/\∀q,q<11->w.cell? ⟨r,j*11+q,none⟩=(Db es[j] vk vn vf vs A m c)[q]?:=by
 obtain⟨xs,h1,h2,h3⟩:=h
 obtain⟨c1,c2,c3,c4⟩:=DP h1
 obtain⟨lo,hi2,vk,vn,vf,vs,A',m',c',q1,q2,q3,q4⟩:=h3 j hj (Nat.le_refl _)
 exact⟨lo,hi2,vk,vn,vf,vs,A',m',c',q1,q2,q3,c3,c4,c2,fun q hq=>(c1 _ (by omega)).trans (q4 q hq)⟩
theorem Half.done {w0 w:World}{base r n:Nat}{es:List EV}(h:Half w0 w base r n n es)(hn:es.length=n):EvsAt w base (some ⟨r,0,none⟩) n n es:=by
 obtain⟨xs,h1,h2,-⟩:=h
 exact⟨hn,xs,h1,fun i hi=>h2 i hi (by omega)⟩
theorem M114 (h:p:=by
 rw[World.size_alloc] at e
 exact e):p:=h
theorem M147 (h:p:=by
 rw[<-hW5]
 replace hW5:=Lib.hid hW5
 go_wp2_with fail
 go_roundw
 case rel=>exact⟨j+1,by omega,by go_num,HST.out,HB5.out⟩
 case measure=>simp[intOf];omega):p:=h
theorem YS (es:List EV)(hpos:0<es.length)(hl40:es.length<=1099511627776)(hS:∀i (h:i<es.length),es[i].v.Slim 900)(f:ByteArray)(at':Nat)(A:Option Addr)(cap:Nat)(w:World)(h:EvsIn w A cap es) :
  Calls Tryz.prog 67 #[.agg #[.string f,.int .u64 at',.slice A es.length cap]] w fun r w'=>∃A2 cap2,r= .returned (.agg #[.string f,.int .u64 at',.slice A2 es.length cap2])/\Below w.heap.size w w'/\EvsAt w' w.heap.size A2 cap2 es.length es:=by
 obtain⟨n,hn⟩:∃n,n=es.length:=⟨_,rfl⟩
 have hl:=h.le
 have hc:=h.cap_le
 simp only[maxLen] at hc
 rw[<-hn] at hl hpos hl40
 rw[<-hn]
 obtain⟨i0,hi0,hz0,hz1,hz2⟩:=info_parts Cm.Tryz.infoE
 obtain⟨W0,hW0⟩:∃W0,W0=(w.alloc (.cells #[.string f,.int .u64 at',.slice A n cap] 64)).alloc (.cells #[.string ⟨#[]⟩,.int .u64 0,.slice none 0 0] 64):=⟨_,rfl⟩
 have hx0:BB W0 w.heap.size f at' A n cap:=by
  rw[hW0];exact(heap_alloc_old _ _ (by simp)).trans (heap_alloc_new w _)
 have hx1:BB W0 (w.heap.size+1) ⟨#[]⟩ 0 none 0 0:=by
  rw[hW0]
  have e:=heap_alloc_new (w.alloc (.cells #[.string f,.int .u64 at',.slice A n cap] 64)) (.cells #[.string ⟨#[]⟩,.int .u64 (0:Nat),.slice none 0 0] 64)
  exact M114
 have hbw:Below w.heap.size w W0:=by rw[hW0];exact(((Below.refl _ _).alloc (Nat.le_refl _) _).alloc (by simp) _)
 have hz0':W0.heap.size=w.heap.size+1+1:=by rw[hW0];simp
 obtain⟨b,off,rfl,hblt,-⟩:=h.at_ (by omega)
 obtain⟨hsrc,hread,hone⟩:=NF (h.later hbw) (Nat.lt_of_lt_of_le hblt hbw.size)
 have hkl:(Sg W0 b off es.length).length=n*11:=by rw[hn];exact Ps ..
 obtain⟨xs,hxs⟩:∃xs,xs=Sg W0 b off es.length:=⟨_,rfl⟩
 rw[<-hxs] at hsrc hread hone hkl
 obtain⟨W1,hmk,hown,hgrow⟩:=run_make_full (P:=Tryz.prog) W0 W0.heap.size 62 61 i0 _ 11 Tryz.underlying62 hi0 hz0 hz1 .i64 .i64 n (by rw[hz2];omega) (by simp only[maxLen];omega) (Nat.le_refl _)
 obtain⟨hml,hmr⟩:=hown
 rcases hmr with ⟨q,-⟩|⟨r',cp,cur,q1,q2,q3,q4,q5,q6,q7⟩
 ·cases q
 injection q1 with q1 _ q1'
 injection q1 with q1
 injection q1 with q1 _ _
 subst q1;subst q1'
 have hb1:Below W0.heap.size W0 W1:=⟨hgrow.os,hgrow.tape,hgrow.output,hgrow.size,fun b hb=>hgrow.block b hb (by simp)⟩
 obtain⟨W2,hW2⟩:∃W2,W2=W1.setRow W0.heap.size (xs++cur.toList.drop xs.length).toArray:=⟨_,rfl⟩
 have hdr:xs++cur.toList.drop xs.length=xs:=by rw[List.drop_eq_nil_of_le (by rw[hkl];simp[q6]),List.append_nil]
 have hb2:Below W0.heap.size W0 W2:=by rw[hW2];exact below_setRow hb1 (Nat.le_refl _) _
 have hown2:W2.ownsRow W0.heap.size 61 11 (.slice (some ⟨W0.heap.size,0,none⟩) n n) n xs:=by
  refine⟨hkl,.inr ⟨W0.heap.size,n,xs.toArray,rfl,Nat.le_refl _,?_,Nat.le_refl _,q5,by simp[hkl],?_⟩⟩
  ·rw[hW2,hdr];exact setRow_heap W1 _ cur _ _ _ q3
  ·rw[List.take_of_length_le (by simp[hkl])]
 have hhalf:Half W0 W2 W0.heap.size W0.heap.size n 0 es:=⟨xs,hown2,fun i _ h=>absurd h (by omega),fun i hi _=>hsrc i hi⟩
 obtain⟨c0,c1,c2,-⟩:=(hx0.later hb1 (by omega)).cells
 obtain⟨d0,d1,d2,-⟩:=hx0.cells
 have HH:=Lib.hid hhalf;have HB2:=Lib.hid hb2;have HBW:=Lib.hid hbw;have HX0:=Lib.hid hx0;have HX1:=Lib.hid hx1;have HS:=Lib.hid hS
 have hread':∀j v,xs[j]?=some v->W1.cell? ((⟨b,off,none⟩:Addr).add j)=some v:=fun j v hj=>by
  have:=hread j v hj
  rw[show (⟨b,off,none⟩:Addr).add j=⟨b,off+j,none⟩ from by unfold Addr.add;split<;>simp_all] at this ⊢
  exact(hb1.cell (p:=⟨b,off+j,none⟩) (Nat.lt_of_lt_of_le hblt hbw.size)).trans this
 have HRD:=Lib.hid hread';have HON:=Lib.hid hone;have HQ3:=Lib.hid q3
 have hcs:xs.length=Nat.min n n*11:=by rw[hkl,show Nat.min n n=n from Nat.min_self n]
 have hmin:Nat.min n n=n:=Nat.min_self _
 have hsz11:(Tryz.prog.info? 61).map (·.size)=some 11:=by rw[hi0];simp[hz1]
 have hcp:=JR (P:=Tryz.prog) W1 62 62 3 61 W0.heap.size n n ⟨b,off,none⟩ n cap cur 61 xs Tryz.underlying62 hsz11 q3 hcs hread' (by rw[hkl,q6];exact Nat.le_refl _) hone
 rw[<-hW2,hmin] at hcp
 have HCS:=Lib.hid hcs;have HFT:Hid (xs.length<=cur.size):=Lib.hid (by rw[hkl,q6];exact Nat.le_refl _)
 have HN:=Lib.hid hn;have HZ0:=Lib.hid hz0'
 clear hz0' hhalf hb1 hb2 hbw hx0 hx1 hown2 hread hread' hone hcs hkl hsrc q2 q3 q6 q7 hml hgrow hS h hdr hn hxs
 replace hW0:=Lib.hid hW0;replace hW2:=Lib.hid hW2
 go_enter Tryz.func67,Tryz.ntmps67
 go_upto_region 1 with fail
 rw[<-hW0.out]
 go_upto_region 2 with fail
 go_wp2_with fail
 go_loopw [16] (fun i wr=>∃(j:Nat),j<=n/\i= .int .i64 j/\Half W0 wr W0.heap.size W0.heap.size n j es/\Below W0.heap.size W0 wr) (fun i _=>n-(intOf i).toNat)
 case atStart=>exact⟨0,by omega,rfl,HH.out,HB2.out⟩
 case round=>
  obtain⟨j,hj,rfl,hh,hb⟩:=hrel
  have HHJ:=Lib.hid hh;have HB:=Lib.hid hb
  clear hh hb
  by_cases hlt:j<n
  ·have hje : j < es.length := by have := HN.out; omega
   obtain⟨lo,hi,vk,vn,vf,vs,A',m,c,hf,hv,hhi,hrl,hrb,hfr,hcell⟩:=HHJ.out.get HN.out.symm hje
   have e0:=hcell 0 (by omega);have e1:=hcell 1 (by omega);have e2:=hcell 2 (by omega);have e3:=hcell 3 (by omega);have e4:=hcell 4 (by omega);have e5:=hcell 5 (by omega);have e6:=hcell 6 (by omega);have e7:=hcell 7 (by omega);have e8:=hcell 8 (by omega);have e9:=hcell 9 (by omega);have e10:=hcell 10 (by omega)
   simp only[Db,List.getElem?_toArray,List.getElem?_cons_zero,List.getElem?_cons_succ,Nat.add_zero] at e0 e1 e2 e3 e4 e5 e6 e7 e8 e9 e10
   obtain⟨W3,hW3⟩:∃W3,W3=wr.alloc (.cells (Db es[j] vk vn vf vs A' m c) 61):=⟨_,rfl⟩
   have hb3:Below wr.heap.size wr W3:=by rw[hW3];exact(Below.refl _ _).alloc (Nat.le_refl _) _
   have hx3:EBox W3 wr.heap.size (Db es[j] vk vn vf vs A' m c):=by rw[hW3];exact Cn.Gs ..
   obtain⟨g0,g1,g2,g3,g4,g5,g6,g7,g8,g9,g10⟩:=EBox.cells hx3
   have HC:=Lib.hid (Vt.SH es[j].v W3 lo hi _ (hv.later ((HB.out.trans (hb3.mono HB.out.size)).mono hhi)) (by have:=HB.out.size;have:=hb3.size;omega) (HS.out j hje))
   have HB3:=Lib.hid hb3;have HF:=Lib.hid hf;have HFR:=Lib.hid hfr
   clear hv hf hb3 hx3 hcell hfr
   unfold Dn at HC
   unfold Db at hW3
   replace hW3:=Lib.hid hW3
   go_upto_region 6 with fail
   rw[<-hW3.out]
   go_wp2_with fail
   refine HC.out.mono ?_
   rintro x w4 ⟨k2,n2,f2,s2,l2,A2,cap2,ht,rfl,hr,hb4,hfr4⟩
   rw[show l2=es[j].v.l from by rw[ht]] at hfr4
   have hst:=HHJ.out.step HN.out.symm hje HB3.out hb4 hr hfr4 HF.out
   have hfw:∀o,w4.frozen? ⟨W0.heap.size,o,none⟩=false:=fun o=>(Cm.DO ((hb4.block _ (by have:=HB3.out.size;omega)).trans (HB3.out.block _ hrl)) o).trans (HFR.out o)
   have z6:=hfw (j*11+6);have z7:=hfw (j*11+6+1);have z8:=hfw (j*11+6+2);have z9:=hfw (j*11+6+3);have z10:=hfw (j*11+6+4)
   obtain⟨-,-,kk,kn,kf,ks,kA,km,kc,-,-,-,-,-,-,hc4⟩:=(HHJ.out.later (HB3.out.trans (hb4.mono HB3.out.size))).get HN.out.symm hje
   have y6:=hc4 6 (by omega);have y7:=hc4 7 (by omega);have y8:=hc4 8 (by omega);have y9:=hc4 9 (by omega);have y10:=hc4 10 (by omega)
   simp only[Db,List.getElem?_toArray,List.getElem?_cons_zero,List.getElem?_cons_succ] at y6 y7 y8 y9 y10
   have HST:=Lib.hid hst;have HB4:=Lib.hid hb4
   clear hr hb4 hfr4 hst hfw hc4 ht e0 e1 e2 e3 e4 e5 e6 e7 e8 e9 e10 g0 g1 g2 g3 g4 g5 g6 g7 g8 g9 g10
   obtain⟨W5,hW5⟩:∃W5,W5=DY w4 W0.heap.size (j*11+6) (.int .i64 k2) (.int .i64 n2) (.float .f64 f2) (.string s2) (.slice A2 l2.length cap2):=⟨_,rfl⟩
   have HB5:Hid (Below W0.heap.size W0 W5):=Lib.hid (by rw[hW5];exact Vt.OD ((HB.out.trans (HB3.out.mono HB.out.size)).trans (HB4.out.mono (by have:=HB.out.size;have:=HB3.out.size;omega))) (Nat.le_refl _))
   rw[<-hW5] at HST
   simp only[DY] at hW5
   go_upto_region 7 with fail
   trace_state
   exact M147
  ·have hj' : j = n := by omega
   subst hj'
   have hx2:=HX0.out.later HB.out (by have:=HZ0.out;omega)
   have hy2:=HX1.out.later HB.out (by have:=HZ0.out;omega)
   obtain⟨q0,q1,q2,qf⟩:=hx2.cells
   obtain⟨r0,r1,r2,rf⟩:=hy2.cells
   have qf2:=qf 2
   have f0:=rf 0;have f1:=rf 1;have f2:=rf 2
   clear hx2 hy2 qf rf c0 c1 c2 d0 d1 d2
   go_wp2_with fail
   refine bodyPost_ret (v:= .agg #[.string f,.int .u64 at',.slice (some ⟨W0.heap.size,0,none⟩) j j]) (by simp[results,Tryz.results67,go_sem,r0,r1,r2]) rfl ?_
   have HBZ:Hid (Below w.heap.size w wr):=Lib.hid (HBW.out.trans (HB.out.mono HBW.out.size))
   refine⟨_,j,rfl,(((HBZ.out.setCell (by simp) _).setCell (by simp) _).setCell (by simp) _).setCell (by simp) _,?_⟩
   have hfin:=HHJ.out.done HN.out.symm
   have hzz:=HZ0.out
   exact Cn.evs_base (Cn.GS (Cn.GS (Cn.GS (Cn.GS hfin (by simp only[];omega) _) (by simp only[];omega) _) (by simp only[];omega) _) (by simp only[];omega) _) (by omega)
variable {X X' Y : Nat -> Prop} {u v w w' V V' : World} {b n : Nat} {ts : List TK} {l : List (Nat × Nat)} {ks : List ByteArray}
def XS (g bt bm bk:Nat):Nat->Prop:=fun b=>b=g\/b=bt\/b=bm\/b=bk
def XY (Y:Nat->Prop)(g bt bm bk:Nat):Nat->Prop:=fun b=>Y b\/XS g bt bm bk b
theorem Pv (Y:Nat->Prop)(h:Chg X w w'):Leads (Ds (fun b=>Y b\/X b) w) (Ds (fun b=>Y b\/X b) w'):=Dp h.size fun b hb hx=>⟨hx,h.block b hb (fun e=>hx (.inr e))⟩
structure SAt (Y : Nat -> Prop) (w : World) (g bt bm bk n : Nat) (s : ST) : Prop where
 blk:w.heap[g]?=some (.cells (stC bt bm bk s.next s.closed) 123 (0,0))
 maps:Maps3 w (Ds (XY Y g bt bm bk) w) bt bm bk n s
 n1:g≠bt
 n2:g≠bm
 n3:g≠bk
 n4:bt≠bm
 n5:bt≠bk
 n6:bm≠bk
def Sp (Y : Nat -> Prop) (w : World) (g bt bm bk n : Nat) (o : Option ST) (e : Ending) (w' : World) : Prop := Chg (XS g bt bm bk) w w' /\ match o with
 | some s'=>e= .returned (.bool true)/\SAt Y w' g bt bm bk (n+1) s'
 | none=>e= .returned (.bool false)
structure FW (e : EV) : Prop where
 f:Dj e
 k0:1<=e.k
 k1:e.k<=11
 n0:0<=e.n
 n1:e.n<=2147483647
 a3:e.k=3->e.at'=0
 slim:e.v.Slim 900
theorem SAt.later {g bt bm bk:Nat}{s:ST}(h:SAt Y w g bt bm bk n s)(hb:Below w.heap.size w w'):SAt Y w' g bt bm bk n s:=
 ⟨(hb.block _ (Array.getElem?_eq_some_iff.1 h.blk).1).trans h.blk,h.maps.later hb (Dp hb.size fun b hb' hx=>⟨hx,hb.block b hb'⟩),h.n1,h.n2,h.n3,h.n4,h.n5,h.n6⟩
theorem SAt.turnM {g bt bm bk n':Nat}{s:ST}{l':List (Nat×Nat)}(h:SAt Y w g bt bm bk n s)(turn:w.mapTurned w' bm)(hm:MMap w' bm n' l')(hn:n<=n'):SAt Y w' g bt bm bk n' {s with timers:=l'}/\Chg (XS g bt bm bk) w w':=by
 have hc:Chg (XS g bt bm bk) w w':=Chg.turned turn (.inr (.inr (.inl rfl)))
 have hb:=fun(b:Nat) (hlt:b<w.heap.size) (hne:b≠bm)=>turn.grown.block b hlt (fun e=>hne (by injection e))
 exact⟨⟨(hb g (Array.getElem?_eq_some_iff.1 h.blk).1 h.n2).trans h.blk,⟨(h.maps.tasks.keep (hb bt h.maps.tasks.lt h.n4) (Pv Y hc)).mono hn,hm,(h.maps.keys.keep (hb bk h.maps.keys.lt (Ne.symm h.n6))).mono hn⟩,h.n1,h.n2,h.n3,h.n4,h.n5,h.n6⟩,hc⟩
theorem SAt.turnT {g bt bm bk n':Nat}{s:ST}{l':List TK}(h:SAt Y w g bt bm bk n s)(turn:w.mapTurned w' bt)(hm:TMap w' (Ds (XY Y g bt bm bk) w) bt n' l')(hn:n<=n'):SAt Y w' g bt bm bk n' {s with tasks:=l'}/\Chg (XS g bt bm bk) w w':=by
 have hc:Chg (XS g bt bm bk) w w':=Chg.turned turn (.inr (.inl rfl))
 have hb:=fun(b:Nat) (hlt:b<w.heap.size) (hne:b≠bt)=>turn.grown.block b hlt (fun e=>hne (by injection e))
 exact⟨⟨(hb g (Array.getElem?_eq_some_iff.1 h.blk).1 h.n1).trans h.blk,⟨hm.keep rfl (Pv Y hc),(h.maps.timers.keep (hb bm h.maps.timers.lt (Ne.symm h.n4))).mono hn,(h.maps.keys.keep (hb bk h.maps.keys.lt (Ne.symm h.n5))).mono hn⟩,h.n1,h.n2,h.n3,h.n4,h.n5,h.n6⟩,hc⟩
theorem SAt.turnK {g bt bm bk n':Nat}{s:ST}{l':List ByteArray}(h:SAt Y w g bt bm bk n s)(turn:w.mapTurned w' bk)(hm:KMap w' bk n' l')(hn:n<=n'):SAt Y w' g bt bm bk n' {s with keys:=l'}/\Chg (XS g bt bm bk) w w':=by
 have hc:Chg (XS g bt bm bk) w w':=Chg.turned turn (.inr (.inr (.inr rfl)))
 have hb:=fun(b:Nat) (hlt:b<w.heap.size) (hne:b≠bk)=>turn.grown.block b hlt (fun e=>hne (by injection e))
 exact⟨⟨(hb g (Array.getElem?_eq_some_iff.1 h.blk).1 h.n3).trans h.blk,⟨(h.maps.tasks.keep (hb bt h.maps.tasks.lt h.n5) (Pv Y hc)).mono hn,(h.maps.timers.keep (hb bm h.maps.timers.lt h.n6)).mono hn,hm⟩,h.n1,h.n2,h.n3,h.n4,h.n5,h.n6⟩,hc⟩
theorem SAt.cell {g bt bm bk:Nat}{s:ST}(h:SAt Y w g bt bm bk n s)(o:Nat)(x:Value)(s':ST)(e:(stC bt bm bk s.next s.closed).setIfInBounds o x=stC bt bm bk s'.next s'.closed)(e1:s'.tasks=s.tasks)(e2:s'.timers=s.timers)(e3:s'.keys=s.keys) :
  SAt Y (w.setCell ⟨g,o,none⟩ x) g bt bm bk n s'/\Chg (XS g bt bm bk) w (w.setCell ⟨g,o,none⟩ x):=by
 have hc:Chg (XS g bt bm bk) w (w.setCell ⟨g,o,none⟩ x):=Chg.setCell (.inl rfl) x
 have hb:=fun(b:Nat) (hne:b≠g)=>RowKit.Below.heap_setCell w ⟨g,o,none⟩ x b hne
 refine⟨⟨?_,⟨e1 ▸ h.maps.tasks.keep (hb bt (Ne.symm h.n1)) (Pv Y hc),e2 ▸ h.maps.timers.keep (hb bm (Ne.symm h.n2)),e3 ▸ h.maps.keys.keep (hb bk (Ne.symm h.n3))⟩,h.n1,h.n2,h.n3,h.n4,h.n5,h.n6⟩,hc⟩
 rw[<-e]
 simp[World.setCell,Array.getElem?_modify,h.blk]
theorem SAt.mono {g bt bm bk n':Nat}{s:ST}(h:SAt Y w g bt bm bk n s)(hn:n<=n'):SAt Y w g bt bm bk n' s:=⟨h.blk,⟨h.maps.tasks.mono hn,h.maps.timers.mono hn,h.maps.keys.mono hn⟩,h.n1,h.n2,h.n3,h.n4,h.n5,h.n6⟩
theorem empty_sz (s:ByteArray):s.toList.isEmpty=decide (s.size=0):=by
 rw[Vt.toList_data]
 have:s.data.toList.length=s.size:=rfl
 cases h:s.data.toList with
 | nil=>rw[h] at this;have:s.size=0:=this.symm;simp[this]
 | cons a l=>rw[h] at this;have:s.size=l.length+1:=this.symm;simp[this]
theorem Fc {W:World}{tb:Nat}{y0 y1 y2 y3 y4 y5 y6 y7 y8 y9:Value}{T:TypeId}(h:W.heap[tb]?=some (.cells #[y0,y1,y2,y3,y4,y5,y6,y7,y8,y9] T (0,0))) :
  W.cell? ⟨tb,0,none⟩=some y0/\W.cell? ⟨tb,1,none⟩=some y1/\W.cell? ⟨tb,2,none⟩=some y2/\W.cell? ⟨tb,3,none⟩=some y3/\W.cell? ⟨tb,4,none⟩=some y4/\W.cell? ⟨tb,5,none⟩=some y5/\W.cell? ⟨tb,6,none⟩=some y6/\W.cell? ⟨tb,7,none⟩=some y7/\W.cell? ⟨tb,8,none⟩=some y8/\W.cell? ⟨tb,9,none⟩=some y9/\∀o,W.frozen? ⟨tb,o,none⟩=false:=by
 simp[World.cell?,World.frozen?,h]
theorem M60 (h:p:=by
 exact KS.out _ (Da (Below.refl _ _))):p:=h
theorem M152 (h:p:=by
 go_wp2_with fail
 go_ret
 exact⟨HCD.out,by rw[HX.out];rfl⟩):p:=h
theorem M342 (h:p:=by
 have HST:Hid (∀W,Below W1.heap.size W1 W->SAt Y W g bt bm bk n s):=Lib.hid fun W hW=>h.later (hb1.trans (hW.mono hb1.size))
 have KS:Hid (∀W,Below W1.heap.size W1 W->(fun W=>W.cell? ⟨g,0,none⟩=some (.map (some bt))/\W.cell? ⟨w.heap.size,1,none⟩=some (.int .u64 (id:Nat))/\(Instr.lookup 119 (.map (some bt)) (.int .u64 (id:Nat)) true).run Tryz.prog W= .ok (.tuple #[.agg #[.int .u64 (yi:Nat),.string yn,.int .i64 yk,.int .i64 yv,.float .f64 yf,.string ys,.slice yA ym yc,.int .i64 yN,.bool yb,.int .u64 (ya:Nat)],.bool okb]) W) W):=Lib.hid fun W hW=>⟨(DE (HST.out W hW).blk).1,(Ev.EBox.cells (HE.out W hW)).2.1,HL.out W ((hb1.trans (hW.mono hb1.size)).block _ h.maps.tasks.lt)⟩
 obtain⟨W2,hW2⟩:∃W2,W2=(W1.alloc (.cells #[.int .u64 (yi:Nat),.string yn,.int .i64 yk,.int .i64 yv,.float .f64 yf,.string ys,.slice yA ym yc,.int .i64 yN,.bool yb,.int .u64 (ya:Nat)] 36)).drew:=⟨_,rfl⟩
 have hq2:Below W1.heap.size W1 W2:=by rw[hW2];exact Da ((Below.refl _ _).alloc (Nat.le_refl _) _)
 have hz2:W2.heap.size=w.heap.size+2:=by rw[hW2];simp[hz1]
 have ht2:W2.heap[W1.heap.size]?=some (.cells #[.int .u64 (yi:Nat),.string yn,.int .i64 yk,.int .i64 yv,.float .f64 yf,.string ys,.slice yA ym yc,.int .i64 yN,.bool yb,.int .u64 (ya:Nat)] 36 (0,0)):=by rw[hW2];exact heap_alloc_new _ _
 have HB2:=Lib.hid (hb1.trans (hq2.mono hb1.size));have HQ2:=Lib.hid hq2;have HZ1:=Lib.hid hz1;have HZ2:=Lib.hid hz2;have HT2:=Lib.hid ht2;have HGL:=Lib.hid hgl
 exact Y342):p:=h
theorem M479 (h:p:=by
 refine tk 0 rfl ?_
 refine tk 1 rfl ?_
 refine tk 2 rfl ?_
 refine tk 3 rfl ?_
 refine tk 4 rfl ?_
 refine tk 5 rfl ?_
 refine tk 6 rfl ?_
 refine tk 7 rfl ?_
 refine tk 8 rfl ?_
 refine tk 9 rfl ?_
 exact Y479):p:=h
theorem Q481.Y479 (h:p:=by
 refine rd1 10 rfl fun K hK=> ?_
 go_simp
 refine hK.out _ _ (KS.out _ ((Da (Below.refl _ _)).alloc (Nat.le_refl _) _)) (fun hHeld2=> ?_)
 clear hK K hHeld
 try simp only[ap]
 refine rd1 11 rfl fun K hK=> ?_
 go_simp
 refine hK.out _ _ (KS.out _ (Da ((Below.refl _ _).alloc (Nat.le_refl _) _))) (fun hHeld3=> ?_)
 clear hK K hHeld2
 try simp only[ap]
 refine rd1 12 rfl fun K hK=> ?_
 go_simp
 refine hK.out _ _ (KS.out _ (Da ((Below.refl _ _).alloc (Nat.le_refl _) _))) (fun hHeld4=> ?_)
 clear hK K hHeld3
 try simp only[ap]
 refine wpAnyH_done (by kernel_rfl) ?_ _
 refine NoPanic.normal ?_
 clear hHeld4
 rw[<-hW2.out]
 have h:=HST.out W2 HQ2.out
 obtain⟨c0,c1,c2,c3,c4,f0,f1,f2,f3,f4⟩:=DE h.blk
 obtain⟨e0,e1,e2,e3,e4,e5,e6,e7,e8,e9,e10⟩:=Ev.EBox.cells (HE.out W2 HQ2.out)
 dsimp only at e0 e1 e2 e3 e4 e5
 exact Y321):p:=h
theorem M321 (h:p:=by
 have HSW:Hid (∀W,Below W1.heap.size W1 W->∀y,W1.heap.size<=y->Below W1.heap.size W1 W):=Lib.hid fun W hW _ _=>hW
 unfold Db at hW1
 replace hW1:=Lib.hid hW1;replace hW2:=Lib.hid hW2
 clear h hb1 hx1 hq2 ht2 hgl hz1 hz2 HL
 unfold Db
 go_enter Tryz.func103,Tryz.ntmps103
 go_upto_region 1 with fail
 rw[<-hW1.out]
 refine wp_region_noPanic ?_
 refine wp_region_held_drew (S:=(fun W=>W.cell? ⟨g,0,none⟩=some (.map (some bt))/\W.cell? ⟨w.heap.size,1,none⟩=some (.int .u64 (id:Nat))/\(Instr.lookup 119 (.map (some bt)) (.int .u64 (id:Nat)) true).run Tryz.prog W= .ok (.tuple #[.agg #[.int .u64 (yi:Nat),.string yn,.int .i64 yk,.int .i64 yv,.float .f64 yf,.string ys,.slice yA ym yc,.int .i64 yN,.bool yb,.int .u64 (ya:Nat)],.bool okb]) W)) (by kernel_rfl) ?_ (fun hHeld=> ?_)
 ·exact M60
 open Q481 in exact M479):p:=h
theorem Q480.Y479 (h:p:=by
 refine rd1 10 rfl fun K hK=> ?_
 go_simp
 refine hK.out _ _ (KS3.out _ ((Da (Below.refl _ _)).alloc (Nat.le_refl _) _)) (fun hHeld2=> ?_)
 clear hK K hHeld
 try simp only[ap]
 refine rd1 11 rfl fun K hK=> ?_
 go_simp
 refine hK.out _ _ (KS3.out _ (Da ((Below.refl _ _).alloc (Nat.le_refl _) _))) (fun hHeld3=> ?_)
 clear hK K hHeld2
 try simp only[ap]
 refine rd1 12 rfl fun K hK=> ?_
 go_simp
 refine hK.out _ _ (KS3.out _ (Da ((Below.refl _ _).alloc (Nat.le_refl _) _))) (fun hHeld4=> ?_)
 clear hK K hHeld3
 try simp only[ap]
 refine wpAnyH_done (by kernel_rfl) ?_ _
 refine NoPanic.normal ?_
 clear hHeld4
 rw[<-hW3.out]
 clear h c0 c1 c2 c3 c4 f0 f1 f2 f3 f4 e0 e1 e2 e3 e4 e5 e6 e7 e8 e9 e10 t0 t1 t2 t3 t4 t5 t6 t7 t8 t9 tf
 have h:=HST3.out
 obtain⟨c0,c1,c2,c3,c4,f0,f1,f2,f3,f4⟩:=DE h.blk
 obtain⟨e0,e1,e2,e3,e4,e5,e6,e7,e8,e9,e10⟩:=Ev.EBox.cells (HE.out W3 (HQ2.out.trans (HQ3.out.mono HQ2.out.size)))
 dsimp only at e0 e1 e2 e3 e4 e5
 have x0:W3.cell? ⟨W2.heap.size,0,none⟩=some (.int .u64 (xi:Nat)):=by simp[World.cell?,HT3.out]
 have x1:W3.cell? ⟨W2.heap.size,1,none⟩=some (.int .u64 (xa:Nat)):=by simp[World.cell?,HT3.out]
 obtain⟨wd,hdel,hmd,hturn⟩:=(h.later (Da (Below.refl _ _))).maps.timers.drop id hi 0
 obtain⟨hsd,hcd⟩:=(h.later (Da (Below.refl _ _))).turnM hturn hmd (Nat.le_refl _)
 have x1':wd.cell? ⟨W2.heap.size,1,none⟩=some (.int .u64 (xa:Nat)):=by
  have hlt:W2.heap.size<W3.heap.size:=(Array.getElem?_eq_some_iff.1 HT3.out).1
  have:=hturn.grown.block W2.heap.size (show W2.heap.size<W3.drew.heap.size from hlt) (fun e=>by injection e with e;have:=H0.out.maps.timers.lt;have:=HZ2.out;omega)
  exact(World.cell?_of_block this).trans x1
 have HSD:=Lib.hid hsd;have HCD:=Lib.hid (((Chg.of_below (HB2.out.trans (HQ3.out.mono HB2.out.size))).trans (Chg.of_below (Da (Below.refl _ _)))).trans hcd)
 have HDEC2:=Lib.hid HDEC.out
 clear hsd hcd hmd hturn
 go_upto_region 25 with fail
 go_still_tail 6,(by kernel_rfl)
 rcases HDEC.out with ⟨rfl,hno⟩|⟨rfl,hx⟩
 ·have HX : Hid (Dc now alone ⟨5, id, en, at', name, text, ev⟩ s = none) := Lib.hid (by simp [Dc, hno])
  clear hno
  exact M152
 ·by_cases hle : xa <= now
  ·have HX : Hid (Dc now alone ⟨5, id, en, at', name, text, ev⟩ s = some { s with timers := Om s.timers id }) := Lib.hid (by simp [Dc, hx, hle])
   have k1:decide (xa<=now)=true:=decide_eq_true hle
   clear hx
   go_wp2_with fail
   go_ret
   exact⟨HCD.out,by rw[HX.out];exact⟨rfl,HSD.out.mono (Nat.le_succ _)⟩⟩
  ·have HX : Hid (Dc now alone ⟨5, id, en, at', name, text, ev⟩ s = none) := Lib.hid (by simp [Dc, hx, hle])
   have k1:decide (xa<=now)=false:=decide_eq_false hle
   clear hx
   exact M152):p:=h
theorem Q224.Y222 (h:p:=by
 obtain⟨xi,xa,is,hlk,hdec⟩:=h.maps.timers.any id hi
 obtain⟨W3,hW3⟩:∃W3,W3=(W2.alloc (.cells #[.int .u64 (xi:Nat),.int .u64 (xa:Nat)] 89)).drew:=⟨_,rfl⟩
 have hq3:Below W2.heap.size W2 W3:=by rw[hW3];exact Da ((Below.refl _ _).alloc (Nat.le_refl _) _)
 have KS3:Hid (∀W,Below W2.heap.size W2 W->(fun W=>W.cell? ⟨g,1,none⟩=some (.map (some bm))/\W.cell? ⟨w.heap.size,1,none⟩=some (.int .u64 (id:Nat))/\(Instr.lookup 120 (.map (some bm)) (.int .u64 (id:Nat)) true).run Tryz.prog W= .ok (.tuple #[.agg #[.int .u64 (xi:Nat),.int .u64 (xa:Nat)],.bool is]) W) W):=Lib.hid fun W hW=>⟨(DE (h.later hW).blk).2.1,(Ev.EBox.cells (HE.out W (HQ2.out.trans (hW.mono HQ2.out.size)))).2.1,hlk W (hW.block _ h.maps.timers.lt)⟩
 have ht3:W3.heap[W2.heap.size]?=some (.cells #[.int .u64 (xi:Nat),.int .u64 (xa:Nat)] 89 (0,0)):=by rw[hW3];exact heap_alloc_new _ _
 have HQ3:=Lib.hid hq3;have HT3:=Lib.hid ht3;have HDEC:=Lib.hid hdec
 have HST3:=Lib.hid (h.later hq3)
 replace hW3:=Lib.hid hW3
 clear hlk ht3 hq3 hdec
 go_upto_region 24 with fail
 refine wp_region_noPanic ?_
 refine wp_region_held_drew (S:=(fun W=>W.cell? ⟨g,1,none⟩=some (.map (some bm))/\W.cell? ⟨w.heap.size,1,none⟩=some (.int .u64 (id:Nat))/\(Instr.lookup 120 (.map (some bm)) (.int .u64 (id:Nat)) true).run Tryz.prog W= .ok (.tuple #[.agg #[.int .u64 (xi:Nat),.int .u64 (xa:Nat)],.bool is]) W)) (by kernel_rfl) ?_ (fun hHeld=> ?_)
 ·exact KS3.out _ (Da (Below.refl _ _))
 open Q480 in exact M479):p:=h
theorem Q323.Y321 (h:p:=by
 obtain⟨t0,t1,t2,t3,t4,t5,t6,t7,t8,t9,tf⟩:=Fc HT2.out
 exact Y222):p:=h
theorem Q343.Y342 (h:p:=by
 have H0:=Lib.hid h
 open Q323 in exact M321):p:=h
theorem M222 (h:p:=by
 open Q343 in exact M342):p:=h
theorem Vi (h:p:=by
 have hb1:Below w.heap.size w W1:=by rw[hW1];exact(Below.refl _ _).alloc (Nat.le_refl _) _
 have hz1:W1.heap.size=w.heap.size+1:=by rw[hW1];simp
 exact Y402):p:=h
theorem Q404.Y402 (h:p:=by
 have hx1:Ev.EBox W1 w.heap.size (Db ⟨5,id,en,at',name,text,ev⟩ vk vn vf vs A m c):=by rw[hW1];exact heap_alloc_new _ _
 have hgl:g<w.heap.size:=(Array.getElem?_eq_some_iff.1 h.blk).1
 have HE:Hid (∀W,Below W1.heap.size W1 W->Ev.EBox W w.heap.size (Db ⟨5,id,en,at',name,text,ev⟩ vk vn vf vs A m c)):=Lib.hid fun W hW=>(hW.block _ (by omega)).trans hx1
 open Q224 in exact M222):p:=h
theorem Q278.Y272 (h:p:=by
 obtain⟨W1,hW1⟩:∃W1,W1=w.alloc (.cells (Db ⟨5,id,en,at',name,text,ev⟩ vk vn vf vs A m c) 61):=⟨_,rfl⟩
 open Q404 in exact Vi):p:=h
theorem Vx (h:p:=by
 have HL:Hid (∀W,W.heap[bt]?=w.heap[bt]?->(Instr.lookup 119 (.map (some bt)) (.int .u64 (id:Nat)) true).run Tryz.prog W= .ok (.tuple #[.agg #[.int .u64 (yi:Nat),.string yn,.int .i64 yk,.int .i64 yv,.float .f64 yf,.string ys,.slice yA ym yc,.int .i64 yN,.bool yb,.int .u64 (ya:Nat)],.bool okb]) W):=Lib.hid hl
 clear hl
 exact Y272):p:=h
theorem apply5 (g bt bm bk:Nat)(s:ST)(h:SAt Y w g bt bm bk n s)(e:EV)(he:FW e)(hk:e.k=5)(vk vn:Int)(vf:Nat)(vs:ByteArray)(A:Option Addr)(m c:Nat)(now:Nat)(alone:Bool) :
  Calls Tryz.prog 103 #[.pointer (some ⟨g,0,none⟩),.agg (Db e vk vn vf vs A m c),.int .u64 (now:Nat),.bool alone] w (Sp Y w g bt bm bk n (Dc now alone e s)):=by
 obtain⟨k,id,en,at',name,text,ev⟩:=e
 obtain rfl:k=5:=hk
 have hi:=he.f.i1
 dsimp only at hi
 obtain⟨yi,yn,yk,yv,yf,ys,yA,ym,yc,yN,yb,ya,okb,hl⟩:=h.maps.tasks.any id hi
 open Q278 in exact Vx
theorem Q225.Y222 (h:p:=by
 go_wp2_with fail
 go_ret
 exact⟨Chg.of_below HB2.out,by rw[show Dc now alone ⟨1,id,en,at',name,text,ev⟩ s=some s from by simp[Dc]];exact⟨rfl,(HST.out W2 HQ2.out).mono (Nat.le_succ _)⟩⟩):p:=h
theorem Q405.Y402 (h:p:=by
 have hx1:Ev.EBox W1 w.heap.size (Db ⟨1,id,en,at',name,text,ev⟩ vk vn vf vs A m c):=by rw[hW1];exact heap_alloc_new _ _
 have hgl:g<w.heap.size:=(Array.getElem?_eq_some_iff.1 h.blk).1
 have HE:Hid (∀W,Below W1.heap.size W1 W->Ev.EBox W w.heap.size (Db ⟨1,id,en,at',name,text,ev⟩ vk vn vf vs A m c)):=Lib.hid fun W hW=>(hW.block _ (by omega)).trans hx1
 open Q225 in exact M222):p:=h
theorem Q279.Y272 (h:p:=by
 obtain⟨W1,hW1⟩:∃W1,W1=w.alloc (.cells (Db ⟨1,id,en,at',name,text,ev⟩ vk vn vf vs A m c) 61):=⟨_,rfl⟩
 open Q405 in exact Vi):p:=h
theorem apply1 (g bt bm bk:Nat)(s:ST)(h:SAt Y w g bt bm bk n s)(e:EV)(he:FW e)(hk:e.k=1)(vk vn:Int)(vf:Nat)(vs:ByteArray)(A:Option Addr)(m c:Nat)(now:Nat)(alone:Bool) :
  Calls Tryz.prog 103 #[.pointer (some ⟨g,0,none⟩),.agg (Db e vk vn vf vs A m c),.int .u64 (now:Nat),.bool alone] w (Sp Y w g bt bm bk n (Dc now alone e s)):=by
 obtain⟨k,id,en,at',name,text,ev⟩:=e
 obtain rfl:k=1:=hk
 have hi:=he.f.i1
 dsimp only at hi
 obtain⟨yi,yn,yk,yv,yf,ys,yA,ym,yc,yN,yb,ya,okb,hl⟩:=h.maps.tasks.any id hi
 open Q279 in exact Vx
theorem M622 (h:p:=by
 go_upto_region 27 with fail
 go_still_tail 6,(by kernel_rfl)
 go_upto_region 28 with fail
 rw[<-hW3.out]
 clear h c0 c1 c2 c3 c4 f0 f1 f2 f3 f4 e0 e1 e2 e3 e4 e5 e6 e7 e8 e9 e10 t0 t1 t2 t3 t4 t5 t6 t7 t8 t9 tf
 have h:=HS3.out
 obtain⟨c0,c1,c2,c3,c4,f0,f1,f2,f3,f4⟩:=DE h.blk
 obtain⟨e0,e1,e2,e3,e4,e5,e6,e7,e8,e9,e10⟩:=Ev.EBox.cells (HE.out W3 (HQ2.out.trans (HQ3.out.mono HQ2.out.size)))
 dsimp only at e0 e1 e2 e3 e4 e5
 exact Y622):p:=h
theorem Q624.Y622 (h:p:=by
 go_wp2_with fail
 go_ret
 have h3:=HS3.out
 exact⟨Chg.of_below HB3.out,by rw[HX.out];exact⟨rfl,⟨h3.blk,⟨h3.maps.tasks.mono (Nat.le_succ _),h3.maps.timers.mono (Nat.le_succ _),(h3.maps.keys.same text h0).mono (Nat.le_succ _)⟩,h3.n1,h3.n2,h3.n3,h3.n4,h3.n5,h3.n6⟩⟩⟩):p:=h
theorem Q623.Y622 (h:p:=by
 go_upto_region 29 with fail
 go_still_tail 6,(by kernel_rfl)
 go_wp2_with fail
 go_ret
 refine⟨HCD.out,?_⟩
 rw[HX.out]
 cases hq:OG s.keys text with
 | true=>rfl
 | false=>exact⟨rfl,HSD.out⟩):p:=h
theorem Q223.Y222 (h:p:=by
 have q1:=(h.later (Da (Below.refl W2.heap.size W2))).maps.keys.look text htx
 obtain⟨W3,hW3⟩:∃W3,W3=W2.drew:=⟨_,rfl⟩
 have hq3:Below W2.heap.size W2 W3:=by rw[hW3];exact Da (Below.refl _ _)
 have h3:=h.later hq3
 have hd2:=h3.later (Da (Below.refl W3.heap.size W3))
 have HB3:=Lib.hid (HB2.out.trans (hq3.mono HB2.out.size))
 have HS3:=Lib.hid h3
 have HQ3:=Lib.hid hq3
 replace hW3:=Lib.hid hW3
 clear h3 hq3
 have hE:=empty_sz text
 by_cases h0:text.size=0
 ·have hE1 : text.toList.isEmpty = true := by rw [hE]; exact decide_eq_true h0
  have hnk:OG s.keys text=false:=by simp[OG,h0]
  have HX:Hid (Dc now alone ⟨6,id,en,at',name,text,ev⟩ s=some {s with keys:=s.keys++ [text]}):=Lib.hid (by simp[Dc,hnk])
  rw[hnk] at q1
  clear hd2 hE hnk
  open Q624 in exact M622
 ·have hE1 : text.toList.isEmpty = false := by rw [hE]; exact decide_eq_false h0
  obtain⟨wd,hput,hmd,hturn⟩:=hd2.maps.keys.put (by simp only[maxLen];omega) text htx h0
  obtain⟨hsd,hcd⟩:=hd2.turnK hturn hmd (Nat.le_succ _)
  have HSD:=Lib.hid hsd;have HCD:=Lib.hid ((Chg.of_below (HB3.out.trans ((Da (Below.refl _ _)).mono HB3.out.size))).trans hcd)
  have HX:Hid (Dc now alone ⟨6,id,en,at',name,text,ev⟩ s=if OG s.keys text=true then none else some {s with keys:=s.keys++ [text]}):=Lib.hid (by simp[Dc])
  clear hd2 hE hmd hturn hsd hcd
  open Q623 in exact M622):p:=h
theorem Q406.Y402 (h:p:=by
 have hx1:Ev.EBox W1 w.heap.size (Db ⟨6,id,en,at',name,text,ev⟩ vk vn vf vs A m c):=by rw[hW1];exact heap_alloc_new _ _
 have hgl:g<w.heap.size:=(Array.getElem?_eq_some_iff.1 h.blk).1
 have HE:Hid (∀W,Below W1.heap.size W1 W->Ev.EBox W w.heap.size (Db ⟨6,id,en,at',name,text,ev⟩ vk vn vf vs A m c)):=Lib.hid fun W hW=>(hW.block _ (by omega)).trans hx1
 open Q223 in exact M222):p:=h
theorem Q275.Y272 (h:p:=by
 obtain⟨W1,hW1⟩:∃W1,W1=w.alloc (.cells (Db ⟨6,id,en,at',name,text,ev⟩ vk vn vf vs A m c) 61):=⟨_,rfl⟩
 open Q406 in exact Vi):p:=h
theorem apply6 (g bt bm bk:Nat)(s:ST)(h:SAt Y w g bt bm bk n s)(e:EV)(he:FW e)(hk:e.k=6)(vk vn:Int)(vf:Nat)(vs:ByteArray)(A:Option Addr)(m c:Nat)(now:Nat)(alone:Bool)(hn:n<17592186044416) :
  Calls Tryz.prog 103 #[.pointer (some ⟨g,0,none⟩),.agg (Db e vk vn vf vs A m c),.int .u64 (now:Nat),.bool alone] w (Sp Y w g bt bm bk n (Dc now alone e s)):=by
 obtain⟨k,id,en,at',name,text,ev⟩:=e
 obtain rfl:k=6:=hk
 have hi:=he.f.i1
 dsimp only at hi
 have htx:=he.f.t1
 dsimp only at htx
 obtain⟨yi,yn,yk,yv,yf,ys,yA,ym,yc,yN,yb,ya,okb,hl⟩:=h.maps.tasks.any id hi
 open Q275 in exact Vx
theorem TMap.any2 (h:TMap w V b n ts)(id:Nat)(hid:id<18446744073709551616) :
  ∃(yi:Nat) (yn:ByteArray) (yk yv:Int) (yf:Nat) (ys:ByteArray) (yA:Option Addr) (ym yc:Nat) (yN:Int) (yb:Bool) (ya:Nat) (okb:Bool),(∀W:World,W.heap[b]?=w.heap[b]?->
   (Instr.lookup 119 (.map (some b)) (.int .u64 (id:Nat)) true).run Tryz.prog W= .ok (.tuple #[.agg #[.int .u64 (yi:Nat),.string yn,.int .i64 yk,.int .i64 yv,.float .f64 yf,.string ys,.slice yA ym yc,.int .i64 yN,.bool yb,.int .u64 (ya:Nat)],.bool okb]) W)/\(0<=yN/\yN<=2147483647)/\
   ((okb=false/\Fb ts id=none)\/(okb=true/\∃t,Fb ts id=some t/\t.id=id/\t.n=yN/\t.fl=yb/\t.at'=ya/\(∀(N:Int) (F:Bool) (A:Nat),0<=N->N<=2147483647->A<18446744073709551616->TRep V {t with n:=N,fl:=F,at':=A} (.agg #[.int .u64 (yi:Nat),.string yn,.int .i64 yk,.int .i64 yv,.float .f64 yf,.string ys,.slice yA ym yc,.int .i64 N,.bool F,.int .u64 (A:Nat)])))):=by
 rcases h.look id hid with ⟨hno,hr⟩|⟨t,x,hsome,⟨lo,hi,k,n,f,s,A,m,c,rfl,hok,hrep,hhi⟩,hr⟩
 ·exact⟨0,_,_,_,_,_,_,_,_,0,false,0,_,hr,⟨by omega,by omega⟩,.inl ⟨rfl,hno⟩⟩
 ·refine⟨_,_,_,_,_,_,_,_,_,_,_,_,_,hr,⟨hok.n0,hok.n1⟩,.inr ⟨rfl,t,hsome,(Fq hsome).2,rfl,rfl,rfl,fun N F A2 h0 h1 h2=>⟨lo,hi,k,n,f,s,A,m,c,rfl,⟨hok.i1,h0,h1,h2,hok.s1⟩,hrep,hhi⟩⟩⟩
theorem Yw {α:Type}{m:Sem α}{a a':α}{w1 w2 w3:World}(h:m.run Tryz.prog w1= .ok a w2)(h':m.run Tryz.prog w1= .ok a' w3):w2=w3:=by
 rw[h] at h';injection h'
theorem XZ {g bt bm bk : Nat} {s : ST} (h : SAt Y w g bt bm bk n s) (hn : n < 17592186044416) {W3 : World} (hb : Below w.heap.size w W3) {id : Nat} (hid : id < 18446744073709551616) {x : Value}
  (hr:(Instr.mapUpdate 119 (.map (some bt)) (.int .u64 (id:Nat)) x).run Tryz.prog W3= .ok () w'):Chg (XS g bt bm bk) w w':=by
 obtain⟨wd,hput,ht⟩:=(h.later hb).maps.tasks.raw (by simp only[maxLen];omega) id hid x
 obtain rfl:=Yw hr hput
 exact(Chg.of_below hb).trans (Chg.turned ht (.inr (.inl rfl)))
theorem XW {g bt bm bk : Nat} {s : ST} (h : SAt Y w g bt bm bk n s) (hn : n < 17592186044416) {W3 : World} (hb : Below w.heap.size w W3) {t t0 : TK} (ht : Fb s.tasks t.id = some t0) {x : Value} (hx : TRep (Ds (XY Y g bt bm bk) w) t x)
  (hr:(Instr.mapUpdate 119 (.map (some bt)) (.int .u64 (t.id:Nat)) x).run Tryz.prog W3= .ok () w'):Chg (XS g bt bm bk) w w'/\SAt Y w' g bt bm bk (n+1) {s with tasks:=FN s.tasks t}:=by
 have hl:Leads (Ds (XY Y g bt bm bk) w) (Ds (XY Y g bt bm bk) W3):=Dp hb.size fun b hb' hx=>⟨hx,hb.block b hb'⟩
 obtain⟨wd,hput,hm,hturn⟩:=(h.later hb).maps.tasks.put (by simp only[maxLen];omega) (TRep.leads hx hl) (ts':=FN s.tasks t) (fun id=>tget_put ⟨t0,(Fq ht).1,(Fq ht).2⟩ id)
 obtain rfl:=Yw hr hput
 obtain⟨h1,h2⟩:=(h.later hb).turnT hturn hm (Nat.le_succ _)
 exact⟨(Chg.of_below hb).trans h2,h1⟩
theorem M85 (h:p:=by
 go_upto_region 22 with fail
 go_still_tail 6,(by kernel_rfl)
 exact M152):p:=h
theorem M117 (h:p:=by
 have HQ3:=Lib.hid q3
 clear q3
 go_upto_region 22 with fail
 go_still_tail 6,(by kernel_rfl)
 go_wp2_with fail
 go_ret
 exact⟨HCD.out,by rw[HX.out];exact⟨Nm.De (by simp[HQ3.out]),HSD.out.mono (Nat.le_succ _)⟩⟩):p:=h
theorem M134 (h:p:=by
 have HQ3:=Lib.hid q3
 clear q3
 go_upto_region 22 with fail
 go_still_tail 6,(by kernel_rfl)
 go_wp2_with fail
 go_ret
 exact⟨HCD.out,by rw[HX.out];exact Nm.De (by simp[HQ3.out])⟩):p:=h
theorem M499 (h:p:=by
 obtain⟨wd,hdel,hmd,hturn⟩:=(h.later (Da (Below.refl _ _))).maps.tasks.drop id hi 0
 obtain⟨hsd,hcd⟩:=(h.later (Da (Below.refl _ _))).turnT hturn hmd (Nat.le_refl _)
 have hlt:W1.heap.size<W2.drew.heap.size:=(Array.getElem?_eq_some_iff.1 HT2.out).1
 have hkeep:∀c,c<W2.heap.size->c≠bt->wd.heap[c]?=W2.heap[c]?:=fun c hc hne=>hturn.grown.block c hc (fun e=>hne (by injection e))
 have hbt:bt<w.heap.size:=H0.out.maps.tasks.lt
 have ht3:=(hkeep W1.heap.size hlt (by have:=HZ1.out;omega)).trans HT2.out
 obtain⟨s0,s1,s2,s3,s4,s5,s6,s7,s8,s9,sf⟩:=Fc ht3
 exact Y499):p:=h
theorem M670 (h:p:=by
 obtain⟨-,-,x2,-,-,-,-,-,-,-,-⟩:=Ev.EBox.cells hx3
 dsimp only at x2
 have HSD:=Lib.hid hsd;have HCD:=Lib.hid (((Chg.of_below HB2.out).trans (Chg.of_below (Da (Below.refl _ _)))).trans hcd)
 clear hsd hcd hmd hturn hkeep ht3 hx3
 clear c1 c2 c3 c4 f0 f1 f2 f3 f4 e4 e5 e6 e7 e8 e9 e10 t0 t1 t2 t4 t5 t6 t7 t9 tf s0 s1 s2 s3 s4 s5 s6 s9 sf
 exact Y670):p:=h
theorem Q671.Y670 (h:p:=by
 cases okb with
 | false=>
  have HX:Hid (Dc now alone ⟨3,id,en,at',name,text,ev⟩ s=none):=Lib.hid (by
   rcases HDEC.out with ⟨-,hno⟩|⟨q,-⟩
   ·simp[Dc,HA.out,hno]
   ·cases q)
  exact M85
 | true=>
  cases yb with
  | false=>
   have HX:Hid (Dc now alone ⟨3,id,en,at',name,text,ev⟩ s=none):=Lib.hid (by
    rcases HDEC.out with ⟨q,-⟩|⟨-,t,h1,h2,h3,h4,h5,-⟩
    ·cases q
    ·simp[Dc,HA.out,h1,h4])
   exact M85
  | true=>
   by_cases q3:yN=en
   ·have k3 : decide (yN = en) = true := decide_eq_true q3
    have HX:Hid (Dc now alone ⟨3,id,en,at',name,text,ev⟩ s=some {s with tasks:=GV s.tasks id}):=Lib.hid (by
     rcases HDEC.out with ⟨q,-⟩|⟨-,t,h1,h2,h3,h4,h5,-⟩
     ·cases q
     ·simp[Dc,HA.out,h1,h4,h3,q3])
    exact M117
   ·have k3 : decide (yN = en) = false := decide_eq_false q3
    have HX:Hid (Dc now alone ⟨3,id,en,at',name,text,ev⟩ s=none):=Lib.hid (by
     rcases HDEC.out with ⟨q,-⟩|⟨-,t,h1,h2,h3,h4,h5,-⟩
     ·cases q
     ·simp[Dc,HA.out,h1,h4,h3,q3])
    exact M134):p:=h
theorem Q500.Y499 (h:p:=by
 have hx3:Ev.EBox wd w.heap.size (Db ⟨3,id,en,at',name,text,ev⟩ vk vn vf vs A m c):=(hkeep w.heap.size (by have:=HZ2.out;omega) (by omega)).trans (HE.out W2 HQ2.out)
 open Q671 in exact M670):p:=h
theorem Q209.Y207 (h:p:=by
 open Q500 in exact M499):p:=h
theorem Q322.Y321 (h:p:=by
 obtain⟨t0,t1,t2,t3,t4,t5,t6,t7,t8,t9,tf⟩:=Fc HT2.out
 exact Y207):p:=h
theorem Q344.Y342 (h:p:=by
 have H0:=Lib.hid h
 have HBW:=Lib.hid hb1
 open Q322 in exact M321):p:=h
theorem KR (h:p:=by
 open Q344 in exact M342):p:=h
theorem Q407.Y402 (h:p:=by
 have hx1:Ev.EBox W1 w.heap.size (Db ⟨3,id,en,at',name,text,ev⟩ vk vn vf vs A m c):=by rw[hW1];exact heap_alloc_new _ _
 have hgl:g<w.heap.size:=(Array.getElem?_eq_some_iff.1 h.blk).1
 have HE:Hid (∀W,Below W1.heap.size W1 W->Ev.EBox W w.heap.size (Db ⟨3,id,en,at',name,text,ev⟩ vk vn vf vs A m c)):=Lib.hid fun W hW=>(hW.block _ (by omega)).trans hx1
 open Q209 in exact KR):p:=h
theorem Q274.Y272 (h:p:=by
 obtain⟨W1,hW1⟩:∃W1,W1=w.alloc (.cells (Db ⟨3,id,en,at',name,text,ev⟩ vk vn vf vs A m c) 61):=⟨_,rfl⟩
 open Q407 in exact Vi):p:=h
theorem Jo (g bt bm bk:Nat)(s:ST)(h:SAt Y w g bt bm bk n s)(e:EV)(he:FW e)(hk:e.k=3)(vk vn:Int)(vf:Nat)(vs:ByteArray)(A:Option Addr)(m c:Nat)(now:Nat)(alone:Bool) :
  Calls Tryz.prog 103 #[.pointer (some ⟨g,0,none⟩),.agg (Db e vk vn vf vs A m c),.int .u64 (now:Nat),.bool alone] w (Sp Y w g bt bm bk n (Dc now alone e s)):=by
 obtain⟨k,id,en,at',name,text,ev⟩:=e
 obtain rfl:k=3:=hk
 have hi:=he.f.i1
 dsimp only at hi
 have HA:Hid (at'=0):=Lib.hid (he.a3 rfl)
 obtain⟨yi,yn,yk,yv,yf,ys,yA,ym,yc,yN,yb,ya,okb,hl,hyN,hdec⟩:=h.maps.tasks.any2 id hi
 have HDEC:=Lib.hid hdec
 clear hdec
 open Q274 in exact Vx
theorem Q672.Y670 (h:p:=by
 cases okb with
 | false=>
  have HX:Hid (Dc now alone ⟨4,id,en,at',name,text,ev⟩ s=none):=Lib.hid (by
   rcases HDEC.out with ⟨-,hno⟩|⟨q,-⟩
   ·simp[Dc,HA.out,hno]
   ·cases q)
  exact M85
 | true=>
  cases yb with
  | false=>
   have HX:Hid (Dc now alone ⟨4,id,en,at',name,text,ev⟩ s=none):=Lib.hid (by
    rcases HDEC.out with ⟨q,-⟩|⟨-,t,h1,h2,h3,h4,h5,-⟩
    ·cases q
    ·simp[Dc,HA.out,h1,h4])
   exact M85
  | true=>
   by_cases q3:yN=en
   ·have k3 : decide (yN = en) = true := decide_eq_true q3
    have HX:Hid (Dc now alone ⟨4,id,en,at',name,text,ev⟩ s=some {s with tasks:=GV s.tasks id}):=Lib.hid (by
     rcases HDEC.out with ⟨q,-⟩|⟨-,t,h1,h2,h3,h4,h5,-⟩
     ·cases q
     ·simp[Dc,HA.out,h1,h4,h3,q3])
    exact M117
   ·have k3 : decide (yN = en) = false := decide_eq_false q3
    have HX:Hid (Dc now alone ⟨4,id,en,at',name,text,ev⟩ s=none):=Lib.hid (by
     rcases HDEC.out with ⟨q,-⟩|⟨-,t,h1,h2,h3,h4,h5,-⟩
     ·cases q
     ·simp[Dc,HA.out,h1,h4,h3,q3])
    exact M134):p:=h
theorem Q501.Y499 (h:p:=by
 have hx3:Ev.EBox wd w.heap.size (Db ⟨4,id,en,at',name,text,ev⟩ vk vn vf vs A m c):=(hkeep w.heap.size (by have:=HZ2.out;omega) (by omega)).trans (HE.out W2 HQ2.out)
 open Q672 in exact M670):p:=h
theorem Q208.Y207 (h:p:=by
 open Q501 in exact M499):p:=h
theorem Q408.Y402 (h:p:=by
 have hx1:Ev.EBox W1 w.heap.size (Db ⟨4,id,en,at',name,text,ev⟩ vk vn vf vs A m c):=by rw[hW1];exact heap_alloc_new _ _
 have hgl:g<w.heap.size:=(Array.getElem?_eq_some_iff.1 h.blk).1
 have HE:Hid (∀W,Below W1.heap.size W1 W->Ev.EBox W w.heap.size (Db ⟨4,id,en,at',name,text,ev⟩ vk vn vf vs A m c)):=Lib.hid fun W hW=>(hW.block _ (by omega)).trans hx1
 open Q208 in exact KR):p:=h
theorem Q273.Y272 (h:p:=by
 obtain⟨W1,hW1⟩:∃W1,W1=w.alloc (.cells (Db ⟨4,id,en,at',name,text,ev⟩ vk vn vf vs A m c) 61):=⟨_,rfl⟩
 open Q408 in exact Vi):p:=h
theorem Jn (g bt bm bk:Nat)(s:ST)(h:SAt Y w g bt bm bk n s)(e:EV)(he:FW e)(hk:e.k=4)(vk vn:Int)(vf:Nat)(vs:ByteArray)(A:Option Addr)(m c:Nat)(now:Nat)(alone:Bool)(ha:e.at'=0) :
  Calls Tryz.prog 103 #[.pointer (some ⟨g,0,none⟩),.agg (Db e vk vn vf vs A m c),.int .u64 (now:Nat),.bool alone] w (Sp Y w g bt bm bk n (Dc now alone e s)):=by
 obtain⟨k,id,en,at',name,text,ev⟩:=e
 obtain rfl:k=4:=hk
 have hi:=he.f.i1
 dsimp only at hi
 have HA:Hid (at'=0):=Lib.hid ha
 have ka:decide (at'>0)=false:=decide_eq_false (by rw[HA.out];decide)
 clear ha
 obtain⟨yi,yn,yk,yv,yf,ys,yA,ym,yc,yN,yb,ya,okb,hl,hyN,hdec⟩:=h.maps.tasks.any2 id hi
 have HDEC:=Lib.hid hdec
 clear hdec
 open Q273 in exact Vx
theorem M687 (h:p:=by
 rw[<-hW3.out]
 clear h c0 c1 c2 c3 c4 f0 f1 f2 f3 f4 e0 e1 e2 e3 e4 e5 e6 e7 e8 e9 e10 t0 t1 t2 t3 t4 t5 t6 t7 t8 t9 tf
 have h:=HH3.out
 obtain⟨c0,c1,c2,c3,c4,f0,f1,f2,f3,f4⟩:=DE h.blk
 obtain⟨e0,e1,e2,e3,e4,e5,e6,e7,e8,e9,e10⟩:=Ev.EBox.cells (HE.out W3 HQ3.out)
 dsimp only at e0 e1 e2 e3 e4 e5
 exact Y687):p:=h
theorem M183 (h:p:=by
 go_still_tail 7,(by kernel_rfl)
 go_wp2_with fail
 go_ret
 exact⟨by simp[*],W3.drew,HFIN.out,hput⟩):p:=h
theorem Q689.Y687 (h:p:=by
 obtain⟨t0,t1,t2,t3,t4,t5,t6,t7,t8,t9,tf⟩:=Fc HT3.out
 exact M183):p:=h
theorem M12 (h:p:=by
 obtain⟨W3,hW3⟩:∃W3,W3=((W2.setCell ⟨W1.heap.size,9,none⟩ (.int .u64 (at':Nat))).setCell ⟨W1.heap.size,8,none⟩ (.bool false)):=⟨_,rfl⟩
 have hq3:Below W1.heap.size W1 W3:=by rw[hW3];exact((HQ2.out).setCell (Nat.le_refl _) _).setCell (Nat.le_refl _) _
 have ht3:W3.heap[W1.heap.size]?=some (.cells #[.int .u64 (yi:Nat),.string yn,.int .i64 yk,.int .i64 yv,.float .f64 yf,.string ys,.slice yA ym yc,.int .i64 yN,.bool false,.int .u64 (at':Nat)] 36 (0,0)):=by
  have:=HT2.out
  rw[hW3];show ((W2.setCell ⟨W1.heap.size,9,none⟩ (.int .u64 (at':Nat))).setCell ⟨W1.heap.size,8,none⟩ (.bool false)).heap[W1.heap.size]?=_;simp[World.setCell,Array.getElem?_modify,this]
 have h3:=HST.out W3 hq3
 have hdw:Below W1.heap.size W1 W3.drew:=Da hq3
 obtain⟨wd,hput,-⟩:=(HST.out W3.drew hdw).maps.tasks.raw (by simp only[maxLen];omega) id hi (.agg #[.int .u64 (yi:Nat),.string yn,.int .i64 yk,.int .i64 yv,.float .f64 yf,.string ys,.slice yA ym yc,.int .i64 yN,.bool false,.int .u64 (at':Nat)])
 have HH3:=Lib.hid h3;have HT3:=Lib.hid ht3;have HQ3:=Lib.hid hq3
 have HFIN:Hid (Below w.heap.size w W3.drew):=Lib.hid (HBW.out.trans (hdw.mono HBW.out.size))
 replace hW3:=Lib.hid hW3
 clear h3 ht3 hq3 hdw
 go_upto_region 20 with fail
 open Q689 in exact M687):p:=h
theorem Q210.Y207 (h:p:=by
 have f8:=tf 8;have f9:=tf 9
 cases okb with
 | false=>
  exact M12
 | true=>
  cases yb with
  | false=>
   exact M12
  | true=>
   by_cases q3:yN=en
   ·subst q3
    by_cases q5:now<=at'
    ·have k5 : decide (now <= at') = true := decide_eq_true q5
     cases alone with
     | true=>
      exact M12
     | false=>
      exact M12
    ·have k5 : decide (now <= at') = false := decide_eq_false q5
     exact M12
   ·have k3 : decide (yN = en) = false := decide_eq_false q3
    exact M12):p:=h
theorem Q409.Y402 (h:p:=by
 have hx1:Ev.EBox W1 w.heap.size (Db ⟨4,id,en,at',name,text,ev⟩ vk vn vf vs A m c):=by rw[hW1];exact heap_alloc_new _ _
 have hgl:g<w.heap.size:=(Array.getElem?_eq_some_iff.1 h.blk).1
 have HE:Hid (∀W,Below W1.heap.size W1 W->Ev.EBox W w.heap.size (Db ⟨4,id,en,at',name,text,ev⟩ vk vn vf vs A m c)):=Lib.hid fun W hW=>(hW.block _ (by omega)).trans hx1
 open Q210 in exact KR):p:=h
theorem Q276.Y272 (h:p:=by
 obtain⟨W1,hW1⟩:∃W1,W1=w.alloc (.cells (Db ⟨4,id,en,at',name,text,ev⟩ vk vn vf vs A m c) 61):=⟨_,rfl⟩
 open Q409 in exact Vi):p:=h
theorem KE (g bt bm bk:Nat)(s:ST)(h:SAt Y w g bt bm bk n s)(hn:n<17592186044416)(e:EV)(he:FW e)(hk:e.k=4)(ha:e.at'≠0)(vk vn:Int)(vf:Nat)(vs:ByteArray)(A:Option Addr)(m c:Nat)(now:Nat)(alone:Bool)(yi:Nat)(yn:ByteArray)(yk yv:Int)(yf:Nat)(ys:ByteArray)(yA:Option Addr)(ym yc:Nat)(yN:Int)(yb:Bool)(ya:Nat)(okb:Bool)(hN0:0<=yN)(hN1:yN<=2147483647)(hl:∀W:World,W.heap[bt]?=w.heap[bt]?->(Instr.lookup 119 (.map (some bt)) (.int .u64 (e.id:Nat)) true).run Tryz.prog W= .ok (.tuple #[.agg #[.int .u64 (yi:Nat),.string yn,.int .i64 yk,.int .i64 yv,.float .f64 yf,.string ys,.slice yA ym yc,.int .i64 yN,.bool yb,.int .u64 (ya:Nat)],.bool okb]) W) :
  Calls Tryz.prog 103 #[.pointer (some ⟨g,0,none⟩),.agg (Db e vk vn vf vs A m c),.int .u64 (now:Nat),.bool alone] w fun r w'=>r= .returned (.bool (okb&&yb&&decide (yN=e.n)&&decide (now<=e.at')&&alone))/\∃W3,Below w.heap.size w W3/\(Instr.mapUpdate 119 (.map (some bt)) (.int .u64 (e.id:Nat)) (.agg #[.int .u64 (yi:Nat),.string yn,.int .i64 yk,.int .i64 yv,.float .f64 yf,.string ys,.slice yA ym yc,.int .i64 yN,.bool false,.int .u64 (e.at':Nat)])).run Tryz.prog W3= .ok () w':=by
 obtain⟨k,id,en,at',name,text,ev⟩:=e
 obtain rfl:k=4:=hk
 have hi:=he.f.i1
 dsimp only at hi
 dsimp only at hl ha ⊢
 have ka:decide (at'>0)=true:=decide_eq_true (by omega)
 open Q276 in exact Vx
theorem KC (g bt bm bk:Nat)(s:ST)(h:SAt Y w g bt bm bk n s)(e:EV)(he:FW e)(hk:e.k=4)(vk vn:Int)(vf:Nat)(vs:ByteArray)(A:Option Addr)(m c:Nat)(now:Nat)(alone:Bool)(hn:n<17592186044416)(ha:e.at'≠0) :
  Calls Tryz.prog 103 #[.pointer (some ⟨g,0,none⟩),.agg (Db e vk vn vf vs A m c),.int .u64 (now:Nat),.bool alone] w (Sp Y w g bt bm bk n (Dc now alone e s)):=by
 have hi:=he.f.i1
 obtain⟨yi,yn,yk,yv,yf,ys,yA,ym,yc,yN,yb,ya,okb,hl,hyN,hdec⟩:=h.maps.tasks.any2 e.id hi
 refine(KE g bt bm bk s h hn e he hk ha vk vn vf vs A m c now alone yi yn yk yv yf ys yA ym yc yN yb ya okb hyN.1 hyN.2 hl).mono ?_
 rintro r w' ⟨rfl,W3,hb,hr⟩
 refine⟨XZ h hn hb hi hr,?_⟩
 rcases hdec with ⟨rfl,hno⟩|⟨rfl,t,h1,h0,h2,h3,h4,hrep⟩
 ·have hX : Dc now alone e s = none := by simp [Dc, hk, hno]
  rw[hX];rfl
 ·by_cases hc : t.fl = true /\ t.n = e.n
  ·by_cases hd : now <= e.at' /\ alone = true
   ·have hX : Dc now alone e s = some { s with tasks := FN s.tasks { t with at' := e.at', fl := false } } := by simp [Dc, hk, h1, hc, ha, hd]
    rw[hX]
    obtain⟨c1,c2⟩:=hc
    obtain⟨c4,c5⟩:=hd
    refine⟨Nm.De (by simp[<-h2, <-h3,c1,c2,c4,c5]),?_⟩
    have hz:=hrep yN false e.at' hyN.1 hyN.2 he.f.a1
    rw[show ({t with n:=yN,fl:=false,at':=e.at'}:TK)={t with at':=e.at',fl:=false} from by rw[<-h2]] at hz
    exact(XW (t:={t with at':=e.at',fl:=false}) h hn hb (h0 ▸ h1) hz (by rw[show ({t with at':=e.at',fl:=false}:TK).id=e.id from h0];exact hr)).2
   ·have hX : Dc now alone e s = none := by simp [Dc, hk, h1, hc, ha, hd]
    rw[hX]
    refine Nm.De (Bool.eq_false_iff.2 fun q=>hd ?_)
    simp only[Bool.and_eq_true,decide_eq_true_eq,Bool.true_and] at q
    exact⟨q.1.2,q.2⟩
  ·have hX : Dc now alone e s = none := by simp [Dc, hk, h1, hc]
   rw[hX]
   refine Nm.De (Bool.eq_false_iff.2 fun q=>hc ?_)
   simp only[Bool.and_eq_true,decide_eq_true_eq,Bool.true_and] at q
   exact⟨h3.trans q.1.1.1,h2.trans q.1.1.2⟩
end Hi
namespace Cn
open Nm (Di Dk De)
open Vt (VT Rep BoxAt Da DX DY KidsAt Fy)
open Ev (EV Dj Db Dn EBox SJ zeroT take_drop tk ap rd1 rd2 Dh)
open Cm (rowOf EvsIn EvsAt EvNew FU Gr)
theorem M186 (h:p:=by
 go_enter Tryz.func102,Tryz.ntmps102
 go_wp2_with fail
 go_ret
 exact⟨De (by simp[h]),rfl⟩):p:=h
theorem Pb (k:Int)(w:World):Calls Tryz.prog 102 #[.int .i64 k] w fun r w'=>r= .returned (.bool (decide (1<=k/\k<=6)))/\w=w':=by
 by_cases h:1<=k
 ·have hb : decide (1 <= k) = true := by simpa using h
  exact M186
 ·have hb : decide (1 <= k) = false := by simpa using h
  exact M186
def Asks (g:Nat)(p:EV->Bool)(es:List EV):Prop:=∀(e:EV) (_:e∈es) (lo hi:Nat) (vk vn:Int) (vf:Nat) (vs:ByteArray) (A:Option Addr) (m c:Nat) (w:World),Dj e->Rep w lo hi e.v (Dn vk vn vf vs A m c)->hi<=w.heap.size->
 Calls Tryz.prog g #[.agg (Db e vk vn vf vs A m c)] w fun r w'=>r= .returned (.bool (p e))/\Below w.heap.size w w'
def Found (p:EV->Bool)(es:List EV)(i:Int):Prop:=(i= -1/\∀m (h:m<es.length),p es[m]=false)\/∃n:Nat,i=n/\∃h:n<es.length,p es[n]=true/\∀m (h:m<es.length),m<n->p es[m]=false
theorem Ny (g:Nat)(hcall:∀args w,(callFunc g args).run Tryz.prog w= .ok (.enter g args) w)(p:EV->Bool)(es:List EV)(hG:Asks g p es)(A:Option Addr)(cap:Nat)(w:World)(h:EvsIn w A cap es) :
  Calls Tryz.prog 133 #[.slice A es.length cap,.func (.func g) #[] #[]] w fun r w'=>∃i,r= .returned (.int .i64 i)/\Found p es i/\Below w.heap.size w w':=by
 have hl:=h.le
 have hc:=h.cap_le
 simp only[maxLen] at hc
 have HK:=Lib.hid h;clear h
 have HG:=Lib.hid hG;clear hG
 go_enter Tryz.func133,Tryz.ntmps133
 go_wp2_with fail
 go_loopw [4,8] (fun o i wr=>∃(j:Nat),j<=es.length/\i= .int .i64 j/\o= .int .i64 0/\(∀m (h:m<es.length),m<j->p es[m]=false)/\Below w.heap.size w wr) (fun _ i _=>es.length-(intOf i).toNat)
 case atStart=>exact⟨0,by omega,rfl,rfl,fun m _ h=>absurd h (by omega),Below.refl _ _⟩
 case round=>
  obtain⟨j,hj,rfl,rfl,hno,hb⟩:=hrel
  have HNO:=Lib.hid hno;have HB:=Lib.hid hb
  clear hno hb
  by_cases hlt:j<es.length
  ·obtain ⟨b, off, lo, hi, vk, vn, vf, vs, A', m, c, rfl, hbl, hf, hv, hhi, d0, d1, d2, d3, d4, d5, d6, d7, d8, d9, d10⟩ := (HK.out.later HB.out).get j hlt
   have HC:=Lib.hid (HG.out es[j] (List.getElem_mem hlt) lo hi vk vn vf vs A' m c wr hf hv hhi)
   unfold Db at HC
   clear hf hv
   go_wp2_with fail
   refine HC.out.mono ?_
   rintro x w1 ⟨rfl,hb1⟩
   have HB1:=Lib.hid (HB.out.trans (hb1.mono HB.out.size))
   clear hb1 d0 d1 d2 d3 d4 d5 d6 d7 d8 d9 d10 HC
   cases hp:p es[j] with
   | true=>
    have HP:=Lib.hid hp;clear hp
    go_wp2_with fail
    go_ret
    exact⟨_,rfl,.inr ⟨j,rfl,hlt,HP.out,HNO.out⟩,HB1.out⟩
   | false=>
    have HP:=Lib.hid hp;clear hp
    go_wp2_with fail
    go_roundw
    case rel => exact ⟨j + 1, by omega, by go_num, rfl, fun m h hm => by
     rcases Nat.lt_or_ge m j with q|q
     ·exact HNO.out m h q
     ·obtain rfl : m = j := by omega
      exact HP.out,HB1.out⟩
    case measure=>simp[intOf];omega
  ·have hj' : j = es.length := by omega
   subst hj'
   go_wp2_with fail
   go_ret
   exact⟨_,rfl,.inl ⟨rfl,fun m h=>HNO.out m h h⟩,HB.out⟩
end Cn
end Go.Proofs.YtaahfiopdoinkaaGreat
