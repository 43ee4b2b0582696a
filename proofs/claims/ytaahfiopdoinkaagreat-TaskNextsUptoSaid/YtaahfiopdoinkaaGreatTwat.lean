/- An index in memory: its map, the histories, the names, the records. -/
import Derived.Test.YtaahfiopdoinkaaGreatTwan
import Derived.Test.YtaahfiopdoinkaaGreatTwas
import Derived.Test.YtaahfiopdoinkaaGreatTwaj
import Derived.WideKeyEntry
set_option maxRecDepth 100000
set_option maxHeartbeats 4000000
variable {p : Prop}
set_option linter.unusedVariables false
set_option linter.unusedSimpArgs false
open Go.RowKit
namespace Go.Proofs.YtaahfiopdoinkaaGreat
open Go.RowKit Go.ChangeShapes Go.WideShapes Go.WideMaps Go.Maps Go.ChangeMaps Go.MapKept
namespace Hi
open Vt (VT Rep Da)
open Ev (EV)
open Cm (rowOf EvsIn)
open Cn (BT BtsIn)
open Bt (BOwn)
variable {X X' Y Y' B B' E E' : Nat -> Prop} {u v w w' w0 V V' : World} {fl : List HM} {ps : List HB}
def JX (b:Nat):Value:= .pointer (some ⟨b,0,none⟩)
def OY (fl:List HM)(ps:List HB)(s:ByteArray):Option Value:=(Dr fl s).bind fun i=>(ps[i]?).map fun p=>JX p.hb
def FMap (w:World)(b n:Nat)(fl:List HM)(ps:List HB):Prop:=∃D:DataW Value,w.ownsMap Tryz.prog 9 HR b n D/\∀s:ByteArray,s.size<=maxLen->At D (.string s.data.toList) (OY fl ps s)
theorem Xe (w:World):(zeroValue 77).run Tryz.prog w= .ok (.pointer none) w:=by rw[Tryz.zeroValue77]
section
variable {b n : Nat}
theorem FMap.keep (h:FMap w b n fl ps)(hk:w'.heap[b]?=w.heap[b]?):FMap w' b n fl ps:=by
 exact M149
theorem FMap.lt (h:FMap w b n fl ps):b<w.heap.size:=let ⟨_,h1,_⟩:=h;h1.lt
theorem FMap.made (w:World):FMap (w.alloc (.map #[] 0)) w.heap.size 0 [] []:=⟨.map [],World.ownsMap_made _ _ _ _,fun s _=>At.empty _⟩
theorem FMap.look2 (h:FMap w b n fl ps)(s:ByteArray)(hs:s.size<=maxLen)(W:World)(hW:W.heap[b]?=w.heap[b]?) :
  (Instr.lookup 96 (.map (some b)) (.string s) true).run Tryz.prog W= .ok (.tuple #[(OY fl ps s).getD (.pointer none),.bool (OY fl ps s).isSome]) W:=by
 obtain⟨D,h1,h2⟩:=h
 exact Hi.look2 (DW h1 hW) FH Tryz.underlying96 (Xe W) (Gv s hs) (h2 s hs)
theorem FMap.look1 (h:FMap w b n fl ps)(s:ByteArray)(hs:s.size<=maxLen)(W:World)(hW:W.heap[b]?=w.heap[b]?) :
  (Instr.lookup 96 (.map (some b)) (.string s) false).run Tryz.prog W= .ok ((OY fl ps s).getD (.pointer none)) W:=by
 obtain⟨D,h1,h2⟩:=h
 exact Hi.look1 (DW h1 hW) FH Tryz.underlying96 (Xe W) (Gv s hs) (h2 s hs)
theorem PQ {g:HM}(hx:Dr fl g.flow=none)(s:ByteArray):Dr (fl++ [g]) s=if s=g.flow then some fl.length else Dr fl s:=by
 unfold Dr at hx ⊢
 rw[List.findIdx?_append]
 by_cases h:s=g.flow
 ·subst h
  rw[hx,if_pos rfl]
  simp[List.findIdx?_cons]
 ·rw [if_neg h]
  cases List.findIdx? (fun h=>decide (h.flow=s)) fl with
  | some i=>rfl
  | none=>simp[List.findIdx?_cons,show ¬g.flow=s from fun e=>h e.symm]
theorem FMap.put (h:FMap w b n fl ps)(hn:n<maxLen)(g:HM)(p:HB)(hs:g.flow.size<=maxLen)(hx:Dr fl g.flow=none)(hl:ps.length=fl.length) :
  ∃w',(Instr.mapUpdate 96 (.map (some b)) (.string g.flow) (JX p.hb)).run Tryz.prog w= .ok () w'/\FMap w' b (n+1) (fl++ [g]) (ps++ [p])/\w.mapTurned w' b:=by
 obtain⟨D,h1,h2⟩:=h
 obtain⟨w',hr,own,turn⟩:=h1.store FH Tryz.underlying96 hn (Gv g.flow hs) (d:= .held (JX p.hb)) (ps:=[]) rfl
 refine⟨w',hr,⟨_,own,fun s hs'=> ?_⟩,turn⟩
 unfold OY
 rw[PQ hx]
 by_cases e:s=g.flow
 ·subst e
  rw[if_pos rfl]
  simp only[Option.bind_some]
  rw[<-hl,List.getElem?_append_right (Nat.le_refl _),Nat.sub_self]
  exact At.put h1.isMap (show WideAt.IsKeyLit (Lit.string g.flow.data.toList) from trivial) _
 ·rw [if_neg e]
  have k:=At.put_other (h2 s hs') (Uf e) (JX p.hb)
  unfold OY at k
  cases hf:Dr fl s with
  | none=>rw[hf] at k;exact k
  | some i=>
   rw[hf] at k
   obtain⟨hi,-⟩:=DL hf
   simp only[Option.bind_some] at k ⊢
   rw[List.getElem?_append_left (by omega)]
   exact k
theorem ptrX_set {i:Nat}{p p':HB}{g:HM}(hi:i<fl.length)(hp:ps[i]?=some p)(hg:g.flow=fl[i].flow)(hb:p'.hb=p.hb)(s:ByteArray):OY (fl.set i g) (ps.set i p') s=OY fl ps s:=by
 unfold OY
 rw[NH hi hg]
 cases Dr fl s with
 | none=>rfl
 | some j=>
  simp only[Option.bind_some]
  by_cases e:i=j
  ·subst e
   rw[List.getElem?_set_self (List.getElem?_eq_some_iff.1 hp).1,hp]
   simp[hb]
  ·rw[List.getElem?_set_ne e]
theorem FMap.set (h:FMap w b n fl ps){i:Nat}{p p':HB}{g:HM}(hi:i<fl.length)(hp:ps[i]?=some p)(hg:g.flow=fl[i].flow)(hb:p'.hb=p.hb):FMap w b n (fl.set i g) (ps.set i p'):=by
 obtain⟨D,h1,h2⟩:=h
 exact⟨D,h1,fun s hs=>by rw[ptrX_set hi hp hg hb];exact h2 s hs⟩
end
def xC (mb:Nat)(N:Option Addr)(n cN clk:Nat)(R:Option Addr)(m cR:Nat):Array Value:= #[.map (some mb),.slice N n cN,.int .u64 (clk:Nat),.slice R m cR]
theorem DK {W:World}{g mb n cN clk m cR:Nat}{N R:Option Addr}(h:W.heap[g]?=some (.cells (xC mb N n cN clk R m cR) 99 (0,0))) :
  W.cell? ⟨g,0,none⟩=some (.map (some mb))/\W.cell? ⟨g,1,none⟩=some (.slice N n cN)/\W.cell? ⟨g,2,none⟩=some (.int .u64 (clk:Nat))/\W.cell? ⟨g,3,none⟩=some (.slice R m cR)/\∀o,W.frozen? ⟨g,o,none⟩=false:=by
 simp[World.cell?,World.frozen?,h,xC]
def XB (E:Nat->Prop)(xb mb:Nat)(N R:Option Addr)(c:Nat):Prop:=E c\/c=xb\/c=mb\/rowOf N=some c\/rowOf R=some c
def RRow (w V:World)(R:Option Addr)(cR:Nat)(rl:List (List Nat)):Prop:=∃xs,w.ownsRow 0 100 1 (.slice R rl.length cR) rl.length xs/\∀i (h:i<rl.length),∃v,xs[i]?=some v/\Bt.BIn V v rl[i]
theorem BIn.leads {x:Value}{l:List Nat}(h:Bt.BIn v x l)(hl:Leads v w):Bt.BIn w x l:=by
 rcases h with h|⟨ad,cap,h1,h2,h3,h4,h5⟩
 ·exact .inl h
 ·exact .inr ⟨ad,cap,h1,h2,h3,Nat.lt_of_lt_of_le h4 hl.size,fun j u hu=>hl.cell (h5 j u hu)⟩
theorem RRow.nil (w V:World):RRow w V none 0 []:=⟨[],⟨rfl,.inl ⟨rfl,rfl⟩⟩,fun i h=>absurd h (by simp)⟩
theorem RRow.move {R:Option Addr}{cR:Nat}{rl:List (List Nat)}(h:RRow w V R cR rl)(hb:∀r,rowOf R=some r->w'.heap[r]?=w.heap[r]?)(hl:Leads V V'):RRow w' V' R cR rl:=by
 obtain⟨xs,h1,h2⟩:=h
 exact⟨xs,Dx h1 hb,fun i hi=>by
  obtain⟨v,k1,k2⟩:=h2 i hi
  exact⟨v,k1,BIn.leads k2 hl⟩⟩
structure XP (E : Nat -> Prop) (w : World) (xb mb nm : Nat) (N : Option Addr) (cN : Nat) (R : Option Addr) (cR : Nat) (ps : List HB) (fl : List HM) (nl : List ByteArray) (clk : Nat) (rl : List (List Nat)) : Prop where
 blk:w.heap[xb]?=some (.cells (xC mb N nl.length cN clk R rl.length cR) 99 (0,0))
 map:FMap w mb nm fl ps
 names:w.ownsRow 0 9 1 (.slice N nl.length cN) nl.length (nl.map .string)
 recs:RRow w (Ds (HZs (XB E xb mb N R) ps) w) R cR rl
 hs:HsAt (XB E xb mb N R) w ps fl
 e1:¬E xb
 e2:¬E mb
 d1:mb≠xb
 dN:∀r,rowOf N=some r->¬E r/\r≠xb/\r≠mb
 dR:∀r,rowOf R=some r->¬E r/\r≠xb/\r≠mb/\rowOf N≠some r
 nn:nm<=fl.length
section
variable {xb mb nm cN cR clk : Nat} {N R : Option Addr} {nl : List ByteArray} {rl : List (List Nat)}
theorem XP.lt (H:XP E w xb mb nm N cN R cR ps fl nl clk rl):xb<w.heap.size:=(Array.getElem?_eq_some_iff.1 H.blk).1
theorem XP.elt (H:XP E w xb mb nm N cN R cR ps fl nl clk rl){c:Nat}(h:E c):c<w.heap.size:=H.hs.bz c (.inl h)
theorem XP.n_lt (H:XP E w xb mb nm N cN R cR ps fl nl clk rl)(r:Nat)(h:rowOf N=some r):r<w.heap.size:=H.hs.bz r (.inr (.inr (.inr (.inl h))))
theorem XP.r_lt (H:XP E w xb mb nm N cN R cR ps fl nl clk rl)(r:Nat)(h:rowOf R=some r):r<w.heap.size:=H.hs.bz r (.inr (.inr (.inr (.inr h))))
theorem XP.step (H:XP E w xb mb nm N cN R cR ps fl nl clk rl)(hc:Chg E w w')(h1:∀c,E' c->E c\/w.heap.size<=c)(h2:∀c,E' c->c<w'.heap.size):XP E' w' xb mb nm N cN R cR ps fl nl clk rl:=by
 have hne:∀c,c<w.heap.size->¬E c->¬E' c:=fun c hc k q=>by
  rcases h1 c q with q|q
  ·exact k q
  ·omega
 have hb:∀c,XB E' xb mb N R c->XB E xb mb N R c\/w.heap.size<=c:=fun c q=>by
  rcases q with q|q
  ·exact(h1 c q).imp .inl id
  ·exact .inl (.inr q)
 have hl:Leads (Ds (HZs (XB E xb mb N R) ps) w) (Ds (HZs (XB E' xb mb N R) ps) w'):=Dp hc.size fun c hcl hx=>⟨fun q=>by
  rcases Pj hb q with q|q
  ·exact hx q
  ·omega,hc.block c hcl fun e=>hx (.inl (.inl e))⟩
 refine⟨(hc.block xb H.lt H.e1).trans H.blk,H.map.keep (hc.block mb H.map.lt H.e2),Dx H.names fun r hr=>hc.block r (H.n_lt r hr) (H.dN r hr).1,H.recs.move (fun r hr=>hc.block r (H.r_lt r hr) (H.dR r hr).1) hl,H.hs.step (hc.mono fun c q=> .inl q) hb fun c q=> ?_,hne _ H.lt H.e1,hne _ H.map.lt H.e2,H.d1,fun r hr=>⟨hne r (H.n_lt r hr) (H.dN r hr).1,(H.dN r hr).2⟩,fun r hr=>⟨hne r (H.r_lt r hr) (H.dR r hr).1,(H.dR r hr).2⟩,H.nn⟩
 rcases q with q|q
 ·exact h2 c q
 ·exact Nat.lt_of_lt_of_le (H.hs.bz c (.inr q)) hc.size
theorem XP.later (H:XP E w xb mb nm N cN R cR ps fl nl clk rl)(hb:Below w.heap.size w w'):XP E w' xb mb nm N cN R cR ps fl nl clk rl:=H.step (Chg.of_below hb) (fun c h=> .inl h) fun c h=>Nat.lt_of_lt_of_le (H.elt h) hb.size
theorem XP.chg (H:XP E w xb mb nm N cN R cR ps fl nl clk rl)(hc:Chg E w w'):XP E w' xb mb nm N cN R cR ps fl nl clk rl:=H.step hc (fun c h=> .inl h) fun c h=>Nat.lt_of_lt_of_le (H.elt h) hc.size
theorem XP.hadd (H:XP E w xb mb nm N cN R cR ps fl nl clk rl){i:Nat}{p p':HB}{h':HM}(hp:ps[i]?=some p)(hbb:p'.hb=p.hb)(hc:Chg (HZ p.hb p.A) w w')(hr:∀r,rowOf p'.A=some r->rowOf p.A=some r\/w.heap.size<=r)(hk:p'.at_ (HYs (XB E xb mb N R) ps i) w' h')(hi:i<fl.length)(hf:h'.flow=fl[i].flow) :
  XP E w' xb mb nm N cN R cR (ps.set i p') (fl.set i h') nl clk rl:=by
 have hn:∀c,XB E xb mb N R c->¬HZ p.hb p.A c:=fun c q k=>H.hs.sepB hp k q
 have hl:Leads (Ds (HZs (XB E xb mb N R) ps) w) (Ds (HZs (XB E xb mb N R) (ps.set i p')) w'):=Dp hc.size fun c hcl hx=>⟨fun q=>by
  rcases zs_set hp hbb hr q with q|q
  ·exact hx q
  ·omega,hc.block c hcl fun e=>hx (.inr ⟨i,p,hp,e⟩)⟩
 refine⟨(hc.block xb H.lt (hn _ (.inr (.inl rfl)))).trans H.blk,(H.map.keep (hc.block mb H.map.lt (hn _ (.inr (.inr (.inl rfl)))))).set hi hp hf hbb,Dx H.names fun r hr=>hc.block r (H.n_lt r hr) (hn _ (.inr (.inr (.inr (.inl hr))))),H.recs.move (fun r hr=>hc.block r (H.r_lt r hr) (hn _ (.inr (.inr (.inr (.inr hr)))))) hl,H.hs.added hp hbb hc hr hk,H.e1,H.e2,H.d1,H.dN,H.dR,by rw[List.length_set];exact H.nn⟩
end
variable {X X' Y Y' B B' E E' : Nat -> Prop} {u v w w1 w2 w3 w' w0 V V' : World} {fl : List HM} {ps : List HB} {xb mb nm cN cR clk : Nat} {N R : Option Addr} {nl : List ByteArray} {rl : List (List Nat)}
theorem VY {o:Option Nat}(h:w.grownBy w' o)(hx:∀c,o=some c->X c):Chg X w w':=⟨h.os,h.tape,h.output,h.size,fun b hb k=>h.block b hb fun e=>k (hx b e.symm)⟩
theorem Ld {b:Nat}(h:w.mapTurned w' b):w.heap.size<=w'.heap.size:=(Chg.turned (X:=fun c=>c=b) h rfl).size
theorem Ol {b c:Nat}(h:w.mapTurned w' b)(hc:c<w.heap.size)(hne:c≠b):w'.heap[c]?=w.heap[c]?:=(Chg.turned (X:=fun c=>c=b) h rfl).block c hc hne
theorem XP.join (H : XP E w xb mb nm N cN R cR ps fl nl clk rl) {p : HB} {g : HM} (hb : Below w.heap.size w w1) (h1 : w.heap.size <= p.hb) (h2 : p.A = none) (hk : p.at_ (HZs (XB E xb mb N R) ps) w1 g)
  {N':Option Addr} {cN':Nat} (ho:w2.ownsRow 0 9 1 (.slice N' (nl.length+1) cN') (nl.length+1) (nl.map .string++ [.string g.flow])) (hg:w1.grownBy w2 (rowOf N)) (hr:∀r,rowOf N'=some r->r<w2.heap.size/\(rowOf N=some r\/w1.heap.size<=r))
  (hm:FMap w3 mb (nm+1) (fl++ [g]) (ps++ [p])) (ht:w2.mapTurned w3 mb) :
  XP E (w3.setCell ⟨xb,1,none⟩ (.slice N' (nl.length+1) cN')) xb mb (nm+1) N' cN' R cR (ps++ [p]) (fl++ [g]) (nl++ [g.flow]) clk rl/\Chg (XB E xb mb N R) w (w3.setCell ⟨xb,1,none⟩ (.slice N' (nl.length+1) cN')):=by
 have hC:Chg (XB E xb mb N R) w1 (w3.setCell ⟨xb,1,none⟩ (.slice N' (nl.length+1) cN')):=((VY hg fun c h=> .inr (.inr (.inr (.inl h)))).trans (Chg.turned ht (.inr (.inr (.inl rfl))))).trans (Chg.setCell (p:=⟨xb,1,none⟩) (.inr (.inl rfl)) _)
 have z1:=hb.size;have z2:=hg.size;have z3:=Ld ht
 have hsz:(w3.setCell ⟨xb,1,none⟩ (.slice N' (nl.length+1) cN')).heap.size=w3.heap.size:=by simp[World.setCell]
 have hxl:=H.lt;have hml:=H.map.lt
 have o3:∀c,c<w2.heap.size->c≠mb->c≠xb->(w3.setCell ⟨xb,1,none⟩ (.slice N' (nl.length+1) cN')).heap[c]?=w2.heap[c]?:=fun c hc h1 h2=>(RowKit.Below.heap_setCell _ _ _ _ h2).trans (Ol ht hc h1)
 have hbN:∀c,XB E xb mb N' R c->XB E xb mb N R c\/w1.heap.size<=c:=fun c q=>by
  rcases q with q|q|q|q|q
  ·exact .inl (.inl q)
  ·exact .inl (.inr (.inl q))
  ·exact .inl (.inr (.inr (.inl q)))
  ·exact(hr c q).2.imp (fun e=> .inr (.inr (.inr (.inl e)))) id
  ·exact .inl (.inr (.inr (.inr (.inr q))))
 have hz:∀c,HZs (XB E xb mb N' R) (ps++ [p]) c->HZs (XB E xb mb N R) ps c\/w.heap.size<=c:=fun c q=>by
  rcases KU h1 h2 q with q|q
  ·rcases Pj hbN q with q | q
   ·exact .inl q
   ·exact .inr (by omega)
  ·exact .inr q
 have hCw:Chg (XB E xb mb N R) w (w3.setCell ⟨xb,1,none⟩ (.slice N' (nl.length+1) cN')):=(Chg.of_below hb).trans hC
 have hl:Leads (Ds (HZs (XB E xb mb N R) ps) w) (Ds (HZs (XB E xb mb N' R) (ps++ [p])) (w3.setCell ⟨xb,1,none⟩ (.slice N' (nl.length+1) cN'))):=Dp hCw.size fun c hcl hx=>⟨fun q=>by
  rcases hz c q with q|q
  ·exact hx q
  ·omega,hCw.block c hcl fun e=>hx (.inl e)⟩
 refine⟨⟨?_,hm.keep (RowKit.Below.heap_setCell _ _ _ _ H.d1),?_,H.recs.move (fun r hr'=> ?_) hl,(H.hs.push hb h1 h2 hk).step hC hbN fun c q=> ?_,H.e1,H.e2,H.d1,fun r hr'=> ?_,fun r hr'=> ?_,by rw[List.length_append];have:=H.nn;simp;omega⟩,hCw⟩
 ·have e : w3.heap[xb]? = some (.cells (xC mb N nl.length cN clk R rl.length cR) 99 (0, 0)) := (Ol ht (by omega) (fun e => H.d1 e.symm)).trans ((hg.block xb (by omega) fun e => (H.dN xb e.symm).2.1 rfl).trans ((hb.block xb hxl).trans H.blk))
  rw[List.length_append]
  simp[World.setCell,Array.getElem?_modify,e,xC]
 ·have e : (nl ++ [g.flow]).map Value.string = nl.map .string ++ [.string g.flow] := by simp
  rw[e,List.length_append]
  refine Dx ho fun r hr'=> ?_
  obtain⟨q1,q2⟩:=hr r hr'
  refine o3 r q1 ?_ ?_
  ·rcases q2 with q | q
   ·exact(H.dN r q).2.2
   ·omega
  ·rcases q2 with q | q
   ·exact(H.dN r q).2.1
   ·omega
 ·obtain ⟨k1, k2, k3, k4⟩ := H.dR r hr'
  have hrl:=H.r_lt r hr'
  exact(o3 r (by omega) k3 k2).trans ((hg.block r (by omega) fun e=>k4 e.symm).trans (hb.block r hrl))
 ·rcases q with q | q | q | q | q
  ·have:=H.elt q;omega
  ·omega
  ·omega
  ·have:=(hr c q).1;omega
  ·have:=H.r_lt c q;omega
 ·obtain ⟨q1, q2⟩ := hr r hr'
  rcases q2 with q|q
  ·exact H.dN r q
  ·exact⟨fun e=>by have:=H.elt e;omega,by omega,by omega⟩
 ·obtain ⟨k1, k2, k3, k4⟩ := H.dR r hr'
  have hrl:=H.r_lt r hr'
  exact⟨k1,k2,k3,fun e=>by
   rcases (hr r e).2 with q|q
   ·exact k4 q
   ·omega⟩
theorem XP.record (H : XP E w xb mb nm N cN R cR ps fl nl clk rl) {bytes : List Nat} {x : Value} (hb : Below w.heap.size w w1) (hx : BOwn w1 w.heap.size x bytes)
  {xs:List Value} (hcells:∀i (h:i<rl.length),∃v,xs[i]?=some v/\Bt.BIn (Ds (HZs (XB E xb mb N R) ps) w) v rl[i]) (hxs:xs.length=rl.length)
  {R':Option Addr} {cR':Nat} (ho:w2.ownsRow 0 100 1 (.slice R' (rl.length+1) cR') (rl.length+1) (xs++ [x])) (hg:w1.grownBy w2 (rowOf R)) (hr:∀r,rowOf R'=some r->r<w2.heap.size/\(rowOf R=some r\/w1.heap.size<=r)) (clk':Nat) :
  XP E ((w2.setCell ⟨xb,2,none⟩ (.int .u64 (clk':Nat))).setCell ⟨xb,3,none⟩ (.slice R' (rl.length+1) cR')) xb mb nm N cN R' cR' ps fl nl clk' (rl++ [bytes])/\Chg (XB E xb mb N R) w ((w2.setCell ⟨xb,2,none⟩ (.int .u64 (clk':Nat))).setCell ⟨xb,3,none⟩ (.slice R' (rl.length+1) cR')):=by
 obtain⟨W,hW⟩:∃W,W=(w2.setCell ⟨xb,2,none⟩ (.int .u64 (clk':Nat))).setCell ⟨xb,3,none⟩ (.slice R' (rl.length+1) cR'):=⟨_,rfl⟩
 rw[<-hW]
 have hC:Chg (XB E xb mb N R) w1 W:=by
  rw[hW]
  exact((VY hg fun c h=> .inr (.inr (.inr (.inr h)))).trans (Chg.setCell (p:=⟨xb,2,none⟩) (.inr (.inl rfl)) _)).trans (Chg.setCell (p:=⟨xb,3,none⟩) (.inr (.inl rfl)) _)
 have z1:=hb.size;have z2:=hg.size
 have hsz:W.heap.size=w2.heap.size:=by rw[hW];simp[World.setCell]
 have hxl:=H.lt;have hml:=H.map.lt
 have o3:∀c,c≠xb->W.heap[c]?=w2.heap[c]?:=fun c h2=>by rw[hW];exact(RowKit.Below.heap_setCell _ _ _ _ h2).trans (RowKit.Below.heap_setCell _ _ _ _ h2)
 have hbN:∀c,XB E xb mb N R' c->XB E xb mb N R c\/w1.heap.size<=c:=fun c q=>by
  rcases q with q|q|q|q|q
  ·exact .inl (.inl q)
  ·exact .inl (.inr (.inl q))
  ·exact .inl (.inr (.inr (.inl q)))
  ·exact .inl (.inr (.inr (.inr (.inl q))))
  ·exact(hr c q).2.imp (fun e=> .inr (.inr (.inr (.inr e)))) id
 have hz:∀c,HZs (XB E xb mb N R') ps c->HZs (XB E xb mb N R) ps c\/w1.heap.size<=c:=fun c q=>Pj hbN q
 have hCw:Chg (XB E xb mb N R) w W:=(Chg.of_below hb).trans hC
 have hl:Leads (Ds (HZs (XB E xb mb N R) ps) w) (Ds (HZs (XB E xb mb N R') ps) W):=Dp hCw.size fun c hcl hx=>⟨fun q=>by
  rcases hz c q with q|q
  ·exact hx q
  ·omega,hCw.block c hcl fun e=>hx (.inl e)⟩
 refine⟨⟨?_,H.map.keep ((o3 mb H.d1).trans ((hg.block mb (by omega) fun e=>(H.dR mb e.symm).2.2.1 rfl).trans (hb.block mb hml))),?_,?_,(H.hs.later hb).step hC hbN fun c q=> ?_,H.e1,H.e2,H.d1,H.dN,fun r hr'=> ?_,H.nn⟩,hCw⟩
 ·have e : w2.heap[xb]? = some (.cells (xC mb N nl.length cN clk R rl.length cR) 99 (0, 0)) := (hg.block xb (by omega) fun e => (H.dR xb e.symm).2.1 rfl).trans ((hb.block xb hxl).trans H.blk)
  rw[List.length_append,hW]
  simp[World.setCell,Array.getElem?_modify,e,xC]
 ·refine Dx H.names fun r hr' => ?_
  have hrl:=H.n_lt r hr'
  exact(o3 r (H.dN r hr').2.1).trans ((hg.block r (by omega) fun e=>(H.dR r e.symm).2.2.2 hr').trans (hb.block r hrl))
 ·refine ⟨xs ++ [x], ?_, fun i hi => ?_⟩
  ·rw [List.length_append]
   refine Dx ho fun r hr'=>o3 r ?_
   obtain⟨q1,q2⟩:=hr r hr'
   rcases q2 with q|q
   ·exact(H.dR r q).2.1
   ·omega
  ·by_cases hil : i < rl.length
   ·rw [List.getElem_append_left hil]
    obtain⟨v,k1,k2⟩:=hcells i hil
    exact⟨v,by rw[List.getElem?_append_left (by omega)];exact k1,BIn.leads k2 hl⟩
   ·have hiL : i = rl.length := by rw [List.length_append] at hi; simp at hi; omega
    subst hiL
    rw[List.getElem_append_right (Nat.le_refl _)]
    simp only[Nat.sub_self,List.getElem_cons_zero]
    refine⟨x,by rw[List.getElem?_append_right (by omega),hxs,Nat.sub_self];rfl,?_⟩
    -- the bytes lie in new memory, beside all that is written
    have hread:=hx.read
    have hown:=hx
    rcases hread with hq|⟨ad,cap,q1,q2,q3,q4,q5⟩
    ·exact .inl hq
    ·refine .inr ⟨ad, cap, q1, q2, q3, by rw [DM]; omega, fun j u hu => ?_⟩
     have hblk:(ad.add j).block=ad.block:=Bt.block_add ad j
     rcases hown.2 with ⟨e,h0⟩|⟨r,cp,cur,k1,k2,k3,k4⟩
     ·rw[q1] at e;cases e
     ·rw [q1] at k1
      injection k1 with k1 _ _
      have hrb:ad.block=r:=by have:=Option.some.inj k1;rw[this]
      have hnz:¬HZs (XB E xb mb N R') ps ad.block:=fun q=>by
       rcases hz _ q with q|q
       ·have:=H.hs.zlt q;omega
       ·omega
      have e1:(Ds (HZs (XB E xb mb N R') ps) W).heap[ad.block]?=w1.heap[ad.block]?:=by
       rw[FB hnz]
       exact hC.block _ q4 fun e=>by have:=H.hs.bz _ e;omega
      rw[<-q5 j u hu]
      exact World.cell?_of_block (by rw[hblk];exact e1)
 ·rcases q with q | q | q | q | q
  ·have:=H.elt q;omega
  ·omega
  ·omega
  ·have:=H.n_lt c q;omega
  ·have:=(hr c q).1;omega
 ·obtain ⟨q1, q2⟩ := hr r hr'
  rcases q2 with q|q
  ·exact H.dR r q
  ·exact⟨fun e=>by have:=H.elt e;omega,by omega,by omega,fun e=>by have:=H.n_lt r e;omega⟩
theorem XP.new (w:World)(hE:∀c,E c->c<w.heap.size):XP E ((w.alloc (.map #[] 0)).alloc (.cells #[.map (some w.heap.size),.slice none 0 0,.int .u64 0,.slice none 0 0] 99)) (w.heap.size+1) w.heap.size 0 none 0 none 0 [] [] [] 0 []:=by
 have hz1:(w.alloc (.map #[] 0)).heap.size=w.heap.size+1:=by simp
 have b1:Below w.heap.size w (w.alloc (.map #[] 0)):=(Below.refl _ _).alloc (Nat.le_refl _) _
 have b2:Below (w.alloc (.map #[] 0)).heap.size (w.alloc (.map #[] 0)) ((w.alloc (.map #[] 0)).alloc (.cells #[.map (some w.heap.size),.slice none 0 0,.int .u64 0,.slice none 0 0] 99)):=(Below.refl _ _).alloc (Nat.le_refl _) _
 refine⟨?_,(FMap.made w).keep (b2.block _ (by omega)),⟨rfl,.inl ⟨rfl,rfl⟩⟩,RRow.nil _ _,HsAt.nil fun c q=> ?_,fun e=> ?_,fun e=> ?_,by omega,fun r h=>(by cases h),fun r h=>(by cases h),Nat.le_refl _⟩
 ·have := heap_alloc_new (w.alloc (.map #[] 0)) (.cells #[.map (some w.heap.size), .slice none 0 0, .int .u64 0, .slice none 0 0] 99)
  rw[hz1] at this
  exact this
 ·have hz2 : ((w.alloc (.map #[] 0)).alloc (.cells #[.map (some w.heap.size), .slice none 0 0, .int .u64 0, .slice none 0 0] 99)).heap.size = w.heap.size + 2 := by simp
  rw[hz2]
  rcases q with q|q|q|q|q
  ·have:=hE c q;omega
  ·omega
  ·omega
  ·cases q
  ·cases q
 ·have:=hE _ e;omega
 ·have:=hE _ e;omega
end Hi
end Go.Proofs.YtaahfiopdoinkaaGreat
namespace Go.Proofs.YtaahfiopdoinkaaGreat
namespace Hi
open _root_.Go.Proofs.YtaahfiopdoinkaaGreat.Nm (Dk De)
open Vt (VT Rep Da)
open Ev (EV)
open Cm (rowOf EvsIn)
open Cn (BT BtsIn Dy ON)
open Bt (BOwn)
variable {E E' Z : Nat -> Prop} {w w' w0 V V' : World} {xb : Nat} {x : XM}
def frm (b:BT):List Nat:=Cn.Ln b.flow b.at' b.es.length (b.es.map Vf.Gu)
def XAt (E:Nat->Prop)(w:World)(xb:Nat)(Z:Nat->Prop)(x:XM):Prop:=∃mb nm N cN R cR ps,Z=HZs (XB E xb mb N R) ps/\XP E w xb mb nm N cN R cR ps x.flows (x.flows.map (·.flow)) x.clock (x.all.map frm)
theorem XAt.zlt (H:XAt E w xb Z x){c:Nat}(h:Z c):c<w.heap.size:=by
 obtain⟨mb,nm,N,cN,R,cR,ps,rfl,H⟩:=H
 exact H.hs.zlt h
theorem XAt.elt (H:XAt E w xb Z x){c:Nat}(h:E c):c<w.heap.size:=by
 obtain⟨mb,nm,N,cN,R,cR,ps,rfl,H⟩:=H
 exact H.elt h
theorem XAt.ez (H:XAt E w xb Z x){c:Nat}(h:E c):Z c:=by
 obtain⟨mb,nm,N,cN,R,cR,ps,rfl,H⟩:=H
 exact .inl (.inl h)
theorem XAt.later (H:XAt E w xb Z x)(hb:Below w.heap.size w w'):XAt E w' xb Z x:=by
 obtain⟨mb,nm,N,cN,R,cR,ps,hz,H⟩:=H
 exact⟨mb,nm,N,cN,R,cR,ps,hz,H.later hb⟩
theorem XAt.chg (H:XAt E w xb Z x)(hc:Chg E w w'):XAt E w' xb Z x:=by
 obtain⟨mb,nm,N,cN,R,cR,ps,hz,H⟩:=H
 exact⟨mb,nm,N,cN,R,cR,ps,hz,H.chg hc⟩
theorem PL {f:ByteArray}(h:Dr x.flows f=none):DI x f=HM.new f:=by unfold DI;rw[h]
theorem PK {f:ByteArray}{i:Nat}{h:HM}(hf:Dr x.flows f=some i)(hh:x.flows[i]?=some h):DI x f=h:=by
 unfold DI;rw[hf]
 simp only[List.getD_eq_getElem?_getD,hh,Option.getD_some]
theorem Ra {b:BT}(h:Dy b.flow b.at' b.es=false):DD x b=(2,x):=by unfold DD;rw[if_pos h]
theorem NZ {b:BT}(h:Dy b.flow b.at' b.es=true)(h2:b.at'<x.clock):DD x b=(12,x):=by unfold DD;rw[if_neg (by rw[h];decide),if_pos h2]
theorem NY {b:BT}(h:Dy b.flow b.at' b.es=true)(h2:¬b.at'<x.clock):(DD x b).1=(Du (DI x b.flow) b).1:=by
 unfold DD
 rw[if_neg (by rw[h];decide),if_neg h2]
 by_cases h3:(Du (DI x b.flow) b).1≠0
 ·rw[if_pos h3]
 ·rw [if_neg h3, Classical.not_not.1 h3]
  cases Dr x.flows b.flow<;>rfl
theorem Ui (w:World)(E:Nat->Prop)(hE:∀c,E c->c<w.heap.size):Calls Tryz.prog 26 #[] w fun r w'=>∃xb Z,r= .returned (.pointer (some ⟨xb,0,none⟩))/\Below w.heap.size w w'/\XAt E w' xb Z XM.new/\∀c,Z c->E c\/w.heap.size<=c:=by
 have hmm:= @run_makeMap Tryz.prog
 have HN:=Lib.hid (XP.new w hE)
 clear hE
 go_enter Tryz.func26,Tryz.ntmps26
 go_wp2_with fail
 go_ret
 refine⟨w.heap.size+1,_,by simp,((Below.refl _ _).alloc (Nat.le_refl _) _).alloc (by simp) _,⟨w.heap.size,0,none,0,none,0,[],rfl,?_⟩,fun c hc=> ?_⟩
 ·exact HN.out
 ·rcases hc with (q | q | q | q | q) | ⟨i, p, hp, -⟩
  ·exact .inl q
  ·exact .inr (by omega)
  ·exact .inr (by omega)
  ·cases q
  ·cases q
  ·simp at hp
def XFlow (w:World)(Z:Nat->Prop)(x:XM)(s:ByteArray)(r:Ending)(w':World):Prop:=w'=w/\((Dr x.flows s=none/\r= .returned (.pointer none))\/∃(i:Nat) (h:HM) (p:HB) (Y:Nat->Prop),Dr x.flows s=some i/\x.flows[i]?=some h/\r= .returned (.pointer (some ⟨p.hb,0,none⟩))/\p.at_ Y w h/\YH Y p.hb p.A=Z)
theorem XP.ptr {mb nm cN cR clk:Nat}{N R:Option Addr}{ps:List HB}{fl:List HM}{nl:List ByteArray}{rl:List (List Nat)}(H:XP E w xb mb nm N cN R cR ps fl nl clk rl)(s:ByteArray):(Dr fl s=none/\OY fl ps s=none)\/∃(i:Nat) (h:HM) (p:HB),Dr fl s=some i/\fl[i]?=some h/\ps[i]?=some p/\OY fl ps s=some (.pointer (some ⟨p.hb,0,none⟩))/\p.at_ (HYs (XB E xb mb N R) ps i) w h:=by
 cases hf:Dr fl s with
 | none=>exact .inl ⟨rfl,by unfold OY;rw[hf];rfl⟩
 | some i=>
  obtain⟨hi,-⟩:=DL hf
  have hp:i<ps.length:=by rw[H.hs.len];exact hi
  exact .inr ⟨i,fl[i],ps[i],rfl,List.getElem?_eq_getElem hi,List.getElem?_eq_getElem hp,by unfold OY;rw[hf];simp only[Option.bind_some];rw[List.getElem?_eq_getElem hp];rfl,H.hs.hat i _ _ (List.getElem?_eq_getElem hp) (List.getElem?_eq_getElem hi)⟩
theorem Sr (H:XAt E w xb Z x)(s:ByteArray)(hs:s.size<=maxLen):Calls Tryz.prog 29 #[.pointer (some ⟨xb,0,none⟩),.string s] w (XFlow w Z x s):=by
 obtain⟨mb,nm,N,cN,R,cR,ps,rfl,H⟩:=H
 obtain⟨c0,c1,c2,c3,cf⟩:=DK H.blk
 have hlk:=H.map.look1 s hs w rfl
 rcases H.ptr s with ⟨hf,hp⟩|⟨i,h,p,hf,hh,hpi,hp,hat⟩
 ·rw [hp] at hlk
  simp only[Option.getD_none] at hlk
  clear H cf
  go_enter Tryz.func29,Tryz.ntmps29
  go_wp2_with fail
  go_ret
  exact⟨rfl,.inl ⟨hf,rfl⟩⟩
 ·rw [hp] at hlk
  simp only[Option.getD_some] at hlk
  have HR:=Lib.hid (And.intro hf (And.intro hh (And.intro hpi hat)))
  clear H cf hf hh hpi hat hp
  go_enter Tryz.func29,Tryz.ntmps29
  go_wp2_with fail
  go_ret
  obtain⟨hf,hh,hpi,hat⟩:=HR.out
  exact⟨rfl,.inr ⟨i,h,p,_,hf,hh,rfl,hat,yh_eq hpi⟩⟩
theorem Q658.Y657 (h:p:=by
 go_upto_region 10 with fail
 rw[<-hwe]
 clear hwe
 go_wp2_with fail
 refine(HCF.out _ HBD.out).mono ?_
 rintro r w3 ⟨rfl,hb3⟩
 have HB3:=Lib.hid ((HB0.out.trans (HWE.out.mono HB0.out.size)).trans (hb3.mono (Nat.le_trans HB0.out.size HWE.out.size)))
 clear hb3
 go_wp2_with fail
 go_ret
 exact⟨by rw[HCODE.out,HFF.out,HHX.out];rfl,HB3.out⟩):p:=h
theorem Q659.Y657 (h:p:=by
 go_upto_region 9 with fail
 rw[<-hwe]
 clear hwe
 go_wp2_with fail
 refine(YQ ff (by rw[HFF.out];exact HFL.out) we Z fun c q=> ?_).mono ?_
 ·rw [HZE.out] at q
  exact Nat.lt_of_lt_of_le (HH1.out.hs.zlt q) HWE.out.size
 rintro r w2 ⟨hb2',bt2,bm2,bk2,rfl,hb2,hbge,Hnew⟩
 have HB2:Hid (Below W0.heap.size W0 w2):=Lib.hid (HWE.out.trans (hb2.mono HWE.out.size))
 have HCF:=Lib.hid (show Calls _ _ _ _ _ from by
  have q := YW Hnew (fun c q => by rw [HZE.out] at q; exact Nat.lt_of_lt_of_le (HH1.out.hs.zlt q) HB2.out.size) b A2 c2 (EvsIn.leads HEV.out (Dp (Nat.le_trans HB0.out.size HB2.out.size) fun c hc hx => ⟨(fun q => by
   rcases q with q|q
   ·have:=HWE.out.size;have:=HZ0.out;omega
   ·cases q),(HB2.out.block c (Nat.lt_of_lt_of_le hc HB0.out.size)).trans (HB0.out.block c hc)⟩)) HBAT.out HBIN.out.slim HLEN.out (by have:=HTOT.out;simp only[HM.new,tot,List.map_nil,List.sum_nil];omega) HFL.out
  rw[<-HFF.out, <-HAT.out, <-HML.out] at q;exact q)
 clear a0 a1 a2
 obtain⟨a0,a1,a2,-⟩:=(HX0.out.later HB2.out (by rw[HG0.out,HZ0.out];omega)).cells
 clear hb2 hbge Hnew
 go_wp2_with fail
 refine HCF.out.mono ?_
 rintro r w3 ⟨rfl,hb3⟩
 have HB3:=Lib.hid ((HB0.out.trans (HB2.out.mono HB0.out.size)).trans (hb3.mono (Nat.le_trans HB0.out.size HB2.out.size)))
 clear hb3
 go_wp2_with fail
 go_ret
 exact⟨by rw[HCODE.out,PL HFN.out];rfl,HB3.out⟩):p:=h
theorem M657 (h:p:=by
 go_upto_region 5 with fail
 go_region
 clear k1 c2' a1
 go_upto_region 7 with fail
 go_region
 clear hlk c0 a0 a2
 obtain⟨we,hwe⟩:∃we,we=w1.drew.drew:=⟨_,rfl⟩
 rw[<-hwe] at HBD
 have HWE:Hid (Below W0.heap.size W0 we):=Lib.hid (HB1.out.trans (HBD.out.mono HB1.out.size))
 obtain⟨a0,a1,a2,-⟩:=(HX0.out.later HWE.out (by rw[HG0.out,HZ0.out];omega)).cells
 exact Y657):p:=h
theorem Q766.Y765 (h:p:=by
 have H1:=H.later hb0
 have HVAL:=Lib.hid (ON b.es b.flow hfl b.at' hbat A2 c2 W0 ((EvsIn.leads hev (Df _ _)).later hb0))
 have HB0:=Lib.hid hb0;have HZ0:=Lib.hid hz0;have HX0:=Lib.hid hx0;have H0:=Lib.hid H;have HEV:=Lib.hid hev;have HBIN:=Lib.hid hbin;have HG:=Lib.hid hgood
 have HH1:=Lib.hid H1;have HT:=Lib.hid hT;have HFL:=Lib.hid hfl;have HBAT:=Lib.hid hbat;have HZE:=Lib.hid hZ
 obtain⟨c0,c1,c2',c3,cf⟩:=DK H1.blk
 obtain⟨a0,a1,a2,-⟩:=hx0.cells
 have HG0:=Lib.hid hg0
 obtain⟨clk,hclk0⟩:∃c,c=x.clock:=⟨_,rfl⟩
 rw[<-hclk0] at c2' hclk
 have HCLK:=Lib.hid hclk0
 have HADD1:Hid (Dy b.flow b.at' b.es=false->(DD x b).1=2):=Lib.hid fun k=>by rw[Ra k]
 have HADD2:Hid (Dy b.flow b.at' b.es=true->b.at'<clk->(DD x b).1=12):=Lib.hid fun k q=>by rw[NZ k (by rw[<-hclk0];exact q)]
 have HADD3:Hid (Dy b.flow b.at' b.es=true->¬b.at'<clk->(DD x b).1=(Du (DI x b.flow) b).1):=Lib.hid fun k q=>NY k (by rw[<-hclk0];exact q)
 have HLK:Hid (∀W:World,W.heap[mb]?=W0.heap[mb]?->(Instr.lookup 96 (.map (some mb)) (.string b.flow) true).run Tryz.prog W= .ok (.tuple #[(OY x.flows ps b.flow).getD (.pointer none),.bool (OY x.flows ps b.flow).isSome]) W):=Lib.hid fun W hW=>H1.map.look2 b.flow hfl W hW
 have HPTR:=Lib.hid (H.ptr b.flow)
 clear H H1 hb0 hz0 hx0 hev hbin hgood hg hT hfl hZ hclk0 c1 c3 cf hg0
 replace hW0:=Lib.hid hW0
 obtain⟨m,hm⟩:∃m,m=b.es.length:=⟨_,rfl⟩
 obtain⟨ff,hff⟩:∃ff,ff=b.flow:=⟨_,rfl⟩
 obtain⟨at',hat⟩:∃at',at'=b.at':=⟨_,rfl⟩
 have HML:=Lib.hid hm;have HFF:=Lib.hid hff;have HAT:=Lib.hid hat
 rw[<-hff, <-hat, <-hm] at hW0 HVAL HX0
 rw[<-hff, <-hat] at HADD1 HADD2 HADD3
 rw[<-hff] at HLK HPTR a0
 rw[<-hat] at a1 hbat
 rw[<-hm] at a2
 rw[<-hff, <-hat, <-hm]
 clear hm hff hat
 obtain⟨vb,hvb⟩:∃vb,vb=Dy ff at' b.es:=⟨_,rfl⟩
 rw[<-hvb] at HVAL HADD1 HADD2 HADD3
 clear hvb
 go_enter Tryz.func38,Tryz.ntmps38
 go_upto_region 1 with fail
 rw[<-hW0.out, <-HG0.out]
 go_wp2_with fail
 refine HVAL.out.mono ?_
 rintro r w1 ⟨rfl,hb1⟩
 have HB1:=Lib.hid hb1
 clear hb1 HVAL
 cases vb with
 | false=>
  go_wp2_with fail
  go_ret
  exact⟨by rw[HADD1.out (by first | rfl|trivial)];rfl,HB0.out.trans (HB1.out.mono HB0.out.size)⟩
 | true=>
 have hx1:=HX0.out.later HB1.out (by rw[HG0.out,HZ0.out];omega)
 obtain⟨a0,a1,a2,-⟩:=hx1.cells
 obtain⟨c0,c1,c2',c3,cf⟩:=DK (HH1.out.later HB1.out).blk
 rw[<-HCLK.out] at c2'
 clear hx1 c1 c3 cf
 by_cases hlt:at'<clk
 ·have k1 : decide (at' < clk) = true := decide_eq_true hlt
  have hlt':(at':Int)<(clk:Int):=by omega
  go_upto_region 5 with fail
  go_region
  go_wp2_with fail
  go_ret
  exact⟨by rw[HADD2.out (by first | rfl|trivial) hlt];rfl,(HB0.out.trans (HB1.out.mono HB0.out.size)).trans ((Da (Below.refl _ _)).mono (Nat.le_trans HB0.out.size HB1.out.size))⟩
 have k1:decide (at'<clk)=false:=decide_eq_false hlt
 have hlt':¬(at':Int)<(clk:Int):=by omega
 have HCODE:=Lib.hid (HADD3.out (by first | rfl|trivial) hlt)
 have HLEN:Hid (b.es.length<=1099511627776):=Lib.hid HBIN.out.len
 have HTOT:Hid (tot (DI x b.flow).bs+b.es.length<=8796093022208):=Lib.hid (by have:=HG.out.tot;have:=HT.out;omega)
 have HMB:Hid (∀W:World,Below w1.heap.size w1 W->W.heap[mb]?=W0.heap[mb]?):=Lib.hid fun W hW=>by
  have h1:=H0.out.map.lt
  have h2:=HZ0.out
  have h3:=HB1.out.size
  exact(hW.block mb (by omega)).trans (HB1.out.block mb (by omega))
 have HBD:Hid (Below w1.heap.size w1 w1.drew.drew):=Lib.hid (Da (Da (Below.refl _ _)))
 have hlk:=HLK.out w1.drew.drew (HMB.out _ HBD.out)
 rcases HPTR.out with ⟨hfn,hpx⟩|⟨i,h,p,hfi,hhi,hpi,hpx,hat⟩
 ·rw [hpx] at hlk
  simp only[Option.getD_none,Option.isSome_none] at hlk
  have HFN:=Lib.hid hfn
  clear hpx hfn
  open Q659 in exact M657
 ·rw [hpx] at hlk
  simp only[Option.getD_some,Option.isSome_some] at hlk
  have HHX:Hid (DI x b.flow=h):=Lib.hid (PK (by rw[<-HFF.out];exact hfi) hhi)
  have HCF:=Lib.hid (show ∀W,Below w1.heap.size w1 W->Calls _ _ _ W _ from fun W hW=>by
   have hW0:Below w.heap.size w W:=(HB0.out.trans (HB1.out.mono HB0.out.size)).trans (hW.mono (Nat.le_trans HB0.out.size HB1.out.size))
   have q:=YW (HAt.later hat hW0) (fun c q=>Nat.lt_of_lt_of_le (H0.out.hs.ylt q) hW0.size) b A2 c2 (EvsIn.leads HEV.out (Dp hW0.size fun c hc hx=>⟨fun q=>hx (by rw[HZE.out];exact .inr ⟨i,p,hpi,q⟩),hW0.block c hc⟩)) HBAT.out HBIN.out.slim HLEN.out (by rw[<-HHX.out];exact HTOT.out) HFL.out
   rw[<-HFF.out, <-HAT.out, <-HML.out] at q;exact q)
  clear hpx hfi hhi hpi hat
  generalize p.hb=qq at *
  open Q658 in exact M657):p:=h
theorem Lw (H:XAt E w xb Z x){T NN:Nat}(hg:XGood x T NN)(b:BT)(A2:Option Addr)(c2:Nat)(hev:EvsIn (Ds Z w) A2 c2 b.es)(hbin:BIn b)(hT:T+b.es.length<=8000000000000)(hfl:b.flow.size<=maxLen)(hbat:b.at'<18446744073709551616)(hclk:x.clock<18446744073709551616) :
  Calls Tryz.prog 38 #[.pointer (some ⟨xb,0,none⟩),.agg #[.string b.flow,.int .u64 (b.at':Nat),.slice A2 b.es.length c2]] w fun r w'=>r= .returned (.int .i64 (DD x b).1)/\Below w.heap.size w w':=by
 have hgood:=(GH hg b.flow).1
 obtain⟨mb,nm,N,cN,R,cR,ps,hZ,H⟩:=H
 obtain⟨W0,hW0⟩:∃W0,W0=w.alloc (.cells #[.string b.flow,.int .u64 (b.at':Nat),.slice A2 b.es.length c2] 64):=⟨_,rfl⟩
 obtain⟨g0,hg0⟩:∃g,g=w.heap.size:=⟨_,rfl⟩
 have hx0:Cn.BB W0 g0 b.flow b.at' A2 b.es.length c2:=by rw[hW0,hg0];exact heap_alloc_new w _
 open Q766 in exact M765
end Hi
open Go.RowKit Go.ChangeShapes Go.WideShapes Go.WideMaps Go.Maps Go.ChangeMaps Go.MapKept Go.WideElems
namespace Hi
open Vt (VT Rep Da)
open Cm (rowOf EvsIn)
variable {w w' : World} {fl : List HM} {ps : List HB} {b n : Nat}
theorem Tryz.infoXs : (Tryz.prog.info? 9).map (fun i=>(i.zero,i.size,i.bytes))=some (some (.string ⟨#[]⟩),1,16):=by kernel_rfl
theorem Tryz.infoXb : (Tryz.prog.info? 100).map (fun i=>(i.zero,i.size,i.bytes))=some (some (.slice none 0 0),1,24):=by kernel_rfl
theorem Uz (w:World)(b:Nat)(o o':Obj):setBlock (setBlock w b o) b o'=setBlock w b o':=by simp[setBlock]
theorem OV (w:World){b c:Nat}(o:Obj)(h:c≠b):(setBlock w b o).heap[c]?=w.heap[c]?:=by simp[setBlock,Array.getElem?_setIfInBounds,h,show ¬b=c from fun e=>h e.symm]
theorem FMap.entry (h:FMap w b n fl ps)(hn:n<maxLen)(g:HM)(p:HB)(hs:g.flow.size<=maxLen)(hx:Dr fl g.flow=none)(hl:ps.length=fl.length) :
  ∃(v0:Value) (st:Nat) (w2 w3:World),(Instr.mapEntry 96 (.map (some b)) (.string g.flow)).run Tryz.prog w= .ok (.tuple #[v0,.int .i64 (st:Nat)]) w2/\(Instr.entryStore 96 (.map (some b)) (.int .i64 (st:Nat)) (JX p.hb)).run Tryz.prog w2= .ok () w3/\
   FMap w3 b (n+1) (fl++ [g]) (ps++ [p])/\w.mapTurned w3 b/\(∀c,c≠b->w2.heap[c]?=w.heap[c]?)/\∀c,c≠b->w3.heap[c]?=w.heap[c]?:=by
 obtain⟨w',hr,hm,ht⟩:=h.put hn g p hs hx hl
 obtain⟨D,⟨es,clock,hb,F,-,rfl⟩,-⟩:=h
 obtain⟨v0,st,es1,clock1,k1,-,k2⟩:=entry_then_store (P:=Tryz.prog) (WideMaps.string_law Tryz.underlying9) Tryz.underlying96 (z:= .pointer none) (fun u=>Xe u) hb F (Gv g.flow hs)
 obtain⟨es',clock',k3,k4⟩:=k2 (setBlock w b (.map es1 clock1)) (JX p.hb) (heap_setBlock_same hb _)
 rw[k4] at hr
 have e:w'=setBlock w b (.map es' clock'):=by injection hr with _ e;exact e.symm
 rw[Uz] at k3
 refine⟨v0,st,_,_,k1,k3,by rw[<-e];exact hm,by rw[<-e];exact ht,fun c hc=>OV _ _ hc,fun c hc=>OV _ _ hc⟩
end Hi
end Go.Proofs.YtaahfiopdoinkaaGreat
namespace Go.Proofs.YtaahfiopdoinkaaGreat
namespace Hi
open Vt (VT Rep Da)
open Ev (EV)
open Cm (rowOf EvsIn)
open Cn (BT BtsIn Dy)
open Bt (BOwn)
variable {E E' Z : Nat -> Prop} {w w' w0 w1 w2 wx V V' : World} {xb : Nat} {x : XM}
def XAdd (E:Nat->Prop)(w:World)(xb:Nat)(Z:Nat->Prop)(x:XM)(b:BT)(r:Ending)(w':World):Prop:=r= .returned (.int .i64 (DD x b).1)/\Chg Z w w'/\(∀c,E c->w'.heap[c]?=w.heap[c]?)/\∃Z',XAt E w' xb Z' (DD x b).2/\∀c,Z' c->Z c\/w.heap.size<=c
def XJoin (E:Nat->Prop)(w:World)(xb:Nat)(Z:Nat->Prop)(x:XM)(f:ByteArray)(z:Value)(wx:World):Prop:=∃(i:Nat) (p:HB) (h:HM) (mb nm:Nat) (N:Option Addr) (cN:Nat) (R:Option Addr) (cR:Nat) (ps:List HB) (fl:List HM),z= .pointer (some ⟨p.hb,0,none⟩)/\XP E wx xb mb nm N cN R cR ps fl (fl.map (·.flow)) x.clock (x.all.map frm)/\ps[i]?=some p/\fl[i]?=some h/\h=DI x f/\Chg Z w wx/\(∀c,HZs (XB E xb mb N R) ps c->Z c\/w.heap.size<=c)/\(∀h':HM,fl.set i h'=(match Dr x.flows f with | some k=>x.flows.set k h'|none=>x.flows++ [h']))/\∀c,E c->wx.heap[c]?=w.heap[c]?
def XDone (E:Nat->Prop)(w:World)(xb:Nat)(Z:Nat->Prop)(x:XM)(b:BT)(w2:World):Prop:=∃(mb nm:Nat) (N:Option Addr) (cN:Nat) (R:Option Addr) (cR:Nat) (ps:List HB),XP E w2 xb mb nm N cN R cR ps (DD x b).2.flows ((DD x b).2.flows.map (·.flow)) x.clock (x.all.map frm)/\Chg Z w w2/\(∀c,HZs (XB E xb mb N R) ps c->Z c\/w.heap.size<=c)/\∀c,E c->w2.heap[c]?=w.heap[c]?
theorem Chg.then {X:Nat->Prop}(h:Chg Z w wx)(k:Chg X wx w2)(hx:∀c,X c->Z c\/w.heap.size<=c):Chg Z w w2:=
 ⟨k.os.trans h.os,k.tape.trans h.tape,k.output.trans h.output,Nat.le_trans h.size k.size,fun c hc hz=>(k.block c (Nat.lt_of_lt_of_le hc h.size) fun q=>by
  rcases hx c q with e|e
  ·exact hz e
  ·omega).trans (h.block c hc hz)⟩
theorem Uh {Z Z':Nat->Prop}(hc:Chg Z w wx)(h:∀c,Z' c->Z c\/w.heap.size<=c):Leads (Ds Z w) (Ds Z' wx):=Dp hc.size fun c hl hx=>⟨fun q=>by
  rcases h c q with q|q
  ·exact hx q
  ·omega,hc.block c hl hx⟩
theorem join_old {mb nm cN cR:Nat}{N R:Option Addr}{ps:List HB}(H:XP E w xb mb nm N cN R cR ps x.flows (x.flows.map (·.flow)) x.clock (x.all.map frm))(hb:Below w.heap.size w wx){f:ByteArray}{i:Nat}{h:HM}{p:HB}(hf:Dr x.flows f=some i)(hh:x.flows[i]?=some h)(hp:ps[i]?=some p) :
  XJoin E w xb (HZs (XB E xb mb N R) ps) x f (.pointer (some ⟨p.hb,0,none⟩)) wx:=
 ⟨i,p,h,mb,nm,N,cN,R,cR,ps,x.flows,rfl,H.later hb,hp,hh,(PK hf hh).symm,Chg.of_below hb,fun c q=> .inl q,fun h'=>by rw[hf],fun c hE=>hb.block c (H.elt hE)⟩
theorem join_new {mb nm cN cR : Nat} {N R : Option Addr} {ps : List HB} (H : XP E w xb mb nm N cN R cR ps x.flows (x.flows.map (·.flow)) x.clock (x.all.map frm)) {f : ByteArray} {p : HB} (hf : Dr x.flows f = none) (hb : Below w.heap.size w w1) (h1 : w.heap.size <= p.hb) (h2 : p.A = none) (hk : p.at_ (HZs (XB E xb mb N R) ps) w1 (HM.new f))
  {w3:World} {N':Option Addr} {cN':Nat} (ho:w2.ownsRow 0 9 1 (.slice N' (x.flows.length+1) cN') (x.flows.length+1) (x.flows.map (fun h=> .string h.flow)++ [.string f])) (hg:w1.grownBy w2 (rowOf N)) (hr:∀r,rowOf N'=some r->r<w2.heap.size/\(rowOf N=some r\/w1.heap.size<=r))
  (hm:FMap w3 mb (nm+1) (x.flows++ [HM.new f]) (ps++ [p])) (ht:w2.mapTurned w3 mb) :
  XJoin E w xb (HZs (XB E xb mb N R) ps) x f (.pointer (some ⟨p.hb,0,none⟩)) (w3.setCell ⟨xb,1,none⟩ (.slice N' (x.flows.length+1) cN')):=by
 have hnl:(x.flows.map (·.flow)).length=x.flows.length:=by simp
 have he:(x.flows.map (·.flow)).map Value.string=x.flows.map (fun h=> .string h.flow):=by rw[List.map_map];rfl
 have J:=H.join (g:=HM.new f) (N':=N') (cN':=cN') (w2:=w2) (w3:=w3) hb h1 h2 hk (by rw[hnl,he];exact ho) hg hr hm ht
 rw[hnl] at J
 obtain⟨J1,J2⟩:=J
 have hke:∀c,E c->(w3.setCell ⟨xb,1,none⟩ (.slice N' (x.flows.length+1) cN')).heap[c]?=w.heap[c]?:=fun c hE=>by
  have hlt:=H.elt hE
  have z1:=hb.size
  have z2:=hg.size
  exact(RowKit.Below.heap_setCell _ _ _ _ (fun(e:c=xb)=>H.e1 (e ▸ hE))).trans ((Ol ht (by omega) (fun e=>H.e2 (e ▸ hE))).trans ((hg.block c (by omega) fun e=>(H.dN c e.symm).1 hE).trans (hb.block c hlt)))
 refine⟨x.flows.length,p,HM.new f,mb,nm+1,N',cN',R,cR,ps++ [p],x.flows++ [HM.new f],rfl,?_,?_,?_,(PL hf).symm,J2.mono fun c q=> .inl q,fun c q=> ?_,fun h'=> ?_,hke⟩
 ·have e : (x.flows ++ [HM.new f]).map (·.flow) = x.flows.map (·.flow) ++ [(HM.new f).flow] := by simp
  rw[e];exact J1
 ·rw[<-H.hs.len,List.getElem?_append_right (Nat.le_refl _),Nat.sub_self];rfl
 ·rw[List.getElem?_append_right (Nat.le_refl _),Nat.sub_self];rfl
 ·have hx:∀c,XB E xb mb N' R c->XB E xb mb N R c\/w.heap.size<=c:=fun c q=>by
   rcases q with q|q|q|q|q
   ·exact .inl (.inl q)
   ·exact .inl (.inr (.inl q))
   ·exact .inl (.inr (.inr (.inl q)))
   ·rcases (hr c q).2 with e | e
    ·exact .inl (.inr (.inr (.inr (.inl e))))
    ·exact .inr (Nat.le_trans hb.size e)
   ·exact .inl (.inr (.inr (.inr (.inr q))))
  rcases KU h1 h2 q with q|q
  ·exact Pj hx q
  ·exact .inr q
 ·rw[hf,List.set_append_right _ _ (Nat.le_refl _),Nat.sub_self];rfl
theorem flows_of {b : BT} (hc : (DD x b).1 = 0) : (DD x b).2.flows = (match Dr x.flows b.flow with | some k => x.flows.set k (Du (DI x b.flow) b).2 | none => x.flows ++ [(Du (DI x b.flow) b).2]) := by
 obtain⟨-,hm,hv,hk⟩:=GK hc
 unfold DD
 rw[if_neg (by rw[hv];decide),if_neg (by omega),if_neg (fun q=>q hm)]<;>cases Dr x.flows b.flow<;>rfl
theorem XJoin.add {b:BT}{q:Nat}(J:XJoin E w xb Z x b.flow (.pointer (some ⟨q,0,none⟩)) wx){T NN:Nat}(hg:XGood x T NN)(hc0:(DD x b).1=0)(A2:Option Addr)(c2:Nat)(hev:EvsIn (Ds Z w) A2 c2 b.es)(hbin:BIn b)(hT:T+b.es.length<=1100000000000)(hNN:NN<=1000000000)(hfl:b.flow.size<=maxLen)(hbat:b.at'<18446744073709551616) :
  Calls Tryz.prog 40 #[.pointer (some ⟨q,0,none⟩),.agg #[.string b.flow,.int .u64 (b.at':Nat),.slice A2 b.es.length c2]] wx fun r w2=>(∃k:Int,r= .returned (.int .i64 k))/\XDone E w xb Z x b w2/\∀c,c<w.heap.size->¬Z c->w2.heap[c]?=wx.heap[c]?:=by
 have hgh:=(GH hg b.flow).1
 obtain⟨i,p,h,mb,nm,N,cN,R,cR,ps,fl,hze,H,hp,hh,rfl,hchg,hz,hset,hke⟩:=J
 obtain rfl:q=p.hb:=by injection hze with e;injection e with e;injection e
 have hat:=H.hs.hat i p _ hp hh
 have hil:=(List.getElem?_eq_some_iff.1 hh).1
 have hzo:∀c,HZ p.hb p.A c->Z c\/w.heap.size<=c:=fun c q=>hz c (.inr ⟨i,p,hp,q⟩)
 refine (Lp hat (fun c q => H.hs.ylt q) b A2 c2 (EvsIn.leads hev (Uh hchg hzo)) hbat hbin.slim (by have := hbin.len; omega) (by have := hgh.tot; omega) hfl (by have := hgh.len; omega)).mono fun r w2 ⟨e, hc, bt, bm, bk, n, A', cap', Hn, hrow⟩ => ⟨⟨_, e⟩, ?_, fun c hcl hz' => hc.block c (Nat.lt_of_lt_of_le hcl hchg.size) fun q => by
  rcases hzo c q with e|e
  ·exact hz' e
  ·omega⟩
 have hfi:(DI x b.flow).flow=fl[i].flow:=by
  rw[List.getElem?_eq_getElem hil] at hh
  rw[Option.some.inj hh]
 have K:=H.hadd (p':=⟨p.hb,bt,bm,bk,n,A',cap'⟩) (h':=(Du (DI x b.flow) b).2) hp rfl hc hrow Hn hil (by rw[Pw,hfi])
 have hfe:fl.set i (Du (DI x b.flow) b).2=(DD x b).2.flows:=by rw[hset,flows_of hc0]
 have hne:fl.map (·.flow)=(DD x b).2.flows.map (·.flow):=by
  rw[<-hfe,List.map_set,Pw,hfi]
  exact M118
 rw[hfe,hne] at K
 refine⟨mb,nm,N,cN,R,cR,_,K,hchg.then hc hzo,fun c q=> ?_,fun c hE=>(hc.block c (H.elt hE) fun q=>H.hs.sepB hp q (.inl hE)).trans (hke c hE)⟩
 rcases zs_set (p':=⟨p.hb,bt,bm,bk,n,A',cap'⟩) hp rfl hrow q with q|q
 ·exact hz c q
 ·exact .inr (Nat.le_trans hchg.size q)
theorem Ji {b:BT}(hc:(DD x b).1=0):(DD x b).2.clock=b.at':=by
 obtain⟨ha,-,-,hk⟩:=GK hc
 unfold XM.clock at hk ⊢
 rw[ha,Pg]
 exact Nat.max_eq_right hk
theorem XDone.open_ {b:BT}(D:XDone E w xb Z x b w2)(hc0:(DD x b).1=0):∃(mb n cN:Nat) (N R:Option Addr) (cR:Nat) (xs:List Value),w2.heap[xb]?=some (.cells (xC mb N n cN x.clock R x.all.length cR) 99 (0,0))/\w2.ownsRow 0 100 1 (.slice R x.all.length cR) x.all.length xs/\(∀r,rowOf R=some r->r<w2.heap.size/\r≠xb/\(Z r\/w.heap.size<=r))/\
  ∀(w3 w5:World) (R':Option Addr) (cR':Nat) (v:Value),Below w2.heap.size w2 w3->BOwn w3 w2.heap.size v (frm b)->w5.ownsRow 0 100 1 (.slice R' (x.all.length+1) cR') (x.all.length+1) (xs++ [v])->w3.grownBy w5 (rowOf R)->(∀r,rowOf R'=some r->r<w5.heap.size/\(rowOf R=some r\/w3.heap.size<=r))->
   XAdd E w xb Z x b (.returned (.int .i64 0)) ((w5.setCell ⟨xb,2,none⟩ (.int .u64 (b.at':Nat))).setCell ⟨xb,3,none⟩ (.slice R' (x.all.length+1) cR')):=by
 obtain⟨mb,nm,N,cN,R,cR,ps,H,hchg,hz,hke⟩:=D
 have hrl:(x.all.map frm).length=x.all.length:=by simp
 obtain⟨xs,hown,hcells⟩:=H.recs
 have hblk:=H.blk
 rw[hrl] at hblk
 have hown':=hown
 rw[hrl] at hown'
 refine⟨mb,_,cN,N,R,cR,xs,hblk,hown',fun r hr=>⟨H.r_lt r hr,(H.dR r hr).2.1,hz r (.inl (.inr (.inr (.inr (.inr hr)))))⟩,fun w3 w5 R' cR' v hb hx ho hg hr=> ?_⟩
 have K:=H.record (R':=R') (cR':=cR') (w2:=w5) hb hx hcells (by rw[hown.1,Nat.mul_one]) (by rw[hrl];exact ho) hg hr b.at'
 rw[hrl] at K
 obtain⟨K1,K2⟩:=K
 obtain⟨ha,-,-,hk⟩:=GK hc0
 have hbz:∀c,XB E xb mb N R c->Z c\/w.heap.size<=c:=fun c q=>hz c (.inl q)
 refine⟨by rw[hc0],hchg.then K2 hbz,fun c hE=>(RowKit.Below.heap_setCell _ _ _ _ (fun(e:c=xb)=>H.e1 (e ▸ hE))).trans ((RowKit.Below.heap_setCell _ _ _ _ (fun(e:c=xb)=>H.e1 (e ▸ hE))).trans ((hg.block c (Nat.lt_of_lt_of_le (H.elt hE) hb.size) fun e=>(H.dR c e.symm).1 hE).trans ((hb.block c (H.elt hE)).trans (hke c hE)))),HZs (XB E xb mb N R') ps,⟨mb,nm,N,cN,R',cR',ps,rfl,?_⟩,fun c q=> ?_⟩
 ·rw [Ji hc0, ha, List.map_append]
  exact K1
 ·have hx':∀c,XB E xb mb N R' c->XB E xb mb N R c\/w.heap.size<=c:=fun c q=>by
   rcases q with q|q|q|q|q
   ·exact .inl (.inl q)
   ·exact .inl (.inr (.inl q))
   ·exact .inl (.inr (.inr (.inl q)))
   ·exact .inl (.inr (.inr (.inr (.inl q))))
   ·rcases (hr c q).2 with e | e
    ·exact .inl (.inr (.inr (.inr (.inr e))))
    ·exact .inr (Nat.le_trans hchg.size (Nat.le_trans hb.size e))
  rcases Pj hx' q with q|q
  ·exact hz c q
  ·exact .inr q
open _root_.Go.Proofs.YtaahfiopdoinkaaGreat.Nm (Dk De)
open Ev (take_drop tk ap rd1 rd2 Dh)
open Cn (ON GU)
variable {E E' Z : Nat -> Prop} {w w' w0 V V' : World} {xb : Nat} {x : XM}
theorem NU {v:Value}{l:List Nat}(h:Bt.BIn w v l):∃A n c,v= .slice A n c:=by
 rcases h with ⟨h,-⟩|⟨ad,cap,h,-⟩
 ·exact⟨_,_,_,h⟩
 ·exact⟨_,_,_,h⟩
theorem XAt.xz (H:XAt E w xb Z x):Z xb:=by
 obtain⟨mb,nm,N,cN,R,cR,ps,rfl,H⟩:=H
 exact .inl (.inr (.inl rfl))
theorem XAdd.from {W0 w':World}{b:BT}{r:Ending}(hE:∀c,E c->c<w.heap.size)(hb:Below w.heap.size w W0)(h:XAdd E W0 xb Z x b r w'):XAdd E w xb Z x b r w':=by
 obtain⟨h1,h2,hke,Z',h3,h4⟩:=h
 exact⟨h1,(Chg.of_below hb).trans h2,fun c q=>(hke c q).trans (hb.block c (hE c q)),Z',h3,fun c q=>(h4 c q).imp id fun e=>Nat.le_trans hb.size e⟩
theorem M50 (h:p:=by
 have HG5:=Lib.hid hg5
 clear hown5 hgrow5 hat5 hrl5 hx5 hg5
 refine hK.out _ _ (HKS.out _ HG5.out) (fun hHeld4=> ?_)
 clear hK K
 try simp only[ap]
 refine tk 11 rfl ?_
 refine tk 12 rfl ?_
 refine rd1 13 rfl fun K hK=> ?_
 go_simp
 refine hK.out _ _ (HKS.out _ ((RowKit.Below.heap_setCell _ _ _ _ (by show g0≠xb;exact HGX.out)).trans HG5.out)) (fun hHeld5=> ?_)
 clear hK K
 try simp only[ap]
 refine tk 14 rfl ?_
 refine tk 15 rfl ?_
 refine rd1 16 rfl fun K hK=> ?_
 go_simp
 refine hK.out _ _ (HKS.out _ ((RowKit.Below.heap_setCell _ _ _ _ (by show g0≠xb;exact HGX.out)).trans ((RowKit.Below.heap_setCell _ _ _ _ (by show g0≠xb;exact HGX.out)).trans HG5.out))) (fun hHeld6=> ?_)
 clear hK K
 try simp only[ap]
 refine wpAnyH_done (by kernel_rfl) ?_ _
 refine NoPanic.normal ?_
 clear hHeld6
 go_wp2_with fail
 go_ret
 exact XAdd.from HEL.out HBW.out HOUT.out):p:=h
theorem M7 (h:p:=by
 have HCA:=Lib.hid (show Calls _ _ _ _ _ from by
  have q:=XJoin.add HJ.out HXG.out HC0.out A2 c2 HEV0.out HBIN.out HT.out HNN.out HFL.out HBATB.out
  rw[<-HFF.out, <-HAT.out, <-HML.out] at q;exact q)
 obtain⟨a0,a1,a2,-⟩:=HBX.out.cells
 go_upto_region 8 with fail
 go_wp2_with fail
 refine HCA.out.mono ?_
 rintro r w8 ⟨⟨kk,rfl⟩,hd8,hs8⟩
 have HD8:=Lib.hid hd8
 have hbx8:Cn.BB w8 g0 ff at' A2 m c2:=(hs8 g0 HG0L.out HG0Z.out).trans HBX.out
 have HEVW:=Lib.hid (EvsIn.leads (EvsIn.leads HEV0.out (show Leads (Ds Z W0) (Ds Z w8) from by obtain⟨_,_,_,_,_,_,_,-,hc,-⟩:=hd8;exact hc.leads)) (Df _ _))
 have HBY:=Lib.hid (show Calls _ _ _ _ _ from by
  have q:=Cn.Kw b.es (by have:=HL40.out;omega) (b.es.map Vf.Gu) HEB.out.1 HEB.out.2 b.flow b.at' HBATB.out A2 c2 w8 HEVW.out HVAL.out
  rw[<-HFF.out, <-HAT.out, <-HML.out] at q;exact q)
 have HBX8:=Lib.hid hbx8
 clear a0 a1 a2
 obtain⟨a0,a1,a2,-⟩:=hbx8.cells
 clear hd8 hs8 hbx8 HCA HEVW
 go_wp2_with fail
 refine HBY.out.mono ?_
 rintro r w9 ⟨v,rfl,hv,hb9⟩
 obtain⟨vA,vn,vc,rfl⟩:=NU hv.read
 obtain⟨mb9,n9,cN9,N9,R9,cR9,xs,hblk9,hown9,hrow9,hfin9⟩:=XDone.open_ HD8.out HC0.out
 have hg8:g0<w8.heap.size:=(Array.getElem?_eq_some_iff.1 HBX8.out).1
 have hx8:xb<w8.heap.size:=(Array.getElem?_eq_some_iff.1 hblk9).1
 have hbx9:=HBX8.out.later hb9 hg8
 obtain⟨L,hL⟩:∃L,L=x.all.length:=⟨_,rfl⟩
 have hL6:L<=1000000000:=by have:=HXG.out.alen;have:=HNN.out;omega
 rw[<-hL] at hown9 hfin9 hblk9
 obtain⟨d0,d1,d2,d3,df⟩:=DK ((hb9.block _ hx8).trans hblk9)
 clear a0 a1 a2
 obtain⟨a0,a1,a2,-⟩:=hbx9.cells
 have hgb:g0<w9.heap.size:=Nat.lt_of_lt_of_le hg8 hb9.size
 have hxb:xb<w9.heap.size:=Nat.lt_of_lt_of_le hx8 hb9.size
 have HBLK9:Hid (w9.heap[xb]?=some (.cells (xC mb9 N9 n9 cN9 x.clock R9 L cR9) 99 (0,0))):=Lib.hid ((hb9.block _ hx8).trans hblk9)
 have HB:Hid (∀Zo,Below w9.heap.size w9 (w9.drew.alloc Zo)):=Lib.hid fun Zo=>(Da (Below.refl _ _)).alloc (Nat.le_refl _) Zo
 have HOW:Hid (∀W,Below w9.heap.size w9 W->W.ownsRow 0 100 1 (.slice R9 L cR9) L xs):=Lib.hid fun W hW=>Dx hown9 fun r hr=>(hW.block r (Nat.lt_of_lt_of_le (hrow9 r hr).1 hb9.size)).trans (hb9.block r (hrow9 r hr).1)
 have HRG:Hid (rowOf R9≠some g0/\rowOf R9≠some xb):=Lib.hid ⟨fun e=>by
  rcases (hrow9 g0 e).2.2 with q|q
  ·exact HG0Z.out q
  ·have:=HG0L.out;omega,fun e=>(hrow9 xb e).2.1 rfl⟩
 have HBX9:=Lib.hid hbx9
 have HGX:Hid (g0≠xb):=Lib.hid fun e=>HG0Z.out (by rw[e];exact HXBZ.out)
 have HGB:Hid (g0<w9.heap.size/\xb<w9.heap.size):=Lib.hid ⟨hgb,hxb⟩
 have HONE:Hid (∀y∈ [Value.slice vA vn vc],y.oneCell'=true):=Lib.hid fun y hy=>by rw[List.mem_singleton.1 hy];rfl
 have HFIN:Hid (∀(W3 w5:World) (r2 cR':Nat),Below w9.heap.size w9 W3->w5.ownsRow 0 100 1 (.slice (some ⟨r2,0,none⟩) (L+1) cR') (L+1) (xs++ [.slice vA vn vc])->W3.grownBy w5 (rowOf R9)->(rowOf R9=some r2\/r2=W3.heap.size)->r2<w5.heap.size->
   XAdd E W0 xb Z x b (.returned (.int .i64 0)) ((w5.setCell ⟨xb,2,none⟩ (.int .u64 (at':Nat))).setCell ⟨xb,3,none⟩ (.slice (some ⟨r2,0,none⟩) (L+1) cR'))):=Lib.hid fun W3 w5 r2 cR' hW ho hg hr hrl=>by
  have := hfin9 W3 w5 (some ⟨r2, 0, none⟩) cR' (.slice vA vn vc) (hb9.trans (hW.mono hb9.size)) (by have q := hv.later hW; rw [HFF.out, HAT.out, HML.out] at q; exact q) ho hg fun r hr' => by
   have e:r2=r:=Option.some.inj hr'
   subst e
   exact⟨hrl,hr.imp id fun e=>by omega⟩
  rw[HAT.out];exact this
 clear hblk9 hown9 hrow9 hfin9 hbx9 hv hb9 hL df d0 d1 d2 a0 a2 HD8 HBX8 hg8 hx8
 go_upto_region 10 with fail
 obtain⟨u0,hu0⟩:∃u,u=w9.drew:=⟨_,rfl⟩
 have HD0:Hid (Below w9.heap.size w9 u0):=Lib.hid (by rw[hu0];exact Da (Below.refl _ _))
 have HKS:Hid (∀W:World,W.heap[g0]?=w9.heap[g0]?->(fun W:World=>W.cell? ⟨g0,1,none⟩=some (.int .u64 (at':Nat))) W):=Lib.hid fun W hW=>(Cn.BB.cells (hW.trans HBX9.out)).2.1
 have HC3:Hid (∀W:World,Below w9.heap.size w9 W->W.cell? ⟨xb,3,none⟩=some (.slice R9 L cR9)):=Lib.hid fun W hW=>(DK ((hW.block xb HGB.out.2).trans HBLK9.out)).2.2.2.1
 clear d3 a1
 refine wp_region_noPanic ?_
 refine wp_region_held_drew (S:=(fun W:World=>W.cell? ⟨g0,1,none⟩=some (.int .u64 (at':Nat)))) (by kernel_rfl) ?_ (fun hHeld=> ?_)
 ·exact HKS.out _ rfl
 rw[<-hu0] at hHeld
 rw[<-hu0]
 replace hu0:=Lib.hid hu0
 refine tk 0 rfl ?_
 refine tk 1 rfl ?_
 refine tk 2 rfl ?_
 refine tk 3 rfl ?_
 refine tk 4 rfl ?_
 refine tk 5 rfl ?_
 refine tk 6 rfl ?_
 refine tk 8 rfl ?_
 refine rd2 7 9 rfl rfl (fun K hK=> ?_) fun K hK=> ?_
 ·have cx := HC3.out u0 HD0.out
  go_simp
  refine hK.out _ _ (HKS.out _ (HD0.out.block _ HGB.out.1)) (fun hHeld1=> ?_)
  clear hK K cx
  try simp only[ap]
  refine rd1 9 rfl fun K hK=> ?_
  go_simp
  obtain⟨u3,hu3⟩:∃u,u=u0.alloc (.cells #[.slice vA vn vc] 100):=⟨_,rfl⟩
  rw[<-hu3]
  have hbz:Below u0.heap.size u0 u3:=by rw[hu3];exact(Below.refl _ _).alloc (Nat.le_refl _) _
  have HD3:Hid (Below w9.heap.size w9 u3):=Lib.hid (HD0.out.trans (hbz.mono HD0.out.size))
  have HN3:Hid (∀q y,([.slice vA vn vc]:List Value)[q]?=some y->u3.cell? ((⟨u0.heap.size,0,none⟩:Addr).add q)=some y):=Lib.hid (World.news_of_block (t:=100) (fr:=(0,0)) (by rw[hu3];exact heap_alloc_new u0 _))
  clear hbz
  replace hu3:=Lib.hid hu3
  refine hK.out _ _ (HKS.out _ (HD3.out.block _ HGB.out.1)) (fun hHeld3=> ?_)
  clear hK K
  try simp only[ap]
  refine rd1 10 rfl fun K hK=> ?_
  refine step_append_lies u3 rfl _ _ 97 rfl 0 100 i1 _ 1 24 Tryz.underlying97 hi1 hy0 hy1 hy2 rfl (by decide) (.slice R9 L cR9) L xs rfl (HOW.out _ HD3.out) ⟨u0.heap.size,0,none⟩ 1 1 [.slice vA vn vc] rfl rfl HN3.out HONE.out (by decide) (by simp only[maxLen];omega) (by omega) (Nat.zero_le _) _ rfl ?_
  intro r2 cap4 w5 hown5 hgrow5 hat5 hrl5
  rw[Cm.Fa] at hgrow5 hat5
  have hx5:=(hgrow5.block xb (Nat.lt_of_lt_of_le HGB.out.2 HD3.out.size) (fun e=>HRG.out.2 e.symm)).trans ((HD3.out.block xb HGB.out.2).trans HBLK9.out)
  have hg5:=(hgrow5.block g0 (Nat.lt_of_lt_of_le HGB.out.1 HD3.out.size) (fun e=>HRG.out.1 e.symm)).trans (HD3.out.block g0 HGB.out.1)
  have kc2:=(DK hx5).2.2.1
  have kc3:=(DK hx5).2.2.2.1
  have kf2:w5.frozen? ⟨xb,2,none⟩=false:=((DK hx5).2.2.2.2 2)
  have kf3:w5.frozen? ⟨xb,3,none⟩=false:=((DK hx5).2.2.2.2 3)
  have HOUT:=Lib.hid (HFIN.out _ _ _ _ HD3.out hown5 hgrow5 hat5 hrl5)
  exact M50
 ·go_simp
  obtain⟨u4,hu4⟩:∃u,u=u0.alloc (.cells #[.slice vA vn vc] 100):=⟨_,rfl⟩
  rw[<-hu4]
  have hbz:Below u0.heap.size u0 u4:=by rw[hu4];exact(Below.refl _ _).alloc (Nat.le_refl _) _
  have HD4:Hid (Below w9.heap.size w9 u4):=Lib.hid (HD0.out.trans (hbz.mono HD0.out.size))
  have HN4:Hid (∀q y,([.slice vA vn vc]:List Value)[q]?=some y->u4.cell? ((⟨u0.heap.size,0,none⟩:Addr).add q)=some y):=Lib.hid (World.news_of_block (t:=100) (fr:=(0,0)) (by rw[hu4];exact heap_alloc_new u0 _))
  clear hbz
  replace hu4:=Lib.hid hu4
  refine hK.out _ _ (HKS.out _ (HD4.out.block _ HGB.out.1)) (fun hHeld3=> ?_)
  clear hK K
  try simp only[ap]
  refine rd1 7 rfl fun K hK=> ?_
  have cx:=HC3.out u4 HD4.out
  go_simp
  refine hK.out _ _ (HKS.out _ (HD4.out.block _ HGB.out.1)) (fun hHeld1=> ?_)
  clear hK K cx
  try simp only[ap]
  refine rd1 10 rfl fun K hK=> ?_
  refine step_append_lies u4 rfl _ _ 97 rfl 0 100 i1 _ 1 24 Tryz.underlying97 hi1 hy0 hy1 hy2 rfl (by decide) (.slice R9 L cR9) L xs rfl (HOW.out _ HD4.out) ⟨u0.heap.size,0,none⟩ 1 1 [.slice vA vn vc] rfl rfl HN4.out HONE.out (by decide) (by simp only[maxLen];omega) (by omega) (Nat.zero_le _) _ rfl ?_
  intro r2 cap4 w5 hown5 hgrow5 hat5 hrl5
  rw[Cm.Fa] at hgrow5 hat5
  have hx5:=(hgrow5.block xb (Nat.lt_of_lt_of_le HGB.out.2 HD4.out.size) (fun e=>HRG.out.2 e.symm)).trans ((HD4.out.block xb HGB.out.2).trans HBLK9.out)
  have hg5:=(hgrow5.block g0 (Nat.lt_of_lt_of_le HGB.out.1 HD4.out.size) (fun e=>HRG.out.1 e.symm)).trans (HD4.out.block g0 HGB.out.1)
  have kc2:=(DK hx5).2.2.1
  have kc3:=(DK hx5).2.2.2.1
  have kf2:w5.frozen? ⟨xb,2,none⟩=false:=((DK hx5).2.2.2.2 2)
  have kf3:w5.frozen? ⟨xb,3,none⟩=false:=((DK hx5).2.2.2.2 3)
  have HOUT:=Lib.hid (HFIN.out _ _ _ _ HD4.out hown5 hgrow5 hat5 hrl5)
  exact M50):p:=h
theorem M41 (h:p:=by
 unfold JX at hes
 dsimp only at hes
 have hme':(Instr.mapEntry 96 (.map (some mb)) (.string ff)).run Tryz.prog w5= .ok (.tuple #[v0,.int .i64 (st:Nat)]) w6:=hme
 clear hme hfm htr ho6 ho7 hown5 hgrow5 hat5 hrl5 hx5 hg5 hm5 hx7
 refine hK.out _ _ (HKS.out _ HG5.out (DK HX5.out).1) (fun hHeld4=> ?_)
 clear hK K
 try simp only[ap]
 refine rd1 16 rfl fun K hK=> ?_
 go_simp
 refine hK.out _ _ (HKS.out _ HG6.out (DK HX6.out).1) (fun hHeld5=> ?_)
 clear hK K
 try simp only[ap]
 refine tk 17 rfl ?_
 refine rd1 18 rfl fun K hK=> ?_
 go_simp
 refine hK.out _ _ (HKS.out _ HG7.out (DK HX7.out).1) (fun hHeld6=> ?_)
 clear hK K
 try simp only[ap]
 refine tk 19 rfl ?_
 refine tk 20 rfl ?_
 refine rd1 21 rfl fun K hK=> ?_
 have kc1:=(DK HX7.out).2.1
 have kf:w7.frozen? ⟨xb,1,none⟩=false:=(DK HX7.out).2.2.2.2 1
 go_simp
 refine hK.out _ _ (HKS.out _ ((RowKit.Below.heap_setCell _ _ _ _ (by show g0≠xb;exact HGM.out.2)).trans HG7.out) (by have:=(DK HX7.out).1;rw[<-this];simp[World.cell?,World.setCell,Array.getElem?_modify,HX7.out,xC])) (fun hHeld7=> ?_)
 clear hK K
 try simp only[ap]
 refine wpAnyH_done (by kernel_rfl) ?_ _
 refine NoPanic.normal ?_
 clear hHeld7
 go_wp2_with fail
 go_meet
 exact HOUT.out):p:=h
theorem M589 (h:p:=by
 obtain⟨v0,st,w6,w7,hme,hes,hfm,htr,ho6,ho7⟩:=FMap.entry (HMAP.out w5 hm5) HPS.out.2 (HM.new ff) ⟨hb2',bt2,bm2,bk2,0,none,0⟩ (by rw[HFF.out];exact HFL.out) HFN.out HPS.out.1
 have HX5:=Lib.hid hx5
 have hx7:=(ho7 xb (fun e=>HGB.out.2.2.2 e.symm)).trans hx5
 have HX6:=Lib.hid ((ho6 xb (fun e=>HGB.out.2.2.2 e.symm)).trans hx5)
 have HX7:=Lib.hid hx7
 have HG5:=Lib.hid hg5
 have HG6:=Lib.hid ((ho6 g0 HGM.out.1).trans hg5)
 have HG7:=Lib.hid ((ho7 g0 HGM.out.1).trans hg5)
 exact Y589):p:=h
theorem Q590.Y589 (h:p:=by
 have HOUT:=Lib.hid (HJN.out _ _ _ _ _ HD3.out hown5 hgrow5 hat5 hrl5 hfm htr)
 exact M41):p:=h
theorem Q591.Y589 (h:p:=by
 have HOUT:=Lib.hid (HJN.out _ _ _ _ _ HD4.out hown5 hgrow5 hat5 hrl5 hfm htr)
 exact M41):p:=h
theorem Q482.Y479 (h:p:=by
 refine tk 10 rfl ?_
 refine tk 12 rfl ?_
 refine tk 13 rfl ?_
 refine rd2 11 14 rfl rfl (fun K hK=> ?_) fun K hK=> ?_
 ·have cx := (HC1.out u0 HD0.out).1
  go_simp
  refine hK.out _ _ (HKS.out _ (HD0.out.block _ HGB.out.1) (HC1.out u0 HD0.out).2) (fun hHeld1=> ?_)
  clear hK K cx
  try simp only[ap]
  refine rd1 14 rfl fun K hK=> ?_
  go_simp
  obtain⟨u3,hu3⟩:∃u,u=u0.alloc (.cells #[.string ff] 9):=⟨_,rfl⟩
  rw[<-hu3]
  have hbz:Below u0.heap.size u0 u3:=by rw[hu3];exact(Below.refl _ _).alloc (Nat.le_refl _) _
  have HD3:Hid (Below w2.heap.size w2 u3):=Lib.hid (HD0.out.trans (hbz.mono HD0.out.size))
  have HN3:Hid (∀q y,([.string ff]:List Value)[q]?=some y->u3.cell? ((⟨u0.heap.size,0,none⟩:Addr).add q)=some y):=Lib.hid (World.news_of_block (t:=9) (fr:=(0,0)) (by rw[hu3];exact heap_alloc_new u0 _))
  clear hbz
  replace hu3:=Lib.hid hu3
  refine hK.out _ _ (HKS.out _ (HD3.out.block _ HGB.out.1) (HC1.out u3 HD3.out).2) (fun hHeld3=> ?_)
  clear hK K
  try simp only[ap]
  refine rd1 15 rfl fun K hK=> ?_
  refine step_append_lies u3 rfl _ _ 81 rfl 0 9 i2 _ 1 16 Tryz.underlying81 hi2 hq0 hq1 hq2 rfl (by decide) (.slice N L cN) L xn rfl (HOW.out _ HD3.out) ⟨u0.heap.size,0,none⟩ 1 1 [.string ff] rfl rfl HN3.out HONE.out (by decide) (by simp only[maxLen];omega) (by omega) (Nat.zero_le _) _ rfl ?_
  intro r2 cap4 w5 hown5 hgrow5 hat5 hrl5
  rw[Cm.Fa] at hgrow5 hat5
  have hx5:=(hgrow5.block xb (Nat.lt_of_lt_of_le HGB.out.2.1 HD3.out.size) (fun e=>(HNR.out xb e.symm).2.1 rfl)).trans ((HD3.out.block xb HGB.out.2.1).trans HBLK2.out)
  have hg5:=(hgrow5.block g0 (Nat.lt_of_lt_of_le HGB.out.1 HD3.out.size) (fun e=>(HNR.out g0 e.symm).2.2.2 rfl)).trans (HD3.out.block g0 HGB.out.1)
  have hm5:=(hgrow5.block mb (Nat.lt_of_lt_of_le HGB.out.2.2.1 HD3.out.size) (fun e=>(HNR.out mb e.symm).2.2.1 rfl)).trans (HD3.out.block mb HGB.out.2.2.1)
  open Q590 in exact M589
 ·go_simp
  obtain⟨u4,hu4⟩:∃u,u=u0.alloc (.cells #[.string ff] 9):=⟨_,rfl⟩
  rw[<-hu4]
  have hbz:Below u0.heap.size u0 u4:=by rw[hu4];exact(Below.refl _ _).alloc (Nat.le_refl _) _
  have HD4:Hid (Below w2.heap.size w2 u4):=Lib.hid (HD0.out.trans (hbz.mono HD0.out.size))
  have HN4:Hid (∀q y,([.string ff]:List Value)[q]?=some y->u4.cell? ((⟨u0.heap.size,0,none⟩:Addr).add q)=some y):=Lib.hid (World.news_of_block (t:=9) (fr:=(0,0)) (by rw[hu4];exact heap_alloc_new u0 _))
  clear hbz
  replace hu4:=Lib.hid hu4
  refine hK.out _ _ (HKS.out _ (HD4.out.block _ HGB.out.1) (HC1.out u4 HD4.out).2) (fun hHeld3=> ?_)
  clear hK K
  try simp only[ap]
  refine rd1 11 rfl fun K hK=> ?_
  have cx:=(HC1.out u4 HD4.out).1
  go_simp
  refine hK.out _ _ (HKS.out _ (HD4.out.block _ HGB.out.1) (HC1.out u4 HD4.out).2) (fun hHeld1=> ?_)
  clear hK K cx
  try simp only[ap]
  refine rd1 15 rfl fun K hK=> ?_
  refine step_append_lies u4 rfl _ _ 81 rfl 0 9 i2 _ 1 16 Tryz.underlying81 hi2 hq0 hq1 hq2 rfl (by decide) (.slice N L cN) L xn rfl (HOW.out _ HD4.out) ⟨u0.heap.size,0,none⟩ 1 1 [.string ff] rfl rfl HN4.out HONE.out (by decide) (by simp only[maxLen];omega) (by omega) (Nat.zero_le _) _ rfl ?_
  intro r2 cap4 w5 hown5 hgrow5 hat5 hrl5
  rw[Cm.Fa] at hgrow5 hat5
  have hx5:=(hgrow5.block xb (Nat.lt_of_lt_of_le HGB.out.2.1 HD4.out.size) (fun e=>(HNR.out xb e.symm).2.1 rfl)).trans ((HD4.out.block xb HGB.out.2.1).trans HBLK2.out)
  have hg5:=(hgrow5.block g0 (Nat.lt_of_lt_of_le HGB.out.1 HD4.out.size) (fun e=>(HNR.out g0 e.symm).2.2.2 rfl)).trans (HD4.out.block g0 HGB.out.1)
  have hm5:=(hgrow5.block mb (Nat.lt_of_lt_of_le HGB.out.2.2.1 HD4.out.size) (fun e=>(HNR.out mb e.symm).2.2.1 rfl)).trans (HD4.out.block mb HGB.out.2.2.1)
  open Q591 in exact M589):p:=h
theorem PU (H:XAt E w xb Z x){T NN:Nat}(hg:XGood x T NN)(b:BT)(A2:Option Addr)(c2:Nat)(hev:EvsIn (Ds Z w) A2 c2 b.es)(hbin:BIn b)(hT:T+b.es.length<=1100000000000)(hNN:NN<=1000000000)(hfl:b.flow.size<=maxLen)(hbat:b.at'<18446744073709551616)(hclk:x.clock<18446744073709551616)(heb:Dy b.flow b.at' b.es=true->GU b.es (b.es.map Vf.Gu)/\(b.es.map Vf.Gu).flatten.length<=17592186044416/\b.es.length<=1099511627775) :
  Calls Tryz.prog 20 #[.pointer (some ⟨xb,0,none⟩),.agg #[.string b.flow,.int .u64 (b.at':Nat),.slice A2 b.es.length c2]] w (XAdd E w xb Z x b):=by
 obtain⟨i1,hi1,hy0,hy1,hy2⟩:=info_parts Tryz.infoXb
 obtain⟨i2,hi2,hq0,hq1,hq2⟩:=info_parts Tryz.infoXs
 obtain⟨W0,hW0⟩:∃W0,W0=w.alloc (.cells #[.string b.flow,.int .u64 (b.at':Nat),.slice A2 b.es.length c2] 64):=⟨_,rfl⟩
 obtain⟨g0,hg0⟩:∃g,g=w.heap.size:=⟨_,rfl⟩
 have hx0:Cn.BB W0 g0 b.flow b.at' A2 b.es.length c2:=by rw[hW0,hg0];exact heap_alloc_new w _
 have hb0:Below w.heap.size w W0:=by rw[hW0];exact(Below.refl _ _).alloc (Nat.le_refl _) _
 have hz0:W0.heap.size=w.heap.size+1:=by rw[hW0];simp
 have HG0L:Hid (g0<W0.heap.size):=Lib.hid (by omega)
 have HXBZ:Hid (Z xb):=Lib.hid H.xz
 have HG0Z:Hid (¬Z g0):=Lib.hid fun e=>by have:=H.zlt e;omega
 have H1:=H.later hb0
 have hev0:=EvsIn.leads hev (Chg.of_below (X:=Z) hb0).leads
 have HFIT:=Lib.hid (Lw H1 hg b A2 c2 hev0 hbin (by omega) hfl hbat hclk)
 have HBW:=Lib.hid hb0;have HX0:=Lib.hid hx0;have HH:=Lib.hid H1;have HEV0:=Lib.hid hev0;have HBIN:=Lib.hid hbin;have HXG:=Lib.hid hg
 have HT:=Lib.hid hT;have HNN:=Lib.hid hNN;have HFL:=Lib.hid hfl;have HBATB:=Lib.hid hbat;have HEBV:=Lib.hid heb
 obtain⟨a0,a1,a2,-⟩:=hx0.cells
 have HG0:=Lib.hid hg0
 have HEL:Hid (∀c,E c->c<w.heap.size):=Lib.hid fun c hE=>H.elt hE
 clear H H1 hb0 hz0 hx0 hev hev0 hbin hg hT hNN hfl hclk heb hg0
 replace hW0:=Lib.hid hW0
 obtain⟨m,hm⟩:∃m,m=b.es.length:=⟨_,rfl⟩
 obtain⟨ff,hff⟩:∃ff,ff=b.flow:=⟨_,rfl⟩
 obtain⟨at',hat⟩:∃at',at'=b.at':=⟨_,rfl⟩
 have HML:=Lib.hid hm;have HFF:=Lib.hid hff;have HAT:=Lib.hid hat
 rw[<-hff, <-hat, <-hm] at hW0 HFIT HX0
 rw[<-hff] at a0
 rw[<-hat] at a1 hbat
 rw[<-hm] at a2
 rw[<-hff, <-hat, <-hm]
 clear hm hff hat
 go_enter Tryz.func20,Tryz.ntmps20
 go_upto_region 1 with fail
 rw[<-hW0.out, <-HG0.out]
 go_wp2_with fail
 refine HFIT.out.mono ?_
 rintro r w1 ⟨rfl,hb1⟩
 have HB1:=Lib.hid hb1
 have HB01:=Lib.hid (HBW.out.trans (hb1.mono HBW.out.size))
 clear HFIT
 by_cases hc0:(DD x b).1=0
 rotate_left
 ·have HBAD := Lib.hid (Ow hc0)
  have HXW:=Lib.hid (HH.out.later hb1)
  generalize hcd:(DD x b).1=cd at *
  have HCD:=Lib.hid hcd
  have kc:(cd != 0)=true:=by simpa using hc0
  clear hc0 hcd hb1
  go_wp2_with fail
  go_ret
  refine XAdd.from HEL.out HBW.out ⟨by rw[HCD.out];rfl,Chg.of_below HB1.out,fun c hE=>HB1.out.block c (HH.out.elt hE),Z,by rw[HBAD.out];exact HXW.out,fun c q=> .inl q⟩
 obtain⟨-,-,hval,-⟩:=GK hc0
 have HVAL:=Lib.hid hval
 have hebs:=HEBV.out hval
 have HEB:=Lib.hid (And.intro hebs.1 hebs.2.1)
 have HL40:=Lib.hid hebs.2.2
 have HC0:=Lib.hid hc0
 rw[hc0]
 have hbx1:=HX0.out.later hb1 HG0L.out
 have HBX1:=Lib.hid hbx1
 clear a0 a1 a2
 obtain⟨a0,a1,a2,-⟩:=hbx1.cells
 obtain⟨mb,nm,N,cN,R,cR,ps,hZ,HX⟩:=HH.out
 have HX1:=HX.later hb1
 obtain⟨c0,c1,c2',c3,cf⟩:=DK HX1.blk
 have HZE:=Lib.hid hZ
 have HXX:=Lib.hid HX
 have hlk:=HX1.map.look2 ff (by rw[HFF.out];exact HFL.out) w1.drew rfl
 have hgl:g0<w1.heap.size:=Nat.lt_of_lt_of_le HG0L.out hb1.size
 have HD1:Hid (Below W0.heap.size W0 w1.drew):=Lib.hid (hb1.trans ((Da (Below.refl _ _)).mono hb1.size))
 have HBXD:Hid (Cn.BB w1.drew g0 ff at' A2 m c2):=Lib.hid hbx1
 have hptr:=HX1.ptr ff
 clear hb1 hval hebs hc0 hbx1 HX HX1 hZ HEBV
 rcases hptr with ⟨hfn,hpx⟩|⟨i,h,p,hfi,hhi,hpi,hpx,-⟩
 rotate_left
 ·rw [hpx] at hlk
  simp only[Option.getD_some,Option.isSome_some] at hlk
  have HJ:Hid (XJoin E W0 xb Z x b.flow (.pointer (some ⟨p.hb,0,none⟩)) w1.drew):=Lib.hid (by
   rw[HZE.out]
   exact join_old HXX.out HD1.out (by rw[<-HFF.out];exact hfi) hhi hpi)
  have HBX:=HBXD
  clear hpx hfi hhi hpi c1 c2' c3 cf
  generalize p.hb=qq at *
  go_upto_region 4 with fail
  go_region
  clear hlk c0 a0 a1 a2
  go_upto_region 8 with fail
  generalize w1.drew=wj at *
  exact M7
 ·rw [hpx] at hlk
  simp only[Option.getD_none,Option.isSome_none] at hlk
  have HFN:=Lib.hid hfn
  clear hpx hfn c1 c2' c3 cf
  go_upto_region 4 with fail
  go_region
  clear hlk c0 a0 a1 a2
  obtain⟨wd,hwd⟩:∃wd,wd=w1.drew:=⟨_,rfl⟩
  rw[<-hwd] at HD1 HBXD
  obtain⟨a0,a1,a2,-⟩:=HBXD.out.cells
  go_upto_region 6 with fail
  rw[<-hwd]
  clear hwd
  go_wp2_with fail
  refine(YQ ff (by rw[HFF.out];exact HFL.out) wd Z fun c q=> ?_).mono ?_
  ·exact Nat.lt_of_lt_of_le (HH.out.zlt q) HD1.out.size
  rintro r w2 ⟨hb2',bt2,bm2,bk2,rfl,hb2,hbge,Hnew⟩
  have HHN:=Lib.hid Hnew
  have hbl2:Below W0.heap.size W0 w2:=HD1.out.trans (hb2.mono HD1.out.size)
  have HBL2:=Lib.hid hbl2
  have HBGE:Hid (W0.heap.size<=hb2'):=Lib.hid (Nat.le_trans HD1.out.size hbge)
  have HX2:=HXX.out.later hbl2
  obtain⟨c0,c1,c2',c3,cf⟩:=DK HX2.blk
  have hbx2:=HX0.out.later hbl2 HG0L.out
  have HBX2:=Lib.hid hbx2
  clear a0 a1 a2
  obtain⟨a0,a1,a2,-⟩:=hbx2.cells
  have hgb:g0<w2.heap.size:=Nat.lt_of_lt_of_le HG0L.out hbl2.size
  have hxb:xb<w2.heap.size:=HX2.lt
  obtain⟨L,hL⟩:∃L,L=x.flows.length:=⟨_,rfl⟩
  have hnl:(x.flows.map (·.flow)).length=L:=by rw[hL];simp
  have hL6:L<=1000000000:=by have:=HXG.out.len;have:=HNN.out;omega
  have hn1:=HX2.names
  obtain⟨xn,hxn⟩:∃xn:List Value,xn=(x.flows.map (·.flow)).map .string:=⟨_,rfl⟩
  rw[hnl, <-hxn] at hn1
  have HNL:=Lib.hid hnl
  rw[hnl] at c1
  have HXN:=Lib.hid hxn
  have HOWN:=Lib.hid hn1
  have HGB:Hid (g0<w2.heap.size/\xb<w2.heap.size/\mb<w2.heap.size/\mb≠xb):=Lib.hid ⟨hgb,hxb,HX2.map.lt,HX2.d1⟩
  have HNR:Hid (∀r,rowOf N=some r->r<w2.heap.size/\r≠xb/\r≠mb/\r≠g0):=Lib.hid fun r hr=>⟨HX2.n_lt r hr,(HX2.dN r hr).2.1,(HX2.dN r hr).2.2,fun e=>HG0Z.out (by rw[HZE.out];exact .inl (.inr (.inr (.inr (.inl (by rw[<-e];exact hr))))))⟩
  have HGM:Hid (g0≠mb/\g0≠xb):=Lib.hid ⟨fun e=>HG0Z.out (by rw[HZE.out];exact .inl (.inr (.inr (.inl e)))),fun e=>HG0Z.out (by rw[HZE.out];exact .inl (.inr (.inl e)))⟩
  have HB:Hid (∀Zo,Below w2.heap.size w2 (w2.drew.alloc Zo)):=Lib.hid fun Zo=>(Da (Below.refl _ _)).alloc (Nat.le_refl _) Zo
  have HOW:Hid (∀W,Below w2.heap.size w2 W->W.ownsRow 0 9 1 (.slice N L cN) L xn):=Lib.hid fun W hW=>Dx HOWN.out fun r hr=>hW.block r (HNR.out r hr).1
  have HMAP:Hid (∀W:World,W.heap[mb]?=w2.heap[mb]?->FMap W mb nm x.flows ps):=Lib.hid fun W hW=>HX2.map.keep hW
  have HPS:Hid (ps.length=x.flows.length/\nm<maxLen):=Lib.hid ⟨HX2.hs.len,by have:=HX2.nn;simp only[maxLen];omega⟩
  have HBLK2:=Lib.hid HX2.blk
  have HONE:Hid (∀y∈ [Value.string ff],y.oneCell'=true):=Lib.hid fun y hy=>by rw[List.mem_singleton.1 hy];rfl
  have HJN:Hid (∀(W1 W2 W3:World) (r2 cap':Nat),Below w2.heap.size w2 W1->W2.ownsRow 0 9 1 (.slice (some ⟨r2,0,none⟩) (L+1) cap') (L+1) (xn++ [.string ff])->W1.grownBy W2 (rowOf N)->(rowOf N=some r2\/r2=W1.heap.size)->r2<W2.heap.size->FMap W3 mb (nm+1) (x.flows++ [HM.new ff]) (ps++ [⟨hb2',bt2,bm2,bk2,0,none,0⟩])->W2.mapTurned W3 mb->
    XJoin E W0 xb Z x b.flow (.pointer (some ⟨hb2',0,none⟩)) (W3.setCell ⟨xb,1,none⟩ (.slice (some ⟨r2,0,none⟩) (L+1) cap'))/\Cn.BB (W3.setCell ⟨xb,1,none⟩ (.slice (some ⟨r2,0,none⟩) (L+1) cap')) g0 ff at' A2 m c2):=Lib.hid fun W1 W2 W3 r2 cap' hW1 ho hg hr hrl hm ht=>by
   have hW01:Below W0.heap.size W0 W1:=HBL2.out.trans (hW1.mono HBL2.out.size)
   have e:(x.flows.map (·.flow)).map Value.string=x.flows.map (fun h=> .string h.flow):=by rw[List.map_map];rfl
   rw[HXN.out,e] at ho
   constructor
   ·rw [HZE.out, <- HFF.out, hL]
    rw[hL] at ho
    refine join_new (p:=⟨hb2',bt2,bm2,bk2,0,none,0⟩) HXX.out HFN.out hW01 HBGE.out rfl ?_ ho hg (fun r hr'=> ?_) hm ht
    ·rw[<-HZE.out];exact HAt.later HHN.out hW1
    ·have e : r2 = r := Option.some.inj hr'
     subst e
     exact⟨hrl,hr.imp id fun e=>by omega⟩
   ·have h1 := HGB.out
    have z1:=hW1.size
    exact(RowKit.Below.heap_setCell _ _ _ _ HGM.out.2).trans ((Ol ht (by have:=hg.size;omega) HGM.out.1).trans ((hg.block g0 (by omega) fun e=>(HNR.out g0 e.symm).2.2.2 rfl).trans ((hW1.block g0 h1.1).trans HBX2.out)))
  clear hxn hL hnl hn1 HX2 hbl2 hb2 hbge Hnew c2' c3 cf a1 a2 hbx2
  go_upto_region 7 with fail
  go_cut [] from 31 (fun wx=>XJoin E W0 xb Z x b.flow (.pointer (some ⟨hb2',0,none⟩)) wx/\Cn.BB wx g0 ff at' A2 m c2)
  case first =>
   obtain⟨u0,hu0⟩:∃u,u=w2.drew:=⟨_,rfl⟩
   have HD0:Hid (Below w2.heap.size w2 u0):=Lib.hid (by rw[hu0];exact Da (Below.refl _ _))
   have HKS:Hid (∀W:World,W.heap[g0]?=w2.heap[g0]?->W.cell? ⟨xb,0,none⟩=some (.map (some mb))->(fun W:World=>W.cell? ⟨g0,0,none⟩=some (.string ff)/\W.cell? ⟨xb,0,none⟩=some (.map (some mb))) W):=Lib.hid fun W hW hc=>⟨(Cn.BB.cells (hW.trans HBX2.out)).1,hc⟩
   have HC1:Hid (∀W:World,Below w2.heap.size w2 W->W.cell? ⟨xb,1,none⟩=some (.slice N L cN)/\W.cell? ⟨xb,0,none⟩=some (.map (some mb))):=Lib.hid fun W hW=>by
    obtain⟨q0,q1,-⟩:=DK ((hW.block xb HGB.out.2.1).trans HBLK2.out)
    rw[HNL.out] at q1
    exact⟨q1,q0⟩
   clear c0 c1 a0
   refine wp_region_noPanic ?_
   refine wp_region_held_drew (S:=(fun W:World=>W.cell? ⟨g0,0,none⟩=some (.string ff)/\W.cell? ⟨xb,0,none⟩=some (.map (some mb)))) (by kernel_rfl) ?_ (fun hHeld=> ?_)
   ·exact HKS.out _ rfl (HC1.out _ (by rw[<-hu0];exact HD0.out)).2
   rw[<-hu0] at hHeld
   rw[<-hu0]
   replace hu0:=Lib.hid hu0
   open Q482 in exact M479
  case rest=>
   obtain⟨hj,hbx⟩:=hcut
   have HJ:=Lib.hid hj
   have HBX:=Lib.hid hbx
   clear hj hbx
   exact M7
end Hi
end Go.Proofs.YtaahfiopdoinkaaGreat
