/- The timers of a map in order. -/
import Derived.Test.YtaahfiopdoinkaaGreatTwam
import Derived.Test.YtaahfiopdoinkaaGreatTwai
import Derived.Test.YtaahfiopdoinkaaGreatTwaj
set_option maxRecDepth 100000
variable {p : Prop}
set_option linter.unusedVariables false
set_option linter.unusedSimpArgs false
namespace Go.Proofs.YtaahfiopdoinkaaGreat
open Go.RowKit Go.Shelf Go.Sort Go.Maps Go.ChangeMaps Go.WideShapes Go.WideMaps
def Tryz.laysSoM_ren : Go.Shelf.Ren:=⟨fun|6=>94|15=>92|14=>132|28=>129|29=>130|20=>157|21=>158|22=>159|23=>160|24=>161|25=>162|26=>163|27=>164|46=>176|47=>153|48=>154|49=>177|50=>178|57=>182|n=>n,fun|22=>134|24=>89|25=>141|3=>3|39=>173|0=>0|53=>212|55=>23|4=>4|46=>205|45=>204|50=>209|5=>5|9=>9|66=>232|70=>235|76=>249|77=>250|n=>n,fun|n=>n⟩
theorem Tryz.laysSoM : Go.Proofs.SlLaysF0.n6 Tryz.prog Tryz.laysSoM_ren := {
  mixed:=O2
  f6:=⟨Tryz.f94.name,O1,Tryz.func94.trans (congrArg some O2)⟩
  f14:=⟨Tryz.f132.name,O1,Tryz.func132.trans (congrArg some O2)⟩
  f15:=Tryz.func92.trans (congrArg some O2)
  f20:=⟨Tryz.f157.name,O1,Tryz.func157.trans (congrArg some O2)⟩
  f21:=⟨Tryz.f158.name,O1,Tryz.func158.trans (congrArg some O2)⟩
  f22:=⟨Tryz.f159.name,O1,Tryz.func159.trans (congrArg some O2)⟩
  f23:=⟨Tryz.f160.name,O1,Tryz.func160.trans (congrArg some O2)⟩
  f24:=⟨Tryz.f161.name,O1,Tryz.func161.trans (congrArg some O2)⟩
  f25:=⟨Tryz.f162.name,O1,Tryz.func162.trans (congrArg some O2)⟩
  f26:=⟨Tryz.f163.name,O1,Tryz.func163.trans (congrArg some O2)⟩
  f27:=⟨Tryz.f164.name,O1,Tryz.func164.trans (congrArg some O2)⟩
  f28:=Tryz.func129.trans (congrArg some O2)
  f29:=Tryz.func130.trans (congrArg some O2)
  f46:=⟨Tryz.f176.name,O1,Tryz.func176.trans (congrArg some O2)⟩
  f47:=Tryz.func153.trans (congrArg some O2)
  f48:=Tryz.func154.trans (congrArg some O2)
  f49:=⟨Tryz.f177.name,O1,Tryz.func177.trans (congrArg some O2)⟩
  f50:=⟨Tryz.f178.name,O1,Tryz.func178.trans (congrArg some O2)⟩
  f57:=⟨Tryz.f182.name,O1,Tryz.func182.trans (congrArg some O2)⟩
  t0:=Tryz.underlying0
  a0:=Tryz.isAgg0
  z0:=Tryz.sizeOf0
  v0:=Tryz.zeroValue0
  t3:=Tryz.underlying3
  a3:=Tryz.isAgg3
  z3:=Tryz.sizeOf3
  v3:=Tryz.zeroValue3
  t4:=Tryz.underlying4
  a4:=Tryz.isAgg4
  z4:=Tryz.sizeOf4
  v4:=Tryz.zeroValue4
  t5:=Tryz.underlying5
  a5:=Tryz.isAgg5
  z5:=Tryz.sizeOf5
  v5:=Tryz.zeroValue5
  t9:=Tryz.underlying9
  a9:=Tryz.isAgg9
  z9:=Tryz.sizeOf9
  v9:=Tryz.zeroValue9
  t22:=Tryz.underlying134
  a22:=Tryz.isAgg134
  z22:=Tryz.sizeOf134
  v22:=Tryz.zeroValue134
  t25:=Tryz.underlying141
  a25:=Tryz.isAgg141
  z25:=Tryz.sizeOf141
  v25:=Tryz.zeroValue141
  t39:=Tryz.underlying173
  a39:=Tryz.isAgg173
  z39:=Tryz.sizeOf173
  v39:=Tryz.zeroValue173
  t45:=Tryz.underlying204
  a45:=Tryz.isAgg204
  z45:=Tryz.sizeOf204
  v45:=Tryz.zeroValue204
  t46:=Tryz.underlying205
  a46:=Tryz.isAgg205
  z46:=Tryz.sizeOf205
  v46:=Tryz.zeroValue205
  t50:=Tryz.underlying209
  a50:=Tryz.isAgg209
  z50:=Tryz.sizeOf209
  v50:=Tryz.zeroValue209
  t53:=Tryz.underlying212
  a53:=Tryz.isAgg212
  z53:=Tryz.sizeOf212
  v53:=Tryz.zeroValue212
  t55:=Tryz.underlying23
  a55:=Tryz.isAgg23
  z55:=Tryz.sizeOf23
  v55:=Tryz.zeroValue23
  t66:=Tryz.underlying232
  a66:=Tryz.isAgg232
  z66:=Tryz.sizeOf232
  v66:=Tryz.zeroValue232
  t70:=Tryz.underlying235
  a70:=Tryz.isAgg235
  z70:=Tryz.sizeOf235
  v70:=Tryz.zeroValue235
  t76:=Tryz.underlying249
  a76:=Tryz.isAgg249
  z76:=Tryz.sizeOf249
  v76:=Tryz.zeroValue249
  t77:=Tryz.underlying250
  a77:=Tryz.isAgg250
  z77:=Tryz.sizeOf250
  v77:=Tryz.zeroValue250}
namespace Hi
open Vt (VT Rep Da)
def Yh (M : Nat -> Option (Nat × Nat)) (id : Nat) : (Nat × Nat) := match M id with
 | some x=>x
 | none=>(id,0)
def VB (M:Nat->Option (Nat×Nat))(id:Nat):List Value:=DU (Yh M id)
theorem Yg {M:Nat->Option (Nat×Nat)}(hkey:∀id x,M id=some x->(fun x:Nat×Nat=>x.1) x=id)(id:Nat):(fun x:Nat×Nat=>x.1) (Yh M id)=id:=by
 unfold Yh
 split
 ·rename_i x hx;exact hkey id x hx
 ·rfl
theorem LI {M:Nat->Option (Nat×Nat)}{ss:List (Nat×Nat)}(h:∀x∈ss,M ((fun x:Nat×Nat=>x.1) x)=some x):ss.flatMap DU=(ss.map (fun x:Nat×Nat=>x.1)).flatMap (VB M):=by
 induction ss with
 | nil=>rfl
 | cons a t ih=>
  rw[List.map_cons,List.flatMap_cons,List.flatMap_cons,ih fun x hx=>h x (List.mem_cons_of_mem _ hx)]
  congr 1
  have:=h a List.mem_cons_self
  unfold VB Yh
  rw[this]
theorem ti_cmp (x y:(Nat×Nat))(W:World):Calls Tryz.prog 63 #[.agg (DU x).toArray,.agg (DU y).toArray] W fun e w'=>e= .returned (.int .i64 (Lv.DZ ((fun x:Nat×Nat=>x.1) x) ((fun x:Nat×Nat=>x.1) y)))/\∃q os,w'=grow (W.drewN q) os:=by
 obtain⟨x1,x2⟩:=x
 obtain⟨y1,y2⟩:=y
 dsimp only[DU,Ge]
 go_enter Tryz.func63,Tryz.ntmps63
 go_wp2_with fail
 refine(Lv.Sh _ _ _).mono ?_
 rintro e w' ⟨rfl,rfl⟩
 go_wp2_with fail
 go_ret
 refine⟨rfl,0,#[.cells (Ge (x1,x2)) 89,.cells (Ge (y1,y2)) 89],?_⟩
 rw[alloc_eq_grow,alloc_eq_grow,grow_grow]
 rfl
theorem M99 (h:p:=by
 go_wp2_with fail
 refine HC.out.mono ?_
 rintro e w1 ⟨v,ss,rfl,hS,hrow,hnil,hb⟩
 have HR1:=U (And.intro hS (And.intro hrow (And.intro hnil hb)))
 clear hS hrow hnil hb
 go_wp2_with fail
 go_ret
 obtain⟨hS,hrow,hnil,hb⟩:=HR1.out
 exact⟨v,ss,rfl,⟨hS,hrow⟩,hnil,hb⟩):p:=h
theorem JA (Bm b nn : Nat) (D : DataW Value) (M : Nat -> Option (Nat × Nat)) (hM : Vv D M FO) (hkey : ∀ id x, M id = some x -> (fun x : Nat × Nat => x.1) x = id) (w : World) (hBm : Bm < w.heap.size)
  (hm:w.cell? ⟨Bm,0,none⟩=some (.map (some b))) (hown:w.ownsMap Tryz.prog 23 HR b nn D) (hN:nn<=1200000000000) :
  Calls Tryz.prog 93 #[.func (.func 95) #[] #[.pointer (some ⟨Bm,0,none⟩)]] w fun e w'=>∃(v:Value) (ss:List (Nat×Nat)),e= .returned v/\(All M (fun x:Nat×Nat=>x.1) ss/\w'.ownsRow w.heap.size 89 2 v ss.length (ss.flatMap DU))/\(v= .slice none 0 0↔ss= [])/\Below w.heap.size w w':=by
 have hsz:=hown.size_le
 have hN2:Maps.size D<=1200000000000:=Nat.le_trans hsz hN
 have HC:=U ((callsIn_wide (n:=9)).1 (LH 9 O0 95 #[.pointer (some ⟨Bm,0,none⟩)] (enters_of Tryz.func95 O2 rfl) (All M (fun x:Nat×Nat=>x.1)) (Maps.size D) (by simp only[maxLen];omega) O0 w (ti_gives Fence.wide 8 trivial rfl O0 Bm b nn D M hM hkey w hBm hm hown)))
 clear hM hkey hBm hm hown hN hsz hN2
 go_enter Tryz.func93,Tryz.ntmps93
 exact M99
def Yf (M:Nat->Option (Nat×Nat))(ids:List Nat)(w:World)(v:Value)(w':World):Prop:=Below w.heap.size w w'/\((ids= []/\v= .slice none 0 0)\/∃blk cap,v= .slice (some ⟨blk,0,none⟩) ids.length cap/\ids.length<=cap/\cap<=maxLen/\w.heap.size<=blk/\blk<w'.heap.size/\HoldsK (VB M) 2 w' blk 0 ids.toArray)
theorem M94 (h:p:=by
 have hnd:ids.Nodup:=HI.out.imp fun h=>O0
 refine(List.perm_ext_iff_of_nodup hS.1 hnd).2 fun id=> ?_
 rw[HIDS.out id]
 constructor
 ·intro h
  obtain⟨x,hx,rfl⟩:=List.mem_map.1 h
  obtain⟨h1,h2⟩:=hS.2.1 x hx
  exact⟨h2,by rw[h1];rfl⟩
 ·intro h;exact(hS.2.2 id h.1).2 h.2):p:=h
theorem M156 (h:p:=by
 rcases hrow.2 with ⟨-,hz⟩|⟨g,cp,cur,q1,q2,q3,q4,q5,-⟩
 ·exact absurd (List.eq_nil_of_length_eq_zero hz) h0
 ·exact⟨g,cp,q1,q2,q4,q5⟩):p:=h
theorem M164 (h:p:=by
 go_wp2_with fail
 refine(HSO.out w1).mono ?_
 rintro e w2 ⟨rfl,rfl⟩
 go_wp2_with fail
 go_ret
 exact⟨_,rfl,HB.out,.inl ⟨HI0.out,rfl⟩⟩):p:=h
theorem Q720.Y719 (h:p:=by
 have HFIN:Hid (Yf M ids w (.slice (some ⟨blk,0,none⟩) m cap) w2):=U ⟨HB.out.trans hb2,.inr ⟨blk,cap,by rw[HLEN.out],by rw[<-HLEN.out];exact HCC.out.1,HCC.out.2,HBK.out,hlt2,hH⟩⟩
 clear hb2 hlt2 hH
 go_wp2_with fail
 go_ret
 exact⟨_,rfl,HFIN.out⟩):p:=h
theorem M719 (h:p:=by
 have HB:=U hb;have HBK:=U hbk;have HCC:=U (And.intro hc1 hc2);have HLEN:=U hlen
 clear hperm hlen hrow hnil hb hS h0 hso hsmall hbk hc1 hc2
 generalize ss.length=m at *
 go_wp2_with fail
 refine HSO.out.mono ?_
 rintro e w2 ⟨rfl,hb2,hlt2,hH⟩
 exact Y719):p:=h
theorem LG (Bm b nn : Nat) (D : DataW Value) (M : Nat -> Option (Nat × Nat)) (hM : Vv D M FO) (hkey : ∀ id x, M id = some x -> (fun x : Nat × Nat => x.1) x = id) (w : World) (hBm : Bm < w.heap.size)
  (hm:w.cell? ⟨Bm,0,none⟩=some (.map (some b))) (hown:w.ownsMap Tryz.prog 23 HR b nn D) (hN:nn<=1200000000000) (ids:List Nat) (hi:ids.Pairwise (· < ·)) (hids:∀id,id∈ids↔(id<18446744073709551616/\(M id).isSome=true)) (hil:ids.length<=1200000000000) :
  Calls Tryz.prog 61 #[.func (.func 95) #[] #[.pointer (some ⟨Bm,0,none⟩)],.func (.func 63) #[] #[]] w fun e w'=>∃v,e= .returned v/\Yf M ids w v w':=by
 have HC:=U (JA Bm b nn D M hM hkey w hBm hm hown hN)
 have HK:=U hkey;have HI:=U hi;have HIDS:=U hids
 clear hM hkey hBm hm hown hN hi hids
 go_enter Tryz.func61,Tryz.ntmps61
 go_wp2_with fail
 refine HC.out.mono ?_
 rintro e w1 ⟨v,ss,rfl,⟨hS,hrow⟩,hnil,hb⟩
 have hperm:(ss.map (fun x:Nat×Nat=>x.1)).Perm ids:=by
  exact M94
 have hlen:ss.length=ids.length:=by rw[<-hperm.length_eq,List.length_map]
 have HPM:=U hperm
 by_cases h0:ss= []
 ·obtain rfl : v = .slice none 0 0 := hnil.2 h0
  have hi0:ids= []:=List.eq_nil_of_length_eq_zero (by rw[<-hlen,h0];rfl)
  have HB:=U hb
  have HI0:=U hi0
  clear hperm hlen hrow hnil hb hS h0 hi0
  have HSO:=U (fun W=>AnyF.slices_SortFunc_none Tryz.laysSoM none 0 (.func (.func 63) #[] #[]) W)
  change Hid (∀W,Calls Tryz.prog 94 _ W _) at HSO
  exact M164
 ·have hv:∃blk cap,v= .slice (some ⟨blk,0,none⟩) ss.length cap/\w.heap.size<=blk/\ss.length<=cap/\cap<=maxLen:=by
   exact M156
  obtain⟨blk,cap,rfl,hbk,hc1,hc2⟩:=hv
  rw[LI (fun x hx=>(hS.2.1 x hx).1),show ss.length=(ss.map (fun x:Nat×Nat=>x.1)).length from (List.length_map _).symm] at hrow
  have hsmall:(ss.map (fun x:Nat×Nat=>x.1)).length<4611686018427387904:=by rw[List.length_map];omega
  have hso := Ys Tryz.laysSoM 2 O1 Tryz.isAgg89 Tryz.sizeOf89 (VB M) (fun _ => rfl) (fun x => Un _) 63 (enters_of Tryz.func63 O2 rfl)
   (fun i j W=>by have:=ti_cmp (Yh M i) (Yh M j) W;rw[Yg HK.out i,Yg HK.out j] at this;exact this) w.heap.size blk cap 89 (ss.map (fun x:Nat×Nat=>x.1)) w1 hsmall hb.size hrow
  rw[List.length_map,Uw HPM.out HI.out] at hso
  have HSO:=U hso
  change Hid (Calls Tryz.prog 94 _ w1 _) at HSO
  open Q720 in exact M719
end Hi
end Go.Proofs.YtaahfiopdoinkaaGreat
namespace Go.Proofs.YtaahfiopdoinkaaGreat
open Go.RowKit Go.Shelf Go.Sort Go.Maps Go.ChangeMaps Go.WideShapes Go.WideMaps
def Tryz.laysSoT_ren : Go.Shelf.Ren:=⟨fun|6=>84|15=>92|14=>117|28=>129|29=>130|20=>144|21=>145|22=>146|23=>147|24=>148|25=>149|26=>150|27=>151|46=>172|47=>153|48=>154|49=>173|50=>174|57=>181|n=>n,fun|22=>43|24=>36|25=>127|3=>3|39=>173|0=>0|53=>212|55=>23|4=>4|46=>205|45=>204|50=>209|5=>5|9=>9|66=>232|70=>235|76=>249|77=>250|n=>n,fun|n=>n⟩
theorem Tryz.laysSoT : Go.Proofs.SlLaysF0.n6 Tryz.prog Tryz.laysSoT_ren := {
  mixed:=O2
  f6:=⟨Tryz.f84.name,O1,Tryz.func84.trans (congrArg some O2)⟩
  f14:=⟨Tryz.f117.name,O1,Tryz.func117.trans (congrArg some O2)⟩
  f15:=Tryz.func92.trans (congrArg some O2)
  f20:=⟨Tryz.f144.name,O1,Tryz.func144.trans (congrArg some O2)⟩
  f21:=⟨Tryz.f145.name,O1,Tryz.func145.trans (congrArg some O2)⟩
  f22:=⟨Tryz.f146.name,O1,Tryz.func146.trans (congrArg some O2)⟩
  f23:=⟨Tryz.f147.name,O1,Tryz.func147.trans (congrArg some O2)⟩
  f24:=⟨Tryz.f148.name,O1,Tryz.func148.trans (congrArg some O2)⟩
  f25:=⟨Tryz.f149.name,O1,Tryz.func149.trans (congrArg some O2)⟩
  f26:=⟨Tryz.f150.name,O1,Tryz.func150.trans (congrArg some O2)⟩
  f27:=⟨Tryz.f151.name,O1,Tryz.func151.trans (congrArg some O2)⟩
  f28:=Tryz.func129.trans (congrArg some O2)
  f29:=Tryz.func130.trans (congrArg some O2)
  f46:=⟨Tryz.f172.name,O1,Tryz.func172.trans (congrArg some O2)⟩
  f47:=Tryz.func153.trans (congrArg some O2)
  f48:=Tryz.func154.trans (congrArg some O2)
  f49:=⟨Tryz.f173.name,O1,Tryz.func173.trans (congrArg some O2)⟩
  f50:=⟨Tryz.f174.name,O1,Tryz.func174.trans (congrArg some O2)⟩
  f57:=⟨Tryz.f181.name,O1,Tryz.func181.trans (congrArg some O2)⟩
  t0:=Tryz.underlying0
  a0:=Tryz.isAgg0
  z0:=Tryz.sizeOf0
  v0:=Tryz.zeroValue0
  t3:=Tryz.underlying3
  a3:=Tryz.isAgg3
  z3:=Tryz.sizeOf3
  v3:=Tryz.zeroValue3
  t4:=Tryz.underlying4
  a4:=Tryz.isAgg4
  z4:=Tryz.sizeOf4
  v4:=Tryz.zeroValue4
  t5:=Tryz.underlying5
  a5:=Tryz.isAgg5
  z5:=Tryz.sizeOf5
  v5:=Tryz.zeroValue5
  t9:=Tryz.underlying9
  a9:=Tryz.isAgg9
  z9:=Tryz.sizeOf9
  v9:=Tryz.zeroValue9
  t22:=Tryz.underlying43
  a22:=Tryz.isAgg43
  z22:=Tryz.sizeOf43
  v22:=Tryz.zeroValue43
  t25:=Tryz.underlying127
  a25:=Tryz.isAgg127
  z25:=Tryz.sizeOf127
  v25:=Tryz.zeroValue127
  t39:=Tryz.underlying173
  a39:=Tryz.isAgg173
  z39:=Tryz.sizeOf173
  v39:=Tryz.zeroValue173
  t45:=Tryz.underlying204
  a45:=Tryz.isAgg204
  z45:=Tryz.sizeOf204
  v45:=Tryz.zeroValue204
  t46:=Tryz.underlying205
  a46:=Tryz.isAgg205
  z46:=Tryz.sizeOf205
  v46:=Tryz.zeroValue205
  t50:=Tryz.underlying209
  a50:=Tryz.isAgg209
  z50:=Tryz.sizeOf209
  v50:=Tryz.zeroValue209
  t53:=Tryz.underlying212
  a53:=Tryz.isAgg212
  z53:=Tryz.sizeOf212
  v53:=Tryz.zeroValue212
  t55:=Tryz.underlying23
  a55:=Tryz.isAgg23
  z55:=Tryz.sizeOf23
  v55:=Tryz.zeroValue23
  t66:=Tryz.underlying232
  a66:=Tryz.isAgg232
  z66:=Tryz.sizeOf232
  v66:=Tryz.zeroValue232
  t70:=Tryz.underlying235
  a70:=Tryz.isAgg235
  z70:=Tryz.sizeOf235
  v70:=Tryz.zeroValue235
  t76:=Tryz.underlying249
  a76:=Tryz.isAgg249
  z76:=Tryz.sizeOf249
  v76:=Tryz.zeroValue249
  t77:=Tryz.underlying250
  a77:=Tryz.isAgg250
  z77:=Tryz.sizeOf250
  v77:=Tryz.zeroValue250}
namespace Hi
open Vt (VT Rep Da)
def Yp (M : Nat -> Option TC) (id : Nat) : TC := match M id with
 | some x=>x
 | none=>⟨id,⟨#[]⟩,0,0,0,⟨#[]⟩,none,0,0,0,false,0⟩
def Ur (M:Nat->Option TC)(id:Nat):List Value:=GN (Yp M id)
theorem Yo {M:Nat->Option TC}(hkey:∀id x,M id=some x->TC.id x=id)(id:Nat):TC.id (Yp M id)=id:=by
 unfold Yp
 split
 ·rename_i x hx;exact hkey id x hx
 ·rfl
theorem LQ {M:Nat->Option TC}{ss:List TC}(h:∀x∈ss,M (TC.id x)=some x):ss.flatMap GN=(ss.map TC.id).flatMap (Ur M):=by
 induction ss with
 | nil=>rfl
 | cons a t ih=>
  rw[List.map_cons,List.flatMap_cons,List.flatMap_cons,ih fun x hx=>h x (List.mem_cons_of_mem _ hx)]
  congr 1
  have:=h a List.mem_cons_self
  unfold Ur Yp
  rw[this]
theorem ta_cmp (x y:TC)(W:World):Calls Tryz.prog 53 #[.agg (GN x).toArray,.agg (GN y).toArray] W fun e w'=>e= .returned (.int .i64 (Lv.DZ (TC.id x) (TC.id y)))/\∃q os,w'=grow (W.drewN q) os:=by
 obtain⟨x0,x1,x2,x3,x4,x5,x6,x7,x8,x9,x10,x11⟩:=x
 obtain⟨y0,y1,y2,y3,y4,y5,y6,y7,y8,y9,y10,y11⟩:=y
 dsimp only[GN,DV]
 go_enter Tryz.func53,Tryz.ntmps53
 go_wp2_with fail
 refine(Lv.Sh _ _ _).mono ?_
 rintro e w' ⟨rfl,rfl⟩
 go_wp2_with fail
 go_ret
 refine⟨rfl,0,#[.cells (DV ⟨x0,x1,x2,x3,x4,x5,x6,x7,x8,x9,x10,x11⟩) 36,.cells (DV ⟨y0,y1,y2,y3,y4,y5,y6,y7,y8,y9,y10,y11⟩) 36],?_⟩
 rw[alloc_eq_grow,alloc_eq_grow,grow_grow]
 rfl
theorem JD (Bm b nn : Nat) (D : DataW Value) (M : Nat -> Option TC) (hM : Vv D M Ga) (hkey : ∀ id x, M id = some x -> TC.id x = id) (w : World) (hBm : Bm < w.heap.size)
  (hm:w.cell? ⟨Bm,0,none⟩=some (.map (some b))) (hown:w.ownsMap Tryz.prog 23 HR b nn D) (hN:nn<=1200000000000) :
  Calls Tryz.prog 83 #[.func (.func 85) #[] #[.pointer (some ⟨Bm,0,none⟩)]] w fun e w'=>∃(v:Value) (ss:List TC),e= .returned v/\(All M TC.id ss/\w'.ownsRow w.heap.size 36 10 v ss.length (ss.flatMap GN))/\(v= .slice none 0 0↔ss= [])/\Below w.heap.size w w':=by
 have hsz:=hown.size_le
 have hN2:Maps.size D<=1200000000000:=Nat.le_trans hsz hN
 have HC:=U ((callsIn_wide (n:=9)).1 (LP 9 O0 85 #[.pointer (some ⟨Bm,0,none⟩)] (enters_of Tryz.func85 O2 rfl) (All M TC.id) (Maps.size D) (by simp only[maxLen];omega) O0 w (ta_gives Fence.wide 8 trivial rfl O0 Bm b nn D M hM hkey w hBm hm hown)))
 clear hM hkey hBm hm hown hN hsz hN2
 go_enter Tryz.func83,Tryz.ntmps83
 exact M99
def Yn (M:Nat->Option TC)(ids:List Nat)(w:World)(v:Value)(w':World):Prop:=Below w.heap.size w w'/\((ids= []/\v= .slice none 0 0)\/∃blk cap,v= .slice (some ⟨blk,0,none⟩) ids.length cap/\ids.length<=cap/\cap<=maxLen/\w.heap.size<=blk/\blk<w'.heap.size/\HoldsK (Ur M) 10 w' blk 0 ids.toArray)
theorem Q721.Y719 (h:p:=by
 have HFIN:Hid (Yn M ids w (.slice (some ⟨blk,0,none⟩) m cap) w2):=U ⟨HB.out.trans hb2,.inr ⟨blk,cap,by rw[HLEN.out],by rw[<-HLEN.out];exact HCC.out.1,HCC.out.2,HBK.out,hlt2,hH⟩⟩
 clear hb2 hlt2 hH
 go_wp2_with fail
 go_ret
 exact⟨_,rfl,HFIN.out⟩):p:=h
theorem LO (Bm b nn : Nat) (D : DataW Value) (M : Nat -> Option TC) (hM : Vv D M Ga) (hkey : ∀ id x, M id = some x -> TC.id x = id) (w : World) (hBm : Bm < w.heap.size)
  (hm:w.cell? ⟨Bm,0,none⟩=some (.map (some b))) (hown:w.ownsMap Tryz.prog 23 HR b nn D) (hN:nn<=1200000000000) (ids:List Nat) (hi:ids.Pairwise (· < ·)) (hids:∀id,id∈ids↔(id<18446744073709551616/\(M id).isSome=true)) (hil:ids.length<=1200000000000) :
  Calls Tryz.prog 51 #[.func (.func 85) #[] #[.pointer (some ⟨Bm,0,none⟩)],.func (.func 53) #[] #[]] w fun e w'=>∃v,e= .returned v/\Yn M ids w v w':=by
 have HC:=U (JD Bm b nn D M hM hkey w hBm hm hown hN)
 have HK:=U hkey;have HI:=U hi;have HIDS:=U hids
 clear hM hkey hBm hm hown hN hi hids
 go_enter Tryz.func51,Tryz.ntmps51
 go_wp2_with fail
 refine HC.out.mono ?_
 rintro e w1 ⟨v,ss,rfl,⟨hS,hrow⟩,hnil,hb⟩
 have hperm:(ss.map TC.id).Perm ids:=by
  exact M94
 have hlen:ss.length=ids.length:=by rw[<-hperm.length_eq,List.length_map]
 have HPM:=U hperm
 by_cases h0:ss= []
 ·obtain rfl : v = .slice none 0 0 := hnil.2 h0
  have hi0:ids= []:=List.eq_nil_of_length_eq_zero (by rw[<-hlen,h0];rfl)
  have HB:=U hb
  have HI0:=U hi0
  clear hperm hlen hrow hnil hb hS h0 hi0
  have HSO:=U (fun W=>AnyF.slices_SortFunc_none Tryz.laysSoT none 0 (.func (.func 53) #[] #[]) W)
  change Hid (∀W,Calls Tryz.prog 84 _ W _) at HSO
  exact M164
 ·have hv:∃blk cap,v= .slice (some ⟨blk,0,none⟩) ss.length cap/\w.heap.size<=blk/\ss.length<=cap/\cap<=maxLen:=by
   exact M156
  obtain⟨blk,cap,rfl,hbk,hc1,hc2⟩:=hv
  rw[LQ (fun x hx=>(hS.2.1 x hx).1),show ss.length=(ss.map TC.id).length from (List.length_map _).symm] at hrow
  have hsmall:(ss.map TC.id).length<4611686018427387904:=by rw[List.length_map];omega
  have hso := Ys Tryz.laysSoT 10 O1 Tryz.isAgg36 Tryz.sizeOf36 (Ur M) (fun _ => rfl) (fun x => VF _) 53 (enters_of Tryz.func53 O2 rfl)
   (fun i j W=>by have:=ta_cmp (Yp M i) (Yp M j) W;rw[Yo HK.out i,Yo HK.out j] at this;exact this) w.heap.size blk cap 36 (ss.map TC.id) w1 hsmall hb.size hrow
  rw[List.length_map,Uw HPM.out HI.out] at hso
  have HSO:=U hso
  change Hid (Calls Tryz.prog 84 _ w1 _) at HSO
  open Q721 in exact M719
end Hi
end Go.Proofs.YtaahfiopdoinkaaGreat
