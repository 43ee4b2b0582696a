/- Bytes read as a string. -/
import Derived.Test.YtaahfiopdoinkaaGreatTwas
import Derived.Lib.BufferRead
import Derived.Lib.AtoiErrMem
import Derived.Laws.BitsAllLaws
import Derived.Test.YtaahfiopdoinkaaGreatTwad
import Derived.Test.YtaahfiopdoinkaaGreatTwal
import Derived.Test.YtaahfiopdoinkaaGreatTwaj
set_option maxRecDepth 100000
variable {p : Prop}
set_option linter.unusedVariables false
set_option linter.unusedSimpArgs false
open Go.RowKit
namespace Go.Proofs.YtaahfiopdoinkaaGreat
namespace Bt
open _root_.Go.Proofs.YtaahfiopdoinkaaGreat.Nm (Dk De)
open Vt (VT Rep BoxAt Da)
open Ev (take_drop tk ap rd1 rd2 Dh)
end Bt
namespace Rd
open _root_.Go.Proofs.YtaahfiopdoinkaaGreat.Nm (Dk De)
open Vt (Da)
open Bt (BOwn BIn bv Dm sb)
open Cn (BRd)
open Cm (OnlyAt)
abbrev St := List Nat × Bool
def nxt (s:St):Option (Nat×Nat):=if s.2 then none else num s.1
def rUint (s:St):St×Nat:=match nxt s with | some (x,n)=>((s.1.drop n,false),x)|none=>((s.1,true),0)
def rTake (s:St)(n:Nat):St×List Nat:=if s.2=false/\n<=s.1.length then ((s.1.drop n,false),s.1.take n) else ((s.1,true),[])
def rBytes (s : St) : St × List Nat := match nxt s with
 | some (x,n)=>if x<=s.1.length-n then ((s.1.drop (n+x),false),(s.1.drop n).take x) else ((s.1,true),[])
 | none=>((s.1,true),[])
def strOf (l:List Nat):ByteArray:=⟨(l.map UInt8.ofNat).toArray⟩
def unzz (x:Nat):Int:=if x%2=0 then ((x/2:Nat):Int) else -((x/2:Nat):Int)-1
open _root_.Go.Proofs.YtaahfiopdoinkaaGreat.Nm (Di ofW okW)
open Vt (VT)
open Ev (EV fieldsOf)
def rep {α : Type} (p : St -> Option (St × α)) : Nat -> St -> Option (St × List α)
 | 0,s=>some (s,[])
 | n + 1, s => match p s with
  | none=>none
  | some (s1, t) => match rep p n s1 with
   | none=>none
   | some (s2,ts)=>some (s2,t::ts)
def beN (l:List Nat):Nat:=l.foldl (fun a b=>a*256+b) 0
def pv : Nat -> St -> Option (St × VT)
 | left,s=>
  let q:=rUint s
  if q.1.2=true\/4<q.2 then none
  else if q.2=0 then some (q.1,.mk 0 0 0 ⟨#[]⟩ [])
  else if q.2=1 then (let z:=rUint q.1;if z.1.2=true then none else some (z.1,.mk 1 (unzz z.2) 0 ⟨#[]⟩ []))
  else if q.2=2 then (let z:=rTake q.1 8;if z.1.2=true\/okW (beN z.2)=false then none else some (z.1,.mk 2 0 (ofW (beN z.2)) ⟨#[]⟩ []))
  else if q.2=3 then (let z:=rBytes q.1;if z.1.2=true then none else some (z.1,.mk 3 0 0 (strOf z.2) []))
  else match left with
   | 0=>none
   | left + 1 => let z := rUint q.1; match rep (pv left) z.2 z.1 with
    | none=>none
    | some (s3,ts)=>if s3.2=true then none else some (s3,.mk 4 0 0 ⟨#[]⟩ ts)
open Bt (Ox)
open Pf (Og zz be8 Xy Lh)
theorem Lm : Di 0=0:=by decide
open Vt (Rep)
open Ev (Dj Db Dn SJ zeroT OR DB)
open Cm (SE)
theorem rv1 (b:Bool)(id:Nat):(!(b != ((id:Int) != 0)))=DB b (decide (0<id)) ((id:Int)==0):=by
 by_cases h:id=0
 ·subst h;cases b<;>rfl
 ·have h1 : ((id : Int) == 0) = false := beq_eq_false_iff_ne.2 (by omega)
  have h2:((id:Int) != 0)=true:=by simp[bne,h1]
  rw[h1,h2,decide_eq_true (by omega)]
  cases b<;>rfl
theorem rv2 (b:Bool)(n:Int):(!((b&&(decide (n<1)||decide (2147483647<n)))||(!b&&(n != 0))))=DB b (decide (1<=n/\n<=2147483647)) (n==0):=by
 cases b with
 | true=>
  unfold DB
  rw[if_pos rfl]
  by_cases h1:n<1
  ·rw[decide_eq_true h1,decide_eq_false (by omega:¬(1<=n/\n<=2147483647))];rfl
  ·by_cases h2 : 2147483647 < n
   ·rw[decide_eq_false h1,decide_eq_true h2,decide_eq_false (by omega:¬(1<=n/\n<=2147483647))];rfl
   ·rw[decide_eq_false h1,decide_eq_false h2,decide_eq_true (by omega:(1<=n/\n<=2147483647))];rfl
 | false=>
  unfold DB
  rw[if_neg (by simp)]
  simp[bne]
theorem rv3 (b:Bool)(a:Nat):(!(decide ((9223372036854775807:Int)<(a:Int))||(!b&&((a:Int) != 0))))=DB b (decide (a<=9223372036854775807)) ((a:Int)==0):=by
 by_cases h:(9223372036854775807:Int)<(a:Int)
 ·rw [decide_eq_true h, decide_eq_false (by omega : ¬ a <= 9223372036854775807), beq_eq_false_iff_ne.2 (by omega : (a : Int) ≠ 0)]
  cases b<;>rfl
 ·rw [decide_eq_false h, decide_eq_true (by omega : a <= 9223372036854775807)]
  cases b<;>simp[DB,bne]
theorem size_empty {s:ByteArray}(h:s.toList.isEmpty=true):s.size=0:=by rw[Vf.toList_nil h];rfl
theorem rv4 (b c:Bool)(s t:ByteArray):(!((b != !s.toList.isEmpty)||decide ((1000:Int)<(s.size:Int))||decide ((1000:Int)<(t.size:Int))||(!c&& !t.toList.isEmpty)))=(DB b (!s.toList.isEmpty&&decide (s.size<=1000)) s.toList.isEmpty&&DB c (decide (t.size<=1000)) t.toList.isEmpty):=by
 have e1:∀x:ByteArray,decide ((1000:Int)<(x.size:Int))= !decide (x.size<=1000):=fun x=>by
  by_cases h:x.size<=1000
  ·rw[decide_eq_true h,decide_eq_false (by omega)];rfl
  ·rw[decide_eq_false h,decide_eq_true (by omega)];rfl
 rw[e1,e1]
 have hs:s.toList.isEmpty=true->decide (s.size<=1000)=true:=fun h=>decide_eq_true (by rw[size_empty h];omega)
 have ht:t.toList.isEmpty=true->decide (t.size<=1000)=true:=fun h=>decide_eq_true (by rw[size_empty h];omega)
 revert hs ht
 generalize s.toList.isEmpty=E
 generalize t.toList.isEmpty=T
 generalize decide (s.size<=1000)=x
 generalize decide (t.size<=1000)=y
 unfold DB
 revert b c E T x y
 decide
theorem rv5 (b:Bool)(v:VT):(v.valid 8&&(b||(v.k==0)))=DB b (v.valid 8) (v.same zeroT):=by
 cases b with
 | true=>unfold DB;simp
 | false=>
  unfold DB
  rw[if_neg (by simp),Bool.false_or,Bool.eq_iff_iff,Bool.and_eq_true,beq_iff_eq]
  obtain⟨k,n,f,s,l⟩:=v
  constructor
  ·rintro ⟨h, rfl⟩
   rcases Pf.SL h with ⟨-,rfl,h3,h4,rfl⟩|⟨h0,-⟩|⟨h0,-⟩|⟨h0,-⟩|⟨h0,-⟩
   ·obtain rfl := Pf.VG h4
    exact Pf.JM (by rw[h3,Lm]) rfl fun i hi=>absurd hi (by simp)
   all_goals exact absurd h0 (by decide)
  ·intro h
   refine⟨by rw[Vt.UF _ _ 8 h];exact Vf.XQ,?_⟩
   exact((Vt.OW ..).1 h).1
theorem JP (e:EV)(h1:1<=e.k)(h2:e.k<=11)(lo hi:Nat)(vk vn:Int)(vf:Nat)(vs:ByteArray)(A:Option Addr)(m c:Nat)(w:World)(hv:Rep w lo hi e.v (Dn vk vn vf vs A m c))(hz:hi<=w.heap.size) :
  Calls Tryz.prog 79 #[.agg (Db e vk vn vf vs A m c)] w fun r w'=>r= .returned (.bool e.valid)/\Below w.heap.size w w':=by
 obtain⟨k,id,n,at',name,text,v⟩:=e
 simp only at h1 h2 hv
 obtain⟨k',rfl⟩:∃k':Nat,k=k':=⟨k.toNat,by omega⟩
 have hvk:vk=v.k:=by
  obtain⟨kk,nn,ff,ss,ll⟩:=v
  obtain⟨A',cap,heq,-⟩:=hv.head
  unfold Dn at heq
  injection heq with heq
  simp at heq
  exact heq.1
 have hf:∀cc q,(cc,q)∈ [(105,0),(110,1),(97,2),(115,3),(116,4),(118,5)]->Hid (∀W,Calls Tryz.prog 111 #[.int .i64 (k':Nat),.int .u8 (cc:Nat)] W fun r w'=>r= .returned (.bool ((fieldsOf k').contains q))/\Below W.heap.size W w'):=fun cc q hq=>Lib.hid fun W=>SE k' (by omega) (by omega) cc q hq W
 have := JO k' id n at' name text v lo hi vk vn vf vs A m c w hv hz (by omega) (by omega) ((fieldsOf k').contains 0) ((fieldsOf k').contains 1) ((fieldsOf k').contains 2) ((fieldsOf k').contains 3) ((fieldsOf k').contains 4) ((fieldsOf k').contains 5)
  _ _ _ _ _ _ _ _ _ _ _ rfl rfl rfl rfl rfl rfl rfl rfl rfl rfl rfl _ _ _ _ rfl rfl rfl rfl (hf 105 0 (by simp)) (hf 110 1 (by simp)) (hf 97 2 (by simp)) (hf 115 3 (by simp)) (hf 116 4 (by simp)) (hf 118 5 (by simp))
 refine this.mono fun r w' h=>⟨?_,h.2⟩
 rw[h.1]
 congr 2
 unfold EV.valid OR
 simp only[Int.toNat_natCast,List.all_cons,List.all_nil,Bool.and_true]
 rw[decide_eq_true (show (1:Int)<=(k':Int)/\(k':Int)<=11 from ⟨h1,h2⟩),Bool.true_and,rv1,rv2,rv3,rv4,hvk,rv5]
 simp only[Bool.and_assoc]
open Vt (BoxAt)
open Ev (EBox take_drop tk ap rd1 rd2 Dh)
open Cm (rowOf EvsIn)
open Cn (BB Dy DH)
theorem M58 (h:p:=by
 clear hk
 refine wp_region_noPanic ?_
 refine wp_region_held_drew (S:=(fun W':World=>W'.cell? ⟨w.heap.size,0,none⟩=some (.int .i64 k))) (by kernel_rfl) ?_ (fun hHeld=> ?_)
 ·exact HS.out _ (Da (Below.refl _ _))
 refine tk 0 rfl ?_
 refine tk 1 rfl ?_
 refine tk 2 rfl ?_
 refine tk 3 rfl ?_
 refine tk 4 rfl ?_
 refine tk 5 rfl ?_
 refine tk 6 rfl ?_
 refine tk 7 rfl ?_
 refine tk 8 rfl ?_
 refine tk 9 rfl ?_
 refine tk 10 rfl ?_
 refine tk 11 rfl ?_
 refine tk 12 rfl ?_
 refine tk 13 rfl ?_
 refine tk 14 rfl ?_
 refine tk 15 rfl ?_
 refine tk 16 rfl ?_
 refine wpAnyH_done (by kernel_rfl) ?_ _
 refine NoPanic.normal ?_
 go_wp2_with fail
 go_ret
 exact⟨rfl,Da HB0.out⟩):p:=h
theorem JN (k:Int)(hk:k<1\/11<k)(id:Nat)(n:Int)(at':Nat)(name text:ByteArray)(vk vn:Int)(vf:Nat)(vs:ByteArray)(A:Option Addr)(m c:Nat)(w:World) :
  Calls Tryz.prog 79 #[.agg #[.int .i64 k,.int .u64 (id:Nat),.int .i64 n,.int .u64 (at':Nat),.string name,.string text,.int .i64 vk,.int .i64 vn,.float .f64 vf,.string vs,.slice A m c]] w fun r w'=>r= .returned (.bool false)/\Below w.heap.size w w':=by
 obtain⟨W0,hW0⟩:∃W0,W0=w.alloc (.cells #[.int .i64 k,.int .u64 (id:Nat),.int .i64 n,.int .u64 (at':Nat),.string name,.string text,.int .i64 vk,.int .i64 vn,.float .f64 vf,.string vs,.slice A m c] 61):=⟨_,rfl⟩
 have HB0:Hid (Below w.heap.size w W0):=Lib.hid (by rw[hW0];exact(Below.refl _ _).alloc (Nat.le_refl _) _)
 have hbx:EBox W0 w.heap.size #[.int .i64 k,.int .u64 (id:Nat),.int .i64 n,.int .u64 (at':Nat),.string name,.string text,.int .i64 vk,.int .i64 vn,.float .f64 vf,.string vs,.slice A m c]:=by rw[hW0];exact heap_alloc_new w _
 have HS:Hid (∀W':World,Below W0.heap.size W0 W'->W'.cell? ⟨w.heap.size,0,none⟩=some (.int .i64 k)):=Lib.hid fun W hW=>by
  obtain⟨c0,-⟩:=EBox.cells (hbx.later hW (by rw[hW0];simp))
  exact c0
 clear hbx
 replace hW0:=Lib.hid hW0
 go_enter Tryz.func79,Tryz.ntmps79
 go_upto_region 1 with fail
 rw[<-hW0.out]
 by_cases h1:k<1
 ·have g1 : decide (k < 1) = true := decide_eq_true h1
  exact M58
 ·have g1 : decide (k < 1) = false := decide_eq_false h1
  have g2:decide (11<k)=true:=decide_eq_true (by omega)
  exact M58
theorem LB (e:EV)(h:¬(1<=e.k/\e.k<=11)):e.valid=false:=by unfold EV.valid;rw[decide_eq_false h];rfl
theorem PD (e:EV)(lo hi:Nat)(vk vn:Int)(vf:Nat)(vs:ByteArray)(A:Option Addr)(m c:Nat)(w:World)(hv:Rep w lo hi e.v (Dn vk vn vf vs A m c))(hz:hi<=w.heap.size) :
  Calls Tryz.prog 79 #[.agg (Db e vk vn vf vs A m c)] w fun r w'=>r= .returned (.bool e.valid)/\Below w.heap.size w w':=by
 by_cases hk:1<=e.k/\e.k<=11
 ·exact JP e hk.1 hk.2 lo hi vk vn vf vs A m c w hv hz
 ·rw [LB e hk]
  exact JN e.k (by omega) e.id e.n e.at' e.name e.text vk vn vf vs A m c w
theorem Vg (es:List EV)(j:Nat)(h:j<es.length):(es.take (j+1)).any DH=((es.take j).any DH||DH es[j]):=by
 rw[List.take_succ_eq_append_getElem h,List.any_append];simp
theorem KJ (es:List EV)(j:Nat)(h:j<es.length)(hw:DH es[j]=true):es.any DH=true:=List.any_eq_true.2 ⟨_,List.getElem_mem h,hw⟩
theorem M181 (h:p:=by
 go_wp2_with fail
 go_ret
 exact⟨De (by unfold Dy;rw[decide_eq_false HH.out];simp),HBW.out⟩):p:=h
set_option maxHeartbeats 2000000 in
theorem Sd (es:List EV)(f:ByteArray)(hfs:f.size<=maxLen)(at':Nat)(hat:at'<18446744073709551616)(A:Option Addr)(cap:Nat)(w:World)(h:EvsIn w A cap es) :
  Calls Tryz.prog 48 #[.agg #[.string f,.int .u64 at',.slice A es.length cap]] w fun r w'=>r= .returned (.bool (Dy f at' es))/\Below w.heap.size w w':=by
 simp only[maxLen] at hfs
 have hle:=h.le
 have hc:=h.cap_le
 simp only[maxLen] at hc
 obtain⟨W0,hW0⟩:∃W0,W0=w.alloc (.cells #[.string f,.int .u64 at',.slice A es.length cap] 64):=⟨_,rfl⟩
 have hx0:BB W0 w.heap.size f at' A es.length cap:=by rw[hW0];exact heap_alloc_new w _
 have hb0:Below w.heap.size w W0:=by rw[hW0];exact(Below.refl _ _).alloc (Nat.le_refl _) _
 have hz0:w.heap.size<W0.heap.size:=by rw[hW0];simp
 have HK:=Lib.hid (h.later hb0)
 have HBX:Hid (∀W,Below W0.heap.size W0 W->BB W w.heap.size f at' A es.length cap):=Lib.hid fun W hW=>hx0.later hW hz0
 have HB0:=Lib.hid hb0
 have HFZ:Hid (f.toList.isEmpty=decide (f.size=0)):=Lib.hid (by rw[Vt.toList_data];cases f with | mk d=>cases d with | mk l=>cases l<;>simp[ByteArray.size])
 clear h hx0 hb0
 replace hW0:=Lib.hid hW0
 generalize hn:es.length=n at *
 have HN:=Lib.hid hn;clear hn
 go_enter Tryz.func48,Tryz.ntmps48
 go_upto_region 1 with fail
 rw[<-hW0.out]
 go_wp2_with fail
 go_loopw [2,3] (fun r i wr=>∃(j:Nat),j<=n/\i= .int .i64 j/\r= .bool false/\(es.take j).any DH=false/\Below W0.heap.size W0 wr) (fun _ i _=>n-(intOf i).toNat)
 case atStart=>exact⟨0,by omega,rfl,rfl,rfl,Below.refl _ _⟩
 case round=>
  obtain⟨j,hj,rfl,rfl,hany,hb⟩:=hrel
  have HA:=Lib.hid hany;have HB:=Lib.hid hb
  obtain⟨d0,d1,d2,-⟩:=(HBX.out _ hb).cells
  clear hany hb
  have HBF:Hid (∀W,Below wr.heap.size wr W->Below w.heap.size w W):=Lib.hid fun W hW=>HB0.out.trans ((HB.out.trans (hW.mono HB.out.size)).mono HB0.out.size)
  by_cases hkl:j<n
  ·have hke : j < es.length := by have := HN.out; omega
   obtain⟨b2,off2,lo,hi,vk,vn,vf,vs,A2,m2,c2,rfl,hbl2,hf,hv,hhi,e0,e1,e2,e3,e4,e5,e6,e7,e8,e9,e10⟩:=(HK.out.later HB.out).get j hke
   have HC:=Lib.hid (PD es[j] lo hi vk vn vf vs A2 m2 c2 _ hv hhi)
   have HT:=Lib.hid (Vg es j hke)
   have HTA:=Lib.hid (KJ es j hke)
   unfold Db at HC
   clear hf hv
   go_wp2_with fail
   refine HC.out.mono ?_
   rintro x w1 ⟨rfl,hb1⟩
   have HB1:=Lib.hid hb1
   clear hb1 e0 e1 e2 e3 e4 e5 e6 e7 e8 e9 e10 d0 d1 d2 HC
   cases hp:es[j].valid with
   | true=>
    have HP:=Lib.hid hp;clear hp
    go_wp2_with fail
    go_roundw
    case rel=>exact⟨j+1,by omega,by go_num,rfl,by rw[HT.out,HA.out];simp[DH,HP.out],HB.out.trans (HB1.out.mono HB.out.size)⟩
    case measure=>simp[intOf];omega
   | false=>
    have HP:=Lib.hid hp;clear hp
    go_wp2_with fail
    go_ret
    exact⟨De (by unfold Dy;rw[HTA.out (by simp[DH,HP.out])];simp),HBF.out _ HB1.out⟩
  ·have hk' : j = n := by omega
   subst hk'
   have HAA:Hid (es.any DH=false):=Lib.hid (by have:=HA.out;rw[<-HN.out,List.take_length] at this;exact this)
   have HBW:Hid (Below w.heap.size w wr):=Lib.hid (HBF.out _ (Below.refl _ _))
   by_cases h1:1<=f.size
   ·have g1 : decide ((1 : Int) <= (f.size : Int)) = true := decide_eq_true (by omega)
    by_cases h2:f.size<=1000
    ·have g2 : decide ((f.size : Int) <= 1000) = true := decide_eq_true (by omega)
     by_cases h3:at'<=9223372036854775807
     ·have g3 : decide ((at' : Int) <= 9223372036854775807) = true := decide_eq_true (by omega)
      have HH:=Lib.hid (And.intro h1 (And.intro h2 h3))
      clear h3
      go_wp2_with fail
      go_ret
      exact⟨De (by obtain⟨z1,z2,z3⟩:=HH.out;unfold Dy;rw[HAA.out,HFZ.out,HN.out,decide_eq_true z2,decide_eq_true z3,decide_eq_false (by omega:¬f.size=0)];simp),HBW.out⟩
     ·have g3 : decide ((at' : Int) <= 9223372036854775807) = false := decide_eq_false (by omega)
      have HH:=Lib.hid h3
      clear h3
      exact M181
    ·have g2 : decide ((f.size : Int) <= 1000) = false := decide_eq_false (by omega)
     have HH:=Lib.hid h2
     exact M181
   ·have g1 : decide ((1 : Int) <= (f.size : Int)) = false := decide_eq_false (by omega)
    have HH:=Lib.hid h1
    go_wp2_with fail
    go_ret
    exact⟨De (by unfold Dy;rw[HFZ.out,decide_eq_true (by have:=HH.out;omega:f.size=0)];simp),HBW.out⟩
end Rd
end Go.Proofs.YtaahfiopdoinkaaGreat
