/- Contracts of the reference's fields and has. -/
import Derived.Test.YtaahfiopdoinkaaGreatTwag
import Derived.Test.YtaahfiopdoinkaaGreatTwad
import Derived.Deep.CutRange
import Derived.Test.YtaahfiopdoinkaaGreatTwah
import Derived.ChangeMaps5
import Derived.ChangeArms
import Derived.Deep.Draws
import Derived.ProofKit
import Derived.OpenShut
import Derived.Lib.SmallJoins
import Derived.SizedLaws
set_option maxRecDepth 100000
set_option maxHeartbeats 8000000
variable {p : Prop}
set_option linter.unusedVariables false
set_option linter.unusedSimpArgs false
open Go.RowKit
namespace Go.Proofs.YtaahfiopdoinkaaGreat
namespace Cm
open Nm (Di Dk De)
open Vt (VT Rep BoxAt Da DX DY toList_inj DR)
open Ev (EV Dj Db Dn EBox SJ zeroT)
def Pt (k : Nat) : ByteArray := match k with
 | 1=>⟨#[115,118]⟩
 | 2=>⟨#[105,110,97]⟩
 | 3=>⟨#[105,110,118]⟩
 | 4=>⟨#[105,110,97,116]⟩
 | 5=>⟨#[105]⟩
 | 6=>⟨#[115,116,118]⟩
 | 7=>⟨#[105,115,118]⟩
 | 8=>⟨#[105,97]⟩
 | 9=>⟨#[118]⟩
 | 10=>⟨#[116]⟩
 | 11=>⟨#[116]⟩
 | _=>⟨#[]⟩
theorem NJ (k:Nat)(h1:1<=k)(h2:k<=11)(w:World):Calls Tryz.prog 142 #[.int .i64 k] w fun r w'=>r= .returned (.string (Pt k))/\Below w.heap.size w w':=by
 rcases (by omega:k=1\/k=2\/k=3\/k=4\/k=5\/k=6\/k=7\/k=8\/k=9\/k=10\/k=11) with rfl|rfl|rfl|rfl|rfl|rfl|rfl|rfl|rfl|rfl|rfl
 all_goals
  go_enter Tryz.func142,Tryz.ntmps142
  go_wp2_with fail
  go_ret
  exact⟨rfl,(Below.refl _ _).alloc (Nat.le_refl _) _⟩
theorem Xz (k:Nat):(Pt k).size<=4:=by
 unfold Pt
 split<;>decide
theorem has_in (k:Nat)(h1:1<=k)(h2:k<=11)(c:Nat)(hc:c<256)(w:World):Calls Tryz.prog 111 #[.int .i64 k,.int .u8 c] w fun r w'=>r= .returned (.bool ((Pt k).data.toList.any (fun x=>x.toNat==c)))/\Below w.heap.size w w':=by
 have HF:=Lib.hid (NJ k h1 h2 w)
 have hsz:=Xz k
 generalize Pt k=f at *
 obtain⟨R,hR⟩:∃R,R=f.data.toList.any (fun x=>x.toNat==c):=⟨_,rfl⟩
 rw[<-hR]
 replace hR:=Lib.hid hR
 go_enter Tryz.func111,Tryz.ntmps111
 go_wp2_with fail
 refine HF.out.mono ?_
 rintro x w1 ⟨rfl,hb⟩
 have HB:=Lib.hid hb
 clear hb HF
 go_wp2_with fail
 go_loop [4,6] (fun r i=>∃j:Nat,j<=f.size/\i= .int .i64 j/\r= .bool false/\(f.data.toList.take j).any (fun x=>x.toNat==c)=false) (fun _ i=>f.size-(intOf i).toNat)
 case atStart=>exact⟨0,by omega,rfl,rfl,rfl⟩
 case round=>
  obtain⟨j,hj,rfl,rfl,hy⟩:=hrel
  have HY:=Lib.hid hy;clear hy
  by_cases hlt:j<f.size
  ·have hget : ∀ h : j < f.data.toList.length, f.data.toList[j] = f[j] := fun h => rfl
   have hl:f.data.toList.length=f.size:=rfl
   by_cases hcj:f[j].toNat=c
   ·have hb : ((f[j].toNat : Int) == (c : Int)) = true := by simp; omega
    have hany:(f.data.toList.any fun x=>x.toNat==c)=true:=by
     rw[List.any_eq_true]
     exact⟨f.data.toList[j],List.getElem_mem (by omega),by rw[hget (by omega)];simpa using hcj⟩
    have HA:=Lib.hid (hR.out.trans hany)
    clear hany hget hl
    go_wp2_with fail
    go_ret
    exact⟨De (by rw[HA.out]),HB.out⟩
   ·have hb : ((f[j].toNat : Int) == (c : Int)) = false := by simp; omega
    have hany:(f.data.toList.take (j+1)).any (fun x=>x.toNat==c)=false:=by
     rw[List.take_succ_eq_append_getElem (by omega),List.any_append,HY.out,hget (by omega)]
     simpa using hcj
    have HA:=Lib.hid hany
    clear hany hget hl
    go_wp2_with fail
    exact⟨⟨j+1,by omega,by go_num,rfl,HA.out⟩,by simp[intOf];omega⟩
  ·have hj' : j = f.size := by omega
   have hany:(f.data.toList.any fun x=>x.toNat==c)=false:=by
    have:=HY.out
    rwa [hj',List.take_of_length_le (show f.data.toList.length<=f.size from Nat.le_refl _)] at this
   have HA:=Lib.hid (hR.out.trans hany)
   clear hany
   subst hj'
   go_wp2_with fail
   go_ret
   exact⟨De (by rw[HA.out]),HB.out⟩
theorem SE (k:Nat)(h1:1<=k)(h2:k<=11)(c q:Nat)(hq:(c,q)∈ [(105,0),(110,1),(97,2),(115,3),(116,4),(118,5)])(w:World):Calls Tryz.prog 111 #[.int .i64 k,.int .u8 c] w fun r w'=>r= .returned (.bool ((Ev.fieldsOf k).contains q))/\Below w.heap.size w w':=by
 have hc:c<256:=by simp at hq;omega
 have:=has_in k h1 h2 c hc w
 have he:(Pt k).data.toList.any (fun x=>x.toNat==c)=(Ev.fieldsOf k).contains q:=by
  simp at hq
  rcases (by omega:k=1\/k=2\/k=3\/k=4\/k=5\/k=6\/k=7\/k=8\/k=9\/k=10\/k=11) with rfl|rfl|rfl|rfl|rfl|rfl|rfl|rfl|rfl|rfl|rfl
  all_goals rcases hq with ⟨rfl,rfl⟩|⟨rfl,rfl⟩|⟨rfl,rfl⟩|⟨rfl,rfl⟩|⟨rfl,rfl⟩|⟨rfl,rfl⟩<;>decide
 rwa [he] at this
end Cm
namespace Rd
open _root_.Go.Proofs.YtaahfiopdoinkaaGreat.Nm (Di Dk De)
open Vt (VT Rep BoxAt Da)
open Ev (EV Dj Db Dn EBox SJ zeroT take_drop tk ap rd1 rd2 Dh)
open Cm (SE)
theorem M368 (h:p:=by
 have HDD:Hid (Below W0.heap.size W0 wc.drew):=Lib.hid (Da HBD.out)
 refine wp_region_noPanic ?_
 refine wp_region_held_drew (S:=(fun W':World=>W'.cell? ⟨w.heap.size,0,none⟩=some (.int .i64 (k:Nat))/\W'.cell? ⟨w.heap.size,1,none⟩=some (.int .u64 (id:Nat))/\W'.cell? ⟨w.heap.size,4,none⟩=some (.string name)/\W'.cell? ⟨w.heap.size,5,none⟩=some (.string text))) (by kernel_rfl) ?_ (fun hHeld=> ?_)
 ·exact HS.out _ (Da HBD.out)
 refine tk 0 rfl ?_
 refine tk 1 rfl ?_
 refine tk 3 rfl ?_
 refine tk 4 rfl ?_
 refine tk 5 rfl ?_
 refine rd1 2 rfl fun K hK=> ?_
 go_simp
 refine(Hs.out _).mono ?_
 rintro x1 v1 ⟨rfl,hb1⟩
 have HB1:Hid (Below W0.heap.size W0 v1):=Lib.hid ((HDD.out).trans (hb1.mono (HDD.out).size))
 clear hb1
 go_wp2_with fail
 refine hK.out _ _ (HS.out _ HB1.out) (fun hHeld1=> ?_)
 clear hK K hHeld
 try simp only[ap]
 refine tk 6 rfl ?_
 refine tk 7 rfl ?_
 refine tk 8 rfl ?_
 refine tk 9 rfl ?_
 refine tk 10 rfl ?_
 refine tk 11 rfl ?_
 refine tk 12 rfl ?_
 refine tk 13 rfl ?_
 refine tk 14 rfl ?_
 refine tk 15 rfl ?_
 refine tk 16 rfl ?_
 refine tk 17 rfl ?_
 refine tk 18 rfl ?_
 refine tk 19 rfl ?_
 refine tk 20 rfl ?_
 refine tk 21 rfl ?_
 refine rd1 22 rfl fun K hK=> ?_
 go_simp
 exact Y368):p:=h
theorem M758 (h:p:=by
 clear hK K hHeld1
 try simp only[ap]
 refine tk 23 rfl ?_
 refine tk 24 rfl ?_
 refine tk 25 rfl ?_
 refine tk 26 rfl ?_
 refine tk 27 rfl ?_
 refine tk 28 rfl ?_
 refine tk 29 rfl ?_
 refine wpAnyH_done (by kernel_rfl) ?_ _
 refine NoPanic.normal ?_
 go_wp2_with fail
 exact Y758):p:=h
theorem Q760.Y758 (h:p:=by
 go_meet
 case rel=>exact⟨by have h:=GP4.out;(try simp at h);rw[h],HB1.out⟩):p:=h
theorem Q369.Y368 (h:p:=by
 refine hK.out _ _ (HS.out _ HB1.out) (fun hHeld2=> ?_)
 open Q760 in exact M758):p:=h
theorem M18 (h:p:=by
 open Q369 in exact M368):p:=h
theorem Q759.Y758 (h:p:=by
 go_meet
 case rel=>exact⟨by have h:=GP4.out;(try simp at h);rw[h],HB2.out⟩):p:=h
theorem Q370.Y368 (h:p:=by
 refine(Ht.out _).mono ?_
 rintro x2 v2 ⟨rfl,hb2⟩
 have HB2:Hid (Below W0.heap.size W0 v2):=Lib.hid ((HB1.out).trans (hb2.mono (HB1.out).size))
 clear hb2
 go_wp2_with fail
 refine hK.out _ _ (HS.out _ HB2.out) (fun hHeld2=> ?_)
 open Q759 in exact M758):p:=h
theorem M24 (h:p:=by
 open Q370 in exact M368):p:=h
theorem M10 (h:p:=by
 cases nl with
 | true=>
  exact M18
 | false=>
  cases tl with
  | true=>
   exact M18
  | false=>
   cases bt with
   | true=>
    exact M24
   | false=>
    cases te with
    | true=>
     exact M24
    | false=>
     exact M24):p:=h
theorem M698 (h:p:=by
 go_wp2_with fail
 refine(Hn.out _).mono ?_
 rintro x1 v1 ⟨rfl,hb1⟩
 have HB1:Hid (Below W0.heap.size W0 v1):=Lib.hid (HBB.out.trans (hb1.mono HBB.out.size))
 clear hb1
 clear a0 a1 a2 a3 a4 a5 a6 a7 a8 a9 a10
 obtain⟨a0,a1,a2,a3,a4,a5,a6,a7,a8,a9,a10⟩:=EBox.cells (HX.out v1 HB1.out)
 go_wp2_with fail
 exact Y698):p:=h
theorem M752 (h:p:=by
 rintro x2 v2 ⟨rfl,hb2⟩
 have HB2:Hid (Below W0.heap.size W0 v2):=Lib.hid (HB1.out.trans (hb2.mono HB1.out.size))
 clear hb2
 clear a0 a1 a2 a3 a4 a5 a6 a7 a8 a9 a10
 obtain⟨a0,a1,a2,a3,a4,a5,a6,a7,a8,a9,a10⟩:=EBox.cells (HX.out v2 HB2.out)
 exact Y752):p:=h
theorem Q754.Y752 (h:p:=by
 go_wp2_with fail
 go_meet
 case rel=>exact⟨by have h:=GP2.out;(try simp at h);rw[h],HB2.out⟩):p:=h
theorem Q699.Y698 (h:p:=by
 refine(Hn.out _).mono ?_
 open Q754 in exact M752):p:=h
theorem M36 (h:p:=by
 open Q699 in exact M698):p:=h
theorem M53 (h:p:=by
 go_wp2_with fail
 refine(Ha.out _).mono ?_
 rintro x1 v1 ⟨rfl,hb1⟩
 have HB1:Hid (Below W0.heap.size W0 v1):=Lib.hid (HBC.out.trans (hb1.mono HBC.out.size))
 clear hb1
 clear a0 a1 a2 a3 a4 a5 a6 a7 a8 a9 a10
 obtain⟨a0,a1,a2,a3,a4,a5,a6,a7,a8,a9,a10⟩:=EBox.cells (HX.out v1 HB1.out)
 go_wp2_with fail
 go_meet
 case rel=>exact⟨by have h:=GP3.out;(try simp at h);rw[h],HB1.out⟩):p:=h
theorem Q700.Y698 (h:p:=by
 go_meet
 case rel=>exact⟨by have h:=GP2.out;(try simp at h);rw[h],HB1.out⟩):p:=h
theorem M77 (h:p:=by
 open Q700 in exact M698):p:=h
theorem M161 (h:p:=by
 go_wp2_with fail
 go_ret
 exact⟨rfl,HB0.out.trans (HB2.out.mono (by omega))⟩):p:=h
theorem Q753.Y752 (h:p:=by
 cases bv with
 | true=>
  exact M161
 | false=>
  cases vz with
  | true=>
   exact M161
  | false=>
   exact M161):p:=h
theorem JO (k : Nat) (id : Nat) (n : Int) (at' : Nat) (name text : ByteArray) (t : VT) (lo hi : Nat) (vk vn : Int) (vf : Nat) (vs : ByteArray) (A : Option Addr) (m c : Nat) (w : World) (hv : Rep w lo hi t (Dn vk vn vf vs A m c)) (hz : hi <= w.heap.size) (h1 : 1 <= k) (h2 : k <= 11)
  (bi bn ba bs bt bv idn n1 n2 n0 a1b a0b ne nl te tl vz:Bool) (gid:((id:Int) != 0)=idn) (gn1:decide (n<1)=n1) (gn2:decide (2147483647<n)=n2) (gn0:(n != 0)=n0) (ga1:decide ((9223372036854775807:Int)<(at':Int))=a1b) (ga0:((at':Int) != 0)=a0b)
  (gne:name.toList.isEmpty=ne) (gnl:decide ((1000:Int)<(name.size:Int))=nl) (gte:text.toList.isEmpty=te) (gtl:decide ((1000:Int)<(text.size:Int))=tl) (gvz:(vk==0)=vz)
  (p1 p2 p3 p4:Bool) (gp1:p1=(bi != idn)) (gp2:p2=((bn&&(n1||n2))||(!bn&&n0))) (gp3:p3=(a1b||(!ba&&a0b))) (gp4:p4=((bs != !ne)||nl||tl||(!bt&& !te)))
  (Hi:Hid (∀W,Calls Tryz.prog 111 #[.int .i64 (k:Nat),.int .u8 105] W fun r w'=>r= .returned (.bool bi)/\Below W.heap.size W w'))
  (Hn:Hid (∀W,Calls Tryz.prog 111 #[.int .i64 (k:Nat),.int .u8 110] W fun r w'=>r= .returned (.bool bn)/\Below W.heap.size W w'))
  (Ha:Hid (∀W,Calls Tryz.prog 111 #[.int .i64 (k:Nat),.int .u8 97] W fun r w'=>r= .returned (.bool ba)/\Below W.heap.size W w'))
  (Hs:Hid (∀W,Calls Tryz.prog 111 #[.int .i64 (k:Nat),.int .u8 115] W fun r w'=>r= .returned (.bool bs)/\Below W.heap.size W w'))
  (Ht:Hid (∀W,Calls Tryz.prog 111 #[.int .i64 (k:Nat),.int .u8 116] W fun r w'=>r= .returned (.bool bt)/\Below W.heap.size W w'))
  (Hv:Hid (∀W,Calls Tryz.prog 111 #[.int .i64 (k:Nat),.int .u8 118] W fun r w'=>r= .returned (.bool bv)/\Below W.heap.size W w')) :
  Calls Tryz.prog 79 #[.agg #[.int .i64 (k:Nat),.int .u64 (id:Nat),.int .i64 n,.int .u64 (at':Nat),.string name,.string text,.int .i64 vk,.int .i64 vn,.float .f64 vf,.string vs,.slice A m c]] w fun r w'=>r= .returned (.bool (!p1&& !p2&& !p3&& !p4&&(t.valid 8&&(bv||vz))))/\Below w.heap.size w w':=by
 obtain⟨W0,hW0⟩:∃W0,W0=w.alloc (.cells #[.int .i64 (k:Nat),.int .u64 (id:Nat),.int .i64 n,.int .u64 (at':Nat),.string name,.string text,.int .i64 vk,.int .i64 vn,.float .f64 vf,.string vs,.slice A m c] 61):=⟨_,rfl⟩
 have HB0:Hid (Below w.heap.size w W0):=Lib.hid (by rw[hW0];exact(Below.refl _ _).alloc (Nat.le_refl _) _)
 have hbx:EBox W0 w.heap.size #[.int .i64 (k:Nat),.int .u64 (id:Nat),.int .i64 n,.int .u64 (at':Nat),.string name,.string text,.int .i64 vk,.int .i64 vn,.float .f64 vf,.string vs,.slice A m c]:=by rw[hW0];exact heap_alloc_new w _
 have hzz:w.heap.size<W0.heap.size:=by rw[hW0];simp
 have HX:Hid (∀W,Below W0.heap.size W0 W->EBox W w.heap.size #[.int .i64 (k:Nat),.int .u64 (id:Nat),.int .i64 n,.int .u64 (at':Nat),.string name,.string text,.int .i64 vk,.int .i64 vn,.float .f64 vf,.string vs,.slice A m c]):=Lib.hid fun W hW=>hbx.later hW hzz
 have HS:Hid (∀W':World,Below W0.heap.size W0 W'->W'.cell? ⟨w.heap.size,0,none⟩=some (.int .i64 (k:Nat))/\W'.cell? ⟨w.heap.size,1,none⟩=some (.int .u64 (id:Nat))/\W'.cell? ⟨w.heap.size,4,none⟩=some (.string name)/\W'.cell? ⟨w.heap.size,5,none⟩=some (.string text)):=Lib.hid fun W hW=>by
  obtain⟨c0,c1,-,-,c4,c5,-⟩:=EBox.cells (HX.out W hW)
  exact⟨c0,c1,c4,c5⟩
 obtain⟨vv,hvv⟩:∃vv,vv=t.valid 8:=⟨_,rfl⟩
 have HV:Hid (∀W,Below W0.heap.size W0 W->Calls Tryz.prog 112 #[.agg #[.int .i64 vk,.int .i64 vn,.float .f64 vf,.string vs,.slice A m c]] W fun r w'=>r= .returned (.bool vv)/\Below W.heap.size W w'):=Lib.hid fun W hW=>
  (Vt.JQ t W lo hi _ (hv.later ((HB0.out.trans (hW.mono (by omega))).mono hz)) (by have:=hW.size;omega)).mono fun r w' h=>⟨by rw[h.1,hvv],h.2⟩
 rw[<-hvv]
 have g1:decide ((k:Int)<1)=false:=decide_eq_false (by omega)
 have g2:decide ((11:Int)<(k:Int))=false:=decide_eq_false (by omega)
 have g3:decide ((k:Int)>11)=false:=decide_eq_false (by omega)
 have hkk:1<=(k:Int):=by omega
 have hkk2:(k:Int)<=11:=by omega
 have HBA:Hid (Below W0.heap.size W0 W0):=Lib.hid (Below.refl _ _)
 have GP1:=Lib.hid gp1;have GP2:=Lib.hid gp2;have GP3:=Lib.hid gp3;have GP4:=Lib.hid gp4
 clear hv hbx hvv h1 h2 gp1 gp2 gp3 gp4
 replace hW0:=Lib.hid hW0
 obtain⟨a0,a1,a2,a3,a4,a5,a6,a7,a8,a9,a10⟩:=EBox.cells (HX.out W0 (Below.refl _ _))
 go_enter Tryz.func79,Tryz.ntmps79
 go_upto_region 1 with fail
 rw[<-hW0.out]
 go_cut [19] from 3 to 19 (fun z wx=>z= .bool p1/\Below W0.heap.size W0 wx)
 case first =>
  have HD0:Hid (Below W0.heap.size W0 W0.drew):=Lib.hid (Da (Below.refl _ _))
  refine wp_region_noPanic ?_
  refine wp_region_held_drew (S:=(fun W':World=>W'.cell? ⟨w.heap.size,0,none⟩=some (.int .i64 (k:Nat))/\W'.cell? ⟨w.heap.size,1,none⟩=some (.int .u64 (id:Nat))/\W'.cell? ⟨w.heap.size,4,none⟩=some (.string name)/\W'.cell? ⟨w.heap.size,5,none⟩=some (.string text))) (by kernel_rfl) ?_ (fun hHeld=> ?_)
  ·exact HS.out _ (Da (Below.refl _ _))
  refine tk 0 rfl ?_
  refine tk 1 rfl ?_
  refine tk 2 rfl ?_
  refine tk 3 rfl ?_
  refine tk 4 rfl ?_
  refine tk 5 rfl ?_
  refine tk 6 rfl ?_
  refine tk 7 rfl ?_
  refine tk 8 rfl ?_
  refine tk 9 rfl ?_
  refine tk 10 rfl ?_
  refine tk 12 rfl ?_
  refine tk 13 rfl ?_
  refine tk 14 rfl ?_
  refine rd1 11 rfl fun K hK=> ?_
  go_simp
  refine(Hi.out _).mono ?_
  rintro x1 v1 ⟨rfl,hb1⟩
  have HB1:Hid (Below W0.heap.size W0 v1):=Lib.hid ((HD0.out).trans (hb1.mono (HD0.out).size))
  clear hb1
  go_wp2_with fail
  refine hK.out _ _ (HS.out _ HB1.out) (fun hHeld1=> ?_)
  clear hK K hHeld
  try simp only[ap]
  refine tk 15 rfl ?_
  refine tk 16 rfl ?_
  refine wpAnyH_done (by kernel_rfl) ?_ _
  refine NoPanic.normal ?_
  go_wp2_with fail
  go_meet
  case rel=>exact⟨by rw[GP1.out];cases bi<;>cases idn<;>rfl,HB1.out⟩
 case rest=>
  obtain⟨rfl,hbc⟩:=hcut
  have HBB:=Lib.hid hbc
  clear hbc
  cases p1 with
  | true=>
   clear a0 a1 a2 a3 a4 a5 a6 a7 a8 a9 a10
   obtain⟨a0,a1,a2,a3,a4,a5,a6,a7,a8,a9,a10⟩:=EBox.cells (HX.out wc HBB.out)
   go_wp2_with fail
   go_ret
   exact⟨rfl,HB0.out.trans (HBB.out.mono (by omega))⟩
  | false=>
   clear a0 a1 a2 a3 a4 a5 a6 a7 a8 a9 a10
   obtain⟨a0,a1,a2,a3,a4,a5,a6,a7,a8,a9,a10⟩:=EBox.cells (HX.out wc HBB.out)
   go_upto_region 3 with fail
   go_cut [43] from 20 to 43 (fun z wx=>z= .bool p2/\Below W0.heap.size W0 wx)
   case first =>
    cases bn with
    | true=>
     cases n1 with
     | true=>
      exact M77
     | false=>
      cases n2 with
      | true=>
       exact M77
      | false=>
       exact M36
    | false=>
     cases n0 with
     | true=>
      exact M36
     | false=>
      exact M36
   case rest=>
    obtain⟨rfl,hbc⟩:=hcut
    have HBC:=Lib.hid hbc
    clear hbc
    cases p2 with
    | true=>
     clear a0 a1 a2 a3 a4 a5 a6 a7 a8 a9 a10
     obtain⟨a0,a1,a2,a3,a4,a5,a6,a7,a8,a9,a10⟩:=EBox.cells (HX.out wc HBC.out)
     go_wp2_with fail
     go_ret
     exact⟨rfl,HB0.out.trans (HBC.out.mono (by omega))⟩
    | false=>
     clear a0 a1 a2 a3 a4 a5 a6 a7 a8 a9 a10
     obtain⟨a0,a1,a2,a3,a4,a5,a6,a7,a8,a9,a10⟩:=EBox.cells (HX.out wc HBC.out)
     go_upto_region 5 with fail
     go_cut [57] from 44 to 57 (fun z wx=>z= .bool p3/\Below W0.heap.size W0 wx)
     case first =>
      cases a1b with
      | true=>
       go_wp2_with fail
       go_meet
       case rel=>exact⟨by have h:=GP3.out;(try simp at h);rw[h],HBC.out⟩
      | false=>
       cases ba with
       | true=>
        exact M53
       | false=>
        cases a0b with
        | true=>
         exact M53
        | false=>
         exact M53
     case rest=>
      obtain⟨rfl,hbc⟩:=hcut
      have HBD:=Lib.hid hbc
      clear hbc
      cases p3 with
      | true=>
       clear a0 a1 a2 a3 a4 a5 a6 a7 a8 a9 a10
       obtain⟨a0,a1,a2,a3,a4,a5,a6,a7,a8,a9,a10⟩:=EBox.cells (HX.out wc HBD.out)
       go_wp2_with fail
       go_ret
       exact⟨rfl,HB0.out.trans (HBD.out.mono (by omega))⟩
      | false=>
       clear a0 a1 a2 a3 a4 a5 a6 a7 a8 a9 a10
       obtain⟨a0,a1,a2,a3,a4,a5,a6,a7,a8,a9,a10⟩:=EBox.cells (HX.out wc HBD.out)
       go_upto_region 7 with fail
       go_cut [87] from 58 to 87 (fun z wx=>z= .bool p4/\Below W0.heap.size W0 wx)
       case first =>
        clear a0 a1 a2 a3 a4 a5 a6 a7 a8 a9 a10
        cases bs with
        | true=>
         cases ne with
         | true=>
          exact M18
         | false=>
          exact M10
        | false=>
         cases ne with
         | true=>
          exact M10
         | false=>
          exact M18
       case rest=>
        obtain⟨rfl,hbc⟩:=hcut
        have HBE:=Lib.hid hbc
        clear hbc
        cases p4 with
        | true=>
         clear a0 a1 a2 a3 a4 a5 a6 a7 a8 a9 a10
         obtain⟨a0,a1,a2,a3,a4,a5,a6,a7,a8,a9,a10⟩:=EBox.cells (HX.out wc HBE.out)
         go_wp2_with fail
         go_ret
         exact⟨rfl,HB0.out.trans (HBE.out.mono (by omega))⟩
        | false=>
         clear a0 a1 a2 a3 a4 a5 a6 a7 a8 a9 a10
         obtain⟨a0,a1,a2,a3,a4,a5,a6,a7,a8,a9,a10⟩:=EBox.cells (HX.out wc HBE.out)
         go_wp2_with fail
         refine(HV.out _ HBE.out).mono ?_
         rintro x1 v1 ⟨rfl,hb1⟩
         have HB1:Hid (Below W0.heap.size W0 v1):=Lib.hid (HBE.out.trans (hb1.mono HBE.out.size))
         clear hb1
         clear a0 a1 a2 a3 a4 a5 a6 a7 a8 a9 a10
         obtain⟨a0,a1,a2,a3,a4,a5,a6,a7,a8,a9,a10⟩:=EBox.cells (HX.out v1 HB1.out)
         cases vv with
         | false=>
          go_wp2_with fail
          go_ret
          exact⟨rfl,HB0.out.trans (HB1.out.mono (by omega))⟩
         | true=>
          go_wp2_with fail
          refine(Hv.out _).mono ?_
          open Q753 in exact M752
end Rd
namespace Cn
open Vt (VT Rep)
open Ev (EV Dj Db Dn)
open Cm (EvsIn)
open Go.ChangeShapes Go.WideShapes Go.ChangeAt Go.Joins Go.Deep
theorem eleven (cs:List Value)(h:cs.length=11):∃a b c d e f g i j k l,cs= [a,b,c,d,e,f,g,i,j,k,l]:=by
 match cs,h with
 | [a,b,c,d,e,f,g,i,j,k,l],_=>exact⟨a,b,c,d,e,f,g,i,j,k,l,rfl⟩
theorem three (cs:List Value)(h:cs.length=3):∃a b c,cs= [a,b,c]:=by
 match cs,h with
 | [a,b,c],_=>exact⟨a,b,c,rfl⟩
theorem open_ev {H : Type} {enc : TypeId × Value -> H} {W : World} {base : Nat} {spare : Nat -> Bool} {held : Bool} (fuel : Nat) (cs : List Value) (x : DataW H × List MemPlace)
  (h:DataW.trod enc Tryz.prog W base spare held fuel 61 cs=some x):∃(e:EV) (vk vn:Int) (vf:Nat) (vs:ByteArray) (A':Option Addr) (m c:Nat),Dj e/\Rep W base W.heap.size e.v (Dn vk vn vf vs A' m c)/\cs=(Db e vk vn vf vs A' m c).toList:=by
 have hC:Tryz.prog.cellsOf 61=11:=by kernel_rfl
 obtain⟨xs,n,hn,hx,hlen,hxl,hg⟩:=DataW.trod_struct Tryz.underlying61 h
 obtain⟨c0,c1,c2,c3,c4,c5,c6,c7,c8,c9,c10,rfl⟩:=eleven cs (hlen.trans hC)
 have hx:∀j:Nat,j<7->∃y,xs[j]?=some y:=fun j hj=>⟨_,List.getElem?_eq_getElem (by rw[hxl];exact hj)⟩
 obtain⟨y0,z0⟩:=hx 0 (by omega);obtain⟨y1,z1⟩:=hx 1 (by omega);obtain⟨y2,z2⟩:=hx 2 (by omega);obtain⟨y3,z3⟩:=hx 3 (by omega);obtain⟨y4,z4⟩:=hx 4 (by omega);obtain⟨y5,z5⟩:=hx 5 (by omega);obtain⟨y6,z6⟩:=hx 6 (by omega)
 have g0:=(hg 0 _ rfl).trans z0;have g1:=(hg 1 _ rfl).trans z1;have g2:=(hg 2 _ rfl).trans z2;have g3:=(hg 3 _ rfl).trans z3;have g4:=(hg 4 _ rfl).trans z4;have g5:=(hg 5 _ rfl).trans z5;have g6:=(hg 6 _ rfl).trans z6
 have k1:Tryz.prog.cellsOf 3=1:=by kernel_rfl
 have k2:Tryz.prog.cellsOf 9=1:=by kernel_rfl
 have k3:Tryz.prog.cellsOf 34=5:=by kernel_rfl
 have k4:Tryz.prog.cellsOf 23=1:=by kernel_rfl
 simp[k1,k2,k3,k4] at g0 g1 g2 g3 g4 g5 g6
 obtain⟨k,e0,-,w0⟩:=DataW.trod_int Tryz.underlying3 g0
 obtain⟨id,e1,-,w1⟩:=DataW.trod_int Tryz.underlying23 g1
 obtain⟨n2,e2,-,w2⟩:=DataW.trod_int Tryz.underlying3 g2
 obtain⟨at',e3,-,w3⟩:=DataW.trod_int Tryz.underlying23 g3
 obtain⟨nm,e4,-,w4⟩:=DataW.trod_string Tryz.underlying9 g4
 obtain⟨tx,e5,-,w5⟩:=DataW.trod_string Tryz.underlying9 g5
 obtain⟨t,ht⟩:=Vt.open_vt _ _ _ g6
 obtain rfl:=List.singleton_inj.1 e0
 obtain rfl:=List.singleton_inj.1 e1
 obtain rfl:=List.singleton_inj.1 e2
 obtain rfl:=List.singleton_inj.1 e3
 obtain rfl:=List.singleton_inj.1 e4
 obtain rfl:=List.singleton_inj.1 e5
 simp[Lit.wf,IntKind.min,IntKind.max,IntKind.bits,IntKind.signed] at w0 w1 w2 w3
 obtain⟨vk,vn,vf,vs,l,A',cap,-,hv,-⟩:=ht.open_
 rw[hv] at ht
 injection hv with hv
 simp at hv
 obtain⟨rfl,rfl,rfl,rfl,rfl⟩:=hv
 obtain⟨mid,hmid⟩:∃mn:Nat,id=mn:=⟨id.toNat,by omega⟩
 obtain⟨mat,hmat⟩:∃mn:Nat,at'=mn:=⟨at'.toNat,by omega⟩
 subst hmid hmat
 exact⟨⟨k,mid,n2,mat,nm,tx,t⟩,vk,vn,vf,vs,A',l.length,cap,⟨by show _<=k;omega,by show k<=_;omega,by show mid<_;omega,by show _<=n2;omega,by show n2<=_;omega,by show mat<_;omega,w4,w5⟩,ht,rfl⟩
theorem YX {H : Type} {enc : TypeId × Value -> H} {W : World} {b1 : Nat} {spare : Nat -> Bool} {held : Bool} (fuel : Nat) (c0 : Value) (x : DataW H × List MemPlace)
  (hf:DataW.trod enc Tryz.prog W b1 spare held fuel 62 [c0]=some x):∃es A cap,c0= .slice A es.length cap/\EvsIn W A cap es/\((es= []/\x.1= .nil)\/∃elems rest,x.1= .slice elems rest/\elems.length=es.length):=by
 have hC:Tryz.prog.cellsOf 61=11:=by kernel_rfl
 rcases DataW.trod_slice Tryz.underlying62 hf with ⟨e4,rfl⟩|⟨a,l0,cp0,elems,rest,n',hn',e4,rfl,hb,hl,hm,hel,he,-,-⟩
 ·obtain rfl := List.singleton_inj.1 e4
  exact⟨[],none,0,rfl,⟨Nat.le_refl _,Nat.zero_le _,fun h=>absurd h (by simp)⟩,.inl ⟨rfl,rfl⟩⟩
 ·obtain rfl := List.singleton_inj.1 e4
  have h4:∀i:Nat,∃tC:EV×(Int×Int×Nat×ByteArray×Option Addr×Nat×Nat),i<l0->Dj tC.1/\Rep W b1 W.heap.size tC.1.v (Dn tC.2.1 tC.2.2.1 tC.2.2.2.1 tC.2.2.2.2.1 tC.2.2.2.2.2.1 tC.2.2.2.2.2.2.1 tC.2.2.2.2.2.2.2)/\
    ∀j,j<11->W.cell? (a.add (i*11) |>.add j)=(Db tC.1 tC.2.1 tC.2.2.1 tC.2.2.2.1 tC.2.2.2.2.1 tC.2.2.2.2.2.1 tC.2.2.2.2.2.2.1 tC.2.2.2.2.2.2.2)[j]?:=fun i=>by
   by_cases hi:i<l0
   ·have e := he i hi
    rw[List.getElem?_eq_getElem (by omega)] at e
    obtain⟨cs',q1,q2⟩:=Option.bind_eq_some_iff.1 e
    obtain⟨o,vk,vn,vf,vs,A',m,c,p1,p3,rfl⟩:=open_ev n' cs' _ q2
    rw[hC] at q1
    obtain⟨_,ql,qc⟩:=World.cells?_some q1
    exact⟨(o,vk,vn,vf,vs,A',m,c),fun _=>⟨p1,p3,fun j hj=>by rw[qc j hj,Array.getElem?_toList]⟩⟩
   ·exact⟨(⟨0,0,0,0,.empty,.empty,.mk 0 0 0 .empty []⟩,0,0,0,.empty,none,0,0),fun h=>absurd h hi⟩
  obtain⟨F,hF⟩:=Classical.axiomOfChoice h4
  have hlen':((List.range l0).map fun i=>(F i).1).length=l0:=by simp
  refine⟨(List.range l0).map fun i=>(F i).1,some a,cp0,by rw[hlen'],⟨by rw[hlen'];exact hl,hm,fun hp=> ?_⟩,.inr ⟨_,_,rfl,by rw[hlen',List.length_map];exact hel⟩⟩
  rw[hlen'] at hp
  have h0:=(hF 0 hp).2.2 0 (by omega)
  obtain⟨b,off,spot⟩:=a
  have hs:spot=none:=by
   cases spot with
   | none=>rfl
   | some q=>
    simp[Addr.add,World.cell?,Db] at h0
    split at h0<;>simp at h0
  subst hs
  have hlt:b<W.heap.size:=by
   rcases Nat.lt_or_ge b W.heap.size with q|q
   ·exact q
   ·simp[Addr.add,World.cell?,Array.getElem?_eq_none q,Db] at h0
  refine⟨b,off,rfl,hlt,fun i hi=> ?_⟩
  rw[hlen'] at hi
  obtain⟨p1,p3,p4⟩:=hF i hi
  refine⟨b1,W.heap.size,_,_,_,_,_,_,_,by simpa using p1,by simpa using p3,Nat.le_refl _,fun j hj=> ?_⟩
  have:=p4 j hj
  rw[Go.Deep.add_add,add_plain] at this
  rw[Nat.add_assoc,this]
  simp
end Cn
end Go.Proofs.YtaahfiopdoinkaaGreat
