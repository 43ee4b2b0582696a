/- Contracts of package value's Valid of a tree. -/
import Derived.Test.YtaahfiopdoinkaaGreatTwad
import Derived.Laws.EntriesVeiled
set_option maxRecDepth 100000
set_option maxHeartbeats 2000000
variable {p : Prop}
set_option linter.unusedVariables false
open Go.RowKit
namespace Go.Proofs.YtaahfiopdoinkaaGreat
namespace Vt
open Nm (Di Dk De)
theorem bv0 (n:Int)(f:Nat)(s:ByteArray)(A:Option Addr)(m c:Nat):Fx 0 n f s A m c= .agg #[.int .i64 0,.int .i64 n,.float .f64 f,.string s,.slice A m c]:=by simp[Fx]
theorem bv1 (n:Int)(f:Nat)(s:ByteArray)(A:Option Addr)(m c:Nat):Fx 1 n f s A m c= .agg #[.int .i64 1,.int .i64 0,.float .f64 f,.string s,.slice A m c]:=by simp[Fx]
theorem bv2 (n:Int)(f:Nat)(s:ByteArray)(A:Option Addr)(m c:Nat):Fx 2 n f s A m c= .agg #[.int .i64 2,.int .i64 n,.float .f64 0,.string s,.slice A m c]:=by simp[Fx]
theorem bv3 (n:Int)(f:Nat)(s:ByteArray)(A:Option Addr)(m c:Nat):Fx 3 n f s A m c= .agg #[.int .i64 3,.int .i64 n,.float .f64 f,.string ⟨#[]⟩,.slice A m c]:=by simp[Fx]
theorem bv4 (n:Int)(f:Nat)(s:ByteArray)(A:Option Addr)(m c:Nat):Fx 4 n f s A m c= .agg #[.int .i64 4,.int .i64 n,.float .f64 f,.string s,.slice none 0 0]:=by simp[Fx]
def WalkAt (w:World)(g:Nat):Prop:=w.cell? ⟨g,0,none⟩=some (.func (.func 167) #[] #[.pointer (some ⟨g,0,none⟩)])/\g<w.heap.size
theorem WalkAt.later {w w':World}{g:Nat}(h:WalkAt w g)(hb:Below w.heap.size w w'):WalkAt w' g:=⟨(hb.cell (p:=⟨g,0,none⟩) h.2).trans h.1,Nat.lt_of_lt_of_le h.2 hb.size⟩
theorem Lm : Di 0=0:=by decide+kernel
theorem vfail_0 (n:Int)(f:Nat)(s:ByteArray)(m cap:Nat)(A:Option Addr)(h:¬Pz 0 n f s m)(x:Int)(g:Nat)(w:World) :
  Calls Tryz.prog 167 #[.agg #[.int .i64 0,.int .i64 n,.float .f64 f,.string s,.slice A m cap],.int .i64 x,.pointer (some ⟨g,0,none⟩)] w fun e w'=>e= .returned (.bool false)/\Below w.heap.size w w':=by
 have H:=Lib.hid h;clear h
 have HAB:=Lib.hid (DC w 0 n f s A m cap)
 have HBX:=Lib.hid (BoxAt.new w 0 n f s A m cap)
 have BL:=Fi 0 n f s A m cap
 rw[bv0] at BL
 have BL:=Lib.hid BL
 have O:=Lib.hid (Fs 0)
 rw[kv0] at O
 have BI:=Lib.hid (Nm.Fj)
 go_enter Tryz.func167,Tryz.ntmps167
 go_wp2_with fail
 refine(BL.out _).mono ?_
 rintro e w1 ⟨rfl,hb1⟩
 have hbox:=HBX.out.later hb1 (by simp)
 obtain⟨c0,c1,c2,c3,c4⟩:=hbox.cells
 have hlt:=hbox.lt
 have HB1:=Lib.hid (HAB.out.trans (hb1.mono (by simp)))
 clear hbox
 clear hb1 HBX HAB BL
 go_wp2_with fail
 refine(O.out _).mono ?_
 rintro e w' ⟨rfl,rfl⟩
 go_wp2_with (go_at_call 170;refine(BI.out _ _).mono ?_;rintro e w' ⟨rfl,rfl⟩)
 all_goals first
  | (go_ret;exact⟨rfl,HB1.out.alloc (by omega) _⟩)
  | (exfalso
     refine H.out ⟨?_,?_,?_,?_⟩
     all_goals clear H HB1 O BI
     all_goals first
      | omega
      | (right;assumption)
      | (right;omega))
theorem vfail_1 (n:Int)(f:Nat)(s:ByteArray)(m cap:Nat)(A:Option Addr)(h:¬Pz 1 n f s m)(x:Int)(g:Nat)(w:World) :
  Calls Tryz.prog 167 #[.agg #[.int .i64 1,.int .i64 n,.float .f64 f,.string s,.slice A m cap],.int .i64 x,.pointer (some ⟨g,0,none⟩)] w fun e w'=>e= .returned (.bool false)/\Below w.heap.size w w':=by
 have H:=Lib.hid h;clear h
 have HAB:=Lib.hid (DC w 1 n f s A m cap)
 have HBX:=Lib.hid (BoxAt.new w 1 n f s A m cap)
 have BL:=Fi 1 n f s A m cap
 rw[bv1] at BL
 have BL:=Lib.hid BL
 have O:=Lib.hid (Fs 1)
 rw[kv1] at O
 have BI:=Lib.hid (Nm.Fj)
 go_enter Tryz.func167,Tryz.ntmps167
 go_wp2_with fail
 refine(BL.out _).mono ?_
 rintro e w1 ⟨rfl,hb1⟩
 have hbox:=HBX.out.later hb1 (by simp)
 obtain⟨c0,c1,c2,c3,c4⟩:=hbox.cells
 have hlt:=hbox.lt
 have HB1:=Lib.hid (HAB.out.trans (hb1.mono (by simp)))
 clear hbox
 clear hb1 HBX HAB BL
 go_wp2_with fail
 refine(O.out _).mono ?_
 rintro e w' ⟨rfl,rfl⟩
 go_wp2_with (go_at_call 170;refine(BI.out _ _).mono ?_;rintro e w' ⟨rfl,rfl⟩)
 all_goals first
  | (go_ret;exact⟨rfl,HB1.out.alloc (by omega) _⟩)
  | (exfalso
     refine H.out ⟨?_,?_,?_,?_⟩
     all_goals clear H HB1 O BI
     all_goals first
      | omega
      | (right;assumption)
      | (right;omega))
theorem vfail_2 (n:Int)(f:Nat)(s:ByteArray)(m cap:Nat)(A:Option Addr)(h:¬Pz 2 n f s m)(x:Int)(g:Nat)(w:World) :
  Calls Tryz.prog 167 #[.agg #[.int .i64 2,.int .i64 n,.float .f64 f,.string s,.slice A m cap],.int .i64 x,.pointer (some ⟨g,0,none⟩)] w fun e w'=>e= .returned (.bool false)/\Below w.heap.size w w':=by
 have H:=Lib.hid h;clear h
 have HAB:=Lib.hid (DC w 2 n f s A m cap)
 have HBX:=Lib.hid (BoxAt.new w 2 n f s A m cap)
 have BL:=Fi 2 n f s A m cap
 rw[bv2] at BL
 have BL:=Lib.hid BL
 have O:=Lib.hid (Fs 2)
 rw[kv2] at O
 have BI:=Lib.hid (Nm.Fj)
 have b00:=Lm
 go_enter Tryz.func167,Tryz.ntmps167
 go_wp2_with fail
 refine(BL.out _).mono ?_
 rintro e w1 ⟨rfl,hb1⟩
 have hbox:=HBX.out.later hb1 (by simp)
 obtain⟨c0,c1,c2,c3,c4⟩:=hbox.cells
 have hlt:=hbox.lt
 have HB1:=Lib.hid (HAB.out.trans (hb1.mono (by simp)))
 clear hbox
 clear hb1 HBX HAB BL
 go_wp2_with fail
 refine(O.out _).mono ?_
 rintro e w' ⟨rfl,rfl⟩
 go_wp2_with (go_at_call 170;refine(BI.out _ _).mono ?_;rintro e w' ⟨rfl,rfl⟩)
 all_goals first
  | (go_ret;exact⟨rfl,HB1.out.alloc (by omega) _⟩)
  | (exfalso
     refine H.out ⟨?_,?_,?_,?_⟩
     all_goals clear H HB1 O BI
     all_goals first
      | omega
      | (right;assumption)
      | (right;omega))
theorem vfail_3 (n:Int)(f:Nat)(s:ByteArray)(m cap:Nat)(A:Option Addr)(h:¬Pz 3 n f s m)(x:Int)(g:Nat)(w:World) :
  Calls Tryz.prog 167 #[.agg #[.int .i64 3,.int .i64 n,.float .f64 f,.string s,.slice A m cap],.int .i64 x,.pointer (some ⟨g,0,none⟩)] w fun e w'=>e= .returned (.bool false)/\Below w.heap.size w w':=by
 have H:=Lib.hid h;clear h
 have HAB:=Lib.hid (DC w 3 n f s A m cap)
 have HBX:=Lib.hid (BoxAt.new w 3 n f s A m cap)
 have BL:=Fi 3 n f s A m cap
 rw[bv3] at BL
 have BL:=Lib.hid BL
 have O:=Lib.hid (Fs 3)
 rw[kv3] at O
 have BI:=Lib.hid (Nm.Fj)
 go_enter Tryz.func167,Tryz.ntmps167
 go_wp2_with fail
 refine(BL.out _).mono ?_
 rintro e w1 ⟨rfl,hb1⟩
 have hbox:=HBX.out.later hb1 (by simp)
 obtain⟨c0,c1,c2,c3,c4⟩:=hbox.cells
 have hlt:=hbox.lt
 have HB1:=Lib.hid (HAB.out.trans (hb1.mono (by simp)))
 clear hbox
 clear hb1 HBX HAB BL
 go_wp2_with fail
 refine(O.out _).mono ?_
 rintro e w' ⟨rfl,rfl⟩
 go_wp2_with (go_at_call 170;refine(BI.out _ _).mono ?_;rintro e w' ⟨rfl,rfl⟩)
 all_goals first
  | (go_ret;exact⟨rfl,HB1.out.alloc (by omega) _⟩)
  | (exfalso
     refine H.out ⟨?_,?_,?_,?_⟩
     all_goals clear H HB1 O BI
     all_goals first
      | omega
      | (right;assumption)
      | (right;omega))
theorem vfail_4 (n:Int)(f:Nat)(s:ByteArray)(m cap:Nat)(A:Option Addr)(h:¬Pz 4 n f s m)(x:Int)(g:Nat)(w:World) :
  Calls Tryz.prog 167 #[.agg #[.int .i64 4,.int .i64 n,.float .f64 f,.string s,.slice A m cap],.int .i64 x,.pointer (some ⟨g,0,none⟩)] w fun e w'=>e= .returned (.bool false)/\Below w.heap.size w w':=by
 have H:=Lib.hid h;clear h
 have HAB:=Lib.hid (DC w 4 n f s A m cap)
 have HBX:=Lib.hid (BoxAt.new w 4 n f s A m cap)
 have BL:=Fi 4 n f s A m cap
 rw[bv4] at BL
 have BL:=Lib.hid BL
 have O:=Lib.hid (Fs 4)
 rw[kv4] at O
 have BI:=Lib.hid (Nm.Fj)
 go_enter Tryz.func167,Tryz.ntmps167
 go_wp2_with fail
 refine(BL.out _).mono ?_
 rintro e w1 ⟨rfl,hb1⟩
 have hbox:=HBX.out.later hb1 (by simp)
 obtain⟨c0,c1,c2,c3,c4⟩:=hbox.cells
 have hlt:=hbox.lt
 have HB1:=Lib.hid (HAB.out.trans (hb1.mono (by simp)))
 clear hbox
 clear hb1 HBX HAB BL
 go_wp2_with fail
 refine(O.out _).mono ?_
 rintro e w' ⟨rfl,rfl⟩
 go_wp2_with (go_at_call 170;refine(BI.out _ _).mono ?_;rintro e w' ⟨rfl,rfl⟩)
 all_goals first
  | (go_ret;exact⟨rfl,HB1.out.alloc (by omega) _⟩)
  | (exfalso
     refine H.out ⟨?_,?_,?_,?_⟩
     all_goals clear H HB1 O BI
     all_goals first
      | omega
      | (right;assumption)
      | (right;omega))
theorem M483 (h:p:=by
 go_enter Tryz.func167,Tryz.ntmps167
 go_wp2_with fail
 refine(BL.out _).mono ?_
 rintro e w1 ⟨rfl,hb1⟩
 have hbox:=HBX.out.later hb1 (by simp)
 obtain⟨c0,c1,c2,c3,c4⟩:=hbox.cells
 have hlt:=hbox.lt
 have HB1:=Lib.hid (HAB.out.trans (hb1.mono (by simp)))
 exact Y483):p:=h
theorem M708 (h:p:=by
 clear hbox
 clear hb1 HBX HAB BL
 go_wp2_with fail
 refine(O.out _).mono ?_
 rintro e w' ⟨rfl,rfl⟩
 go_wp2_with (go_at_call 170;refine(BI.out _ _).mono ?_;rintro e w' ⟨rfl,rfl⟩)
 exact Y708):p:=h
theorem Q710.Y708 (h:p:=by
 go_loop [49] (fun i=>i= .int .i64 0) (fun _=>0)
 case atStart=>exact rfl
 case round=>
  subst hrel
  go_wp2_with fail
  go_ret
  exact⟨rfl,HB1.out.alloc (by omega) _⟩):p:=h
theorem Q487.Y483 (h:p:=by
 open Q710 in exact M708):p:=h
theorem M34 (h:p:=by
 open Q487 in exact M483):p:=h
theorem vpass_0 (f:Nat)(s:ByteArray)(hb0:Di f=0)(hs0:s.toList= [])(A:Option Addr)(cap:Nat)(x:Int)(g:Nat)(w:World) :
  Calls Tryz.prog 167 #[.agg #[.int .i64 0,.int .i64 0,.float .f64 f,.string s,.slice A 0 cap],.int .i64 x,.pointer (some ⟨g,0,none⟩)] w fun e w'=>e= .returned (.bool true)/\Below w.heap.size w w':=by
 have HAB:=Lib.hid (DC w 0 0 f s A 0 cap)
 have HBX:=Lib.hid (BoxAt.new w 0 0 f s A 0 cap)
 have BL:=Fi 0 0 f s A 0 cap
 rw[bv0] at BL
 have BL:=Lib.hid BL
 have O:=Lib.hid (Fs 0)
 rw[kv0] at O
 have BI:=Lib.hid (Nm.Fj)
 exact M34
theorem vpass_1 (n:Int)(f:Nat)(s:ByteArray)(hb0:Di f=0)(hs0:s.toList= [])(A:Option Addr)(cap:Nat)(x:Int)(g:Nat)(w:World) :
  Calls Tryz.prog 167 #[.agg #[.int .i64 1,.int .i64 n,.float .f64 f,.string s,.slice A 0 cap],.int .i64 x,.pointer (some ⟨g,0,none⟩)] w fun e w'=>e= .returned (.bool true)/\Below w.heap.size w w':=by
 have HAB:=Lib.hid (DC w 1 n f s A 0 cap)
 have HBX:=Lib.hid (BoxAt.new w 1 n f s A 0 cap)
 have BL:=Fi 1 n f s A 0 cap
 rw[bv1] at BL
 have BL:=Lib.hid BL
 have O:=Lib.hid (Fs 1)
 rw[kv1] at O
 have BI:=Lib.hid (Nm.Fj)
 exact M34
theorem vpass_2 (f:Nat)(s:ByteArray)(hs0:s.toList= [])(A:Option Addr)(cap:Nat)(x:Int)(g:Nat)(w:World) :
  Calls Tryz.prog 167 #[.agg #[.int .i64 2,.int .i64 0,.float .f64 f,.string s,.slice A 0 cap],.int .i64 x,.pointer (some ⟨g,0,none⟩)] w fun e w'=>e= .returned (.bool true)/\Below w.heap.size w w':=by
 have HAB:=Lib.hid (DC w 2 0 f s A 0 cap)
 have HBX:=Lib.hid (BoxAt.new w 2 0 f s A 0 cap)
 have BL:=Fi 2 0 f s A 0 cap
 rw[bv2] at BL
 have BL:=Lib.hid BL
 have O:=Lib.hid (Fs 2)
 rw[kv2] at O
 have BI:=Lib.hid (Nm.Fj)
 have b00:=Lm
 exact M34
theorem vpass_3 (f:Nat)(s:ByteArray)(hb0:Di f=0)(A:Option Addr)(cap:Nat)(x:Int)(g:Nat)(w:World) :
  Calls Tryz.prog 167 #[.agg #[.int .i64 3,.int .i64 0,.float .f64 f,.string s,.slice A 0 cap],.int .i64 x,.pointer (some ⟨g,0,none⟩)] w fun e w'=>e= .returned (.bool true)/\Below w.heap.size w w':=by
 have HAB:=Lib.hid (DC w 3 0 f s A 0 cap)
 have HBX:=Lib.hid (BoxAt.new w 3 0 f s A 0 cap)
 have BL:=Fi 3 0 f s A 0 cap
 rw[bv3] at BL
 have BL:=Lib.hid BL
 have O:=Lib.hid (Fs 3)
 rw[kv3] at O
 have BI:=Lib.hid (Nm.Fj)
 exact M34
theorem Q718.Y715 (h:p:=by
 have hwk:WalkAt wr g:=HWK.out.later HB.out
 have hwc:=hwk.1
 have hwl:=hwk.2
 have HWR:=Lib.hid hwk
 have HR:=Lib.hid hr
 clear h3 e hr hwk
 go_wp2_with fail
 refine(IH.out j hlt (x-1) (by omega) (by omega) _ lo hi _ (HR.out.alloc (by omega) _) (by simp;omega) (HWR.out.later ((Below.refl _ _).alloc (Nat.le_refl _) _))).mono ?_
 rintro e w2 ⟨rfl,hb1⟩
 have HZ2:w.heap.size<w2.heap.size:=by have:=hb1.size;simp at this;omega
 have HB1:=Lib.hid ((HB.out.alloc (by omega) _).trans (hb1.mono (by simp;omega)))
 clear HB HR hb1 c0 c1 c2 c3 c4 d0 d1 d2 d3 d4 hwc hwl HWR
 cases hp:l[j].valid (x-1).toNat with
 | true=>
  have HP:=Lib.hid hp;clear hp
  go_wp2_with fail
  go_roundw
  case rel=>exact⟨j+1,by omega,by go_num,rfl,by rw[Gg _ _ _ hlt,HY.out,HP.out];rfl,HZ2,HB1.out⟩
  case measure=>simp[intOf];omega
 | false=>
  exact M171):p:=h
theorem Q709.Y708 (h:p:=by
 have HB2:=Lib.hid (HB1.out.alloc (Nat.le_of_lt hlt) (.cells #[.int .i64 4,.int .i64 0,.float .f64 f,.string s,.slice none 0 0] 34))
 go_loopw [5,49] (fun r i wr=>∃(j:Nat),j<=l.length/\i= .int .i64 j/\r= .bool false/\(l.take j).all (fun t=>t.valid (x-1).toNat)=true/\w.heap.size<wr.heap.size/\Below w.heap.size w wr) (fun _ i _=>l.length-(intOf i).toNat)
 case atStart=>exact⟨0,by omega,rfl,rfl,rfl,by simp;omega,HB2.out⟩
 case round=>
  obtain⟨j,hj,rfl,rfl,hy,hzr,hb⟩:=hrel
  have HY:=Lib.hid hy;clear hy
  have HB:=Lib.hid hb;clear hb
  by_cases hlt:j<l.length
  ·open Q718 in exact M715
  ·exact M103):p:=h
theorem Q484.Y483 (h:p:=by
 have HBX1:=Lib.hid hbox
 open Q709 in exact M708):p:=h
theorem Q711.Y708 (h:p:=by
 go_ret
 exact⟨De (by simp),HB1.out.alloc (by omega) _⟩):p:=h
theorem Q486.Y483 (h:p:=by
 open Q711 in exact M708):p:=h
theorem Q773.Y772 (h:p:=by
 have BI:=Lib.hid (Nm.Fj)
 open Q484 in exact M483):p:=h
theorem Q774.Y772 (h:p:=by
 have BI:=Lib.hid (Nm.Fj)
 open Q486 in exact M483):p:=h
theorem M772 (h:p:=by
 have HAB:=Lib.hid (DC w 4 0 f s A l.length cap)
 have HBX:=Lib.hid (BoxAt.new w 4 0 f s A l.length cap)
 have BL:=Fi 4 0 f s A l.length cap
 rw[bv4] at BL
 have BL:=Lib.hid BL
 have O:=Lib.hid (Fs 4)
 rw[kv4] at O
 exact Y772):p:=h
theorem vlist (f : Nat) (s : ByteArray) (l : List VT) (A : Option Addr) (cap : Nat) (hb0 : Di f = 0) (hs0 : s.toList = []) (hl : l.length <= cap) (hc : cap <= maxLen) (x : Int) (hx0 : 0 <= x) (hx1 : x <= 8) (g : Nat)
  (ih:∀(i:Nat) (hi:i<l.length) (x:Int) (_:0<=x) (_:x<=8) (w:World) (lo hi:Nat) (v:Value) (_:Rep w lo hi l[i] v) (_:hi<=w.heap.size) (_:WalkAt w g),
   Calls Tryz.prog 167 #[v,.int .i64 x,.pointer (some ⟨g,0,none⟩)] w fun e w'=>e= .returned (.bool (l[i].valid x.toNat))/\Below w.heap.size w w')
  (w:World) (lo hi:Nat) (hk:KidsAt w lo hi l A) (hz:hi<=w.heap.size) (hw:WalkAt w g) :
  Calls Tryz.prog 167 #[.agg #[.int .i64 4,.int .i64 0,.float .f64 f,.string s,.slice A l.length cap],.int .i64 x,.pointer (some ⟨g,0,none⟩)] w fun e w'=>
   e= .returned (.bool (decide (x≠0)&&l.all (fun t=>t.valid (x-1).toNat)))/\Below w.heap.size w w':=by
 unfold maxLen at hc
 have IH:=Lib.hid ih;have HK:=Lib.hid hk;clear ih hk
 have HWK:=Lib.hid hw;clear hw
 by_cases hx:x=0
 ·subst hx
  open Q774 in exact M772
 ·have hxb : (x == 0) = false := by simpa using hx
  have hxp:1<=x:=by omega
  have HX:Hid (decide (x≠0)=true):=Lib.hid (by simpa using hx)
  clear hx
  open Q773 in exact M772
theorem Q485.Y483 (h:p:=by
 clear hbox hb1 HBX HAB BL
 go_wp2_with fail
 refine(O.out _).mono ?_
 rintro e w' ⟨rfl,rfl⟩
 go_wp2_with fail
 go_ret
 exact⟨rfl,HB1.out.alloc (by omega) _⟩):p:=h
theorem vout (k:Int)(hk:k<0\/4<k)(n:Int)(f:Nat)(s:ByteArray)(m cap:Nat)(A:Option Addr)(x:Int)(g:Nat)(w:World) :
  Calls Tryz.prog 167 #[.agg #[.int .i64 k,.int .i64 n,.float .f64 f,.string s,.slice A m cap],.int .i64 x,.pointer (some ⟨g,0,none⟩)] w fun e w'=>e= .returned (.bool false)/\Below w.heap.size w w':=by
 have HAB:=Lib.hid (DC w k n f s A m cap)
 have HBX:=Lib.hid (BoxAt.new w k n f s A m cap)
 have BL:=Fi k n f s A m cap
 have e0:Fx k n f s A m cap= .agg #[.int .i64 k,.int .i64 n,.float .f64 f,.string s,.slice A m cap]:=by unfold Fx;rw[if_neg (by omega),if_neg (by omega),if_neg (by omega),if_neg (by omega)]
 have e1:On k= .nilIface:=by unfold On;rw[if_neg (by omega),if_neg (by omega),if_neg (by omega),if_neg (by omega),if_neg (by omega)]
 rw[e0] at BL
 have BL:=Lib.hid BL
 have O:=Fs k
 rw[e1] at O
 have O:=Lib.hid O
 clear e0 e1
 open Q485 in exact M483
theorem walk_any (t:VT):∀(x:Int) (_:0<=x) (_:x<=8) (g:Nat) (w:World) (lo hi:Nat) (v:Value) (_:Rep w lo hi t v) (_:hi<=w.heap.size) (_:WalkAt w g),
  Calls Tryz.prog 167 #[v,.int .i64 x,.pointer (some ⟨g,0,none⟩)] w fun e w'=>e= .returned (.bool (t.valid x.toNat))/\Below w.heap.size w w':=by
 induction t using VT.ind with
 | _ k n f s l ih=>
  intro x hx0 hx1 g w lo hi v hR hz hw
  obtain⟨A,cap,rfl,ho,hl,hk⟩:=hR.head
  have hp:=VM k n f s l x hx0
  generalize (VT.mk k n f s l).valid x.toNat=R at hp ⊢
  by_cases hh:Pz k n f s l.length
  ·rcases (by omega : k = 0 \/ k = 1 \/ k = 2 \/ k = 3 \/ k = 4 \/ (k < 0 \/ 4 < k)) with rfl | rfl | rfl | rfl | rfl | h6
   ·rcases FK hh with ⟨q, -⟩ | ⟨q, -⟩ | ⟨q, -⟩ | ⟨q, -⟩ | ⟨e1, e2, e3, e4, rfl, q1, q2, q3⟩ <;> first | (exfalso; omega) | skip
    obtain rfl:=List.eq_nil_of_length_eq_zero q3
    refine(vpass_0 f s q1 q2 A cap x g w).mono fun e w' h=>⟨?_,h.2⟩
    rw[h.1]
    exact OE hp ⟨by omega,by omega,.inr rfl,.inr q1,.inr q2,.inr rfl,by omega,rfl⟩
   ·rcases FK hh with ⟨-, q1, q2, q3⟩ | ⟨q, -⟩ | ⟨q, -⟩ | ⟨q, -⟩ | ⟨q, -⟩ <;> first | (exfalso; omega) | skip
    obtain rfl:=List.eq_nil_of_length_eq_zero q3
    refine(vpass_1 n f s q1 q2 A cap x g w).mono fun e w' h=>⟨?_,h.2⟩
    exact M193
   ·rcases FK hh with ⟨q, -⟩ | ⟨-, rfl, q2, q3⟩ | ⟨q, -⟩ | ⟨q, -⟩ | ⟨-, q, -⟩ <;> first | (exfalso; omega) | skip
    obtain rfl:=List.eq_nil_of_length_eq_zero q3
    refine(vpass_2 f s q2 A cap x g w).mono fun e w' h=>⟨?_,h.2⟩
    exact M185
   ·rcases FK hh with ⟨q, -⟩ | ⟨q, -⟩ | ⟨-, rfl, q2, q3⟩ | ⟨q, -⟩ | ⟨-, -, q, -⟩ <;> first | (exfalso; omega) | skip
    obtain rfl:=List.eq_nil_of_length_eq_zero q3
    refine(vpass_3 f s q2 A cap x g w).mono fun e w' h=>⟨?_,h.2⟩
    exact M182
   ·rcases FK hh with ⟨q, -⟩ | ⟨q, -⟩ | ⟨q, -⟩ | ⟨-, rfl, q2, q3⟩ | ⟨-, -, -, q, -⟩ <;> first | (exfalso; omega) | skip
    refine(vlist f s l A cap q2 q3 hl ho.m1 x hx0 hx1 g (fun i hi x a b w lo hi' v c d e=>ih i hi x a b g w lo hi' v c d e) w lo hi hk hz hw).mono fun e w' h=>⟨?_,h.2⟩
    exact M100
   ·refine (vout k h6 n f s l.length cap A x g w).mono fun e w' h => ⟨?_, h.2⟩
    rw[h.1]
    exact OZ hp fun q=>by obtain⟨a,b,-⟩:=q;omega
  ·have ff:Calls Tryz.prog 167 #[.agg #[.int .i64 k,.int .i64 n,.float .f64 f,.string s,.slice A l.length cap],.int .i64 x,.pointer (some ⟨g,0,none⟩)] w fun e w'=>e= .returned (.bool false)/\Below w.heap.size w w':=by
    rcases (by omega:k=0\/k=1\/k=2\/k=3\/k=4\/(k<0\/4<k)) with rfl|rfl|rfl|rfl|rfl|h6
    ·exact vfail_0 n f s l.length cap A hh x g w
    ·exact vfail_1 n f s l.length cap A hh x g w
    ·exact vfail_2 n f s l.length cap A hh x g w
    ·exact vfail_3 n f s l.length cap A hh x g w
    ·exact vfail_4 n f s l.length cap A hh x g w
    ·exact vout k h6 n f s l.length cap A x g w
   refine ff.mono fun e w' h=>⟨?_,h.2⟩
   rw[h.1]
   exact OZ hp fun q=>hh (YR q)
theorem VA (t:VT)(w:World)(lo hi:Nat)(v:Value)(hR:Rep w lo hi t v)(hz:hi<=w.heap.size) :
  Calls Tryz.prog 135 #[v] w fun e w'=>e= .returned (.bool (t.valid 8))/\Below w.heap.size w w':=by
 have hv:=hR
 obtain⟨k,n,f,s,l,A,cap,rfl,rfl,ho,hl,hk⟩:=hR.open_
 generalize ht:VT.mk k n f s l=t at *
 have HV:=Lib.hid hv
 have WA:=Lib.hid (walk_any t 8 (by omega) (by omega))
 clear hv hR ho hk ht
 go_enter Tryz.func135,Tryz.ntmps135
 go_wp2_with fail
 refine(WA.out (w.heap.size+1) _ lo hi _ ?h1 ?h2 ?h3).mono ?_
 case h1=>exact(HV.out.alloc hz _).alloc (by simp;omega) _
 case h2=>simp;omega
 case h3=>exact⟨by simp[go_sem],by simp⟩
 rintro e w1 ⟨rfl,hb1⟩
 have HB2:=Lib.hid ((((Below.refl w.heap.size w).alloc (Nat.le_refl _) _).alloc (by simp) _).trans (hb1.mono (by simp;omega)))
 clear hb1
 go_wp2_with fail
 go_ret
 exact⟨rfl,HB2.out⟩
end Vt
namespace Nm
theorem eq0 (a:Nat)(ha:Fm.isNan a=false):(FloatKind.f64.format.order a 0==some Ordering.eq)=decide (Fm.SV a=0):=by
 rw[ord_sv a 0 ha (by decide),sv_zero]
 by_cases h:Fm.SV a=0
 ·rw[h];simp
 ·rcases Int.lt_or_gt_of_ne h with h' | h'
  ·rw[Int.compare_eq_lt.2 h'];simp[h]
  ·rw[Int.compare_eq_gt.2 h'];simp[h]
theorem Xu (b:Nat)(h:Fm.isNan b=false):Di b=b/\b%9223372036854775808<=9218868437227405312:=by
 refine⟨by unfold Di;rw[h];rfl,?_⟩
 unfold Fm.isNan at h
 simp only[decide_eq_false_iff_not] at h
 omega
theorem Kd (b:Nat)(h:Fm.isNan b=true):Di b=9221120237041090561:=by unfold Di;rw[h];rfl
theorem OA (b:Nat):(9223372036854775808<=b/\FI b=18446744073709551615-b)\/(b<9223372036854775808/\FI b=b+9223372036854775808):=by
 unfold FI
 by_cases h:9223372036854775808<=b
 ·rw[if_pos h];omega
 ·rw[if_neg h];omega
theorem M202 (h:p:=by
 rintro e w' ⟨rfl,rfl⟩
 go_wp2_with fail
 go_ret
 exact⟨Dk R.out.symm,rfl⟩):p:=h
theorem M62 (h:p:=by
 clear c3 r1 r2 e1 e2 h1 h2 ha hb
 go_enter Tryz.func179,Tryz.ntmps179
 go_wp2_with fail
 refine(C1.out _).mono ?_
 rintro e w' ⟨rfl,rfl⟩
 go_wp2_with fail
 refine(C2.out _).mono ?_
 exact M202):p:=h
theorem M95 (h:p:=by
 go_enter Tryz.func179,Tryz.ntmps179
 go_wp2_with fail
 refine(C1.out _).mono ?_
 rintro e w' ⟨rfl,rfl⟩
 go_wp2_with fail
 refine(C2.out _).mono ?_
 rintro e w' ⟨rfl,rfl⟩
 go_wp2_with fail
 refine(C6.out _).mono ?_
 rintro e w' ⟨rfl,rfl⟩
 go_wp2_with fail
 go_ret
 exact⟨Dk R.out,rfl⟩):p:=h
theorem Xv (a b:Nat)(ha:a<18446744073709551616)(hb:b<18446744073709551616)(w:World) :
  Calls Tryz.prog 179 #[.float .f64 a,.float .f64 b] w fun e w'=>e= .returned (.int .i64 (Fo a b))/\w=w':=by
 have C1:=Lib.hid (fun w=>UM a w)
 have C2:=Lib.hid (fun w=>UM b w)
 have c3:=OM (FI (Di a)) (FI (Di b))
 have r1:=OA (Di a)
 have r2:=OA (Di b)
 cases h1:Fm.isNan a with
 | true=>
  have e1:=Kd a h1
  rw[e1] at c3 r1
  rw[h1] at C1
  cases h2:Fm.isNan b with
  | true=>
   have e2:=Kd b h2
   rw[e2] at c3 r2
   rw[h2] at C2
   have R:Hid (Fo a b=0):=by show Fo a b=0;unfold Fo;rw[e1,e2];omega
   exact M62
  | false=>
   have e2:=Xu b h2
   rw[e2.1] at c3 r2
   rw[h2] at C2
   have R:Hid (Fo a b=1):=by show Fo a b=1;unfold Fo;rw[e1,e2.1];omega
   exact M62
 | false=>
  have e1:=Xu a h1
  rw[e1.1] at c3 r1
  cases h2:Fm.isNan b with
  | true=>
   have e2:=Kd b h2
   rw[e2] at c3 r2
   rw[h1] at C1
   rw[h2] at C2
   have R:Hid (Fo a b= -1):=by show Fo a b= -1;unfold Fo;rw[e1.1,e2];omega
   exact M62
  | false=>
   have e2:=Xu b h2
   rw[e2.1] at c3 r2
   have z1:=eq0 a h1
   have z2:=eq0 b h2
   have C3:=Lib.hid (fun w=>Yv a ha w)
   have C4:=Lib.hid (fun w=>Yv b hb w)
   have C5:=Lib.hid (fun x y w=>Vb x y w)
   have C6:=Lib.hid (fun w=>cmpf_any a b h1 h2 w)
   have na:Fm.neg a=decide (9223372036854775808<=a):=by
    exact M110
   have nb:Fm.neg b=decide (9223372036854775808<=b):=by
    exact M110
   have za:=GO a
   have zb:=GO b
   have hc:=cmp_num a b ha hb h1 h2
   rw[h1] at C1
   rw[h2] at C2
   by_cases hz:Fm.SV a=0/\Fm.SV b=0
   ·have R:Hid (Fo a b=GL (if Fm.neg a=true then -1 else 1) (if Fm.neg b=true then -1 else 1)):=by
     show Fo a b=GL (if Fm.neg a=true then -1 else 1) (if Fm.neg b=true then -1 else 1)
     have y1:=za.1 hz.1
     have y2:=zb.1 hz.2
     unfold Fo
     rw[e1.1,e2.1,na,nb]
     clear za zb hc
     by_cases p:9223372036854775808<=a
     ·by_cases q : 9223372036854775808 <= b
      ·simp only[p,q,decide_true,if_true,GL];simp;omega
      ·simp only[p,q,decide_true,decide_false,if_true,GL];simp;omega
     ·by_cases q : 9223372036854775808 <= b
      ·simp only[p,q,decide_true,decide_false,if_true,GL];simp;omega
      ·simp only[p,q,decide_false,GL];simp;omega
    rw[decide_eq_true hz.1] at z1
    rw[decide_eq_true hz.2] at z2
    clear c3 r1 r2 e1 e2 h1 h2 ha hb hc na nb za zb hz
    generalize (if Fm.neg a=true then (-1:Int) else 1)=x at *
    generalize (if Fm.neg b=true then (-1:Int) else 1)=y at *
    go_enter Tryz.func179,Tryz.ntmps179
    go_wp2_with fail
    refine(C1.out _).mono ?_
    rintro e w' ⟨rfl,rfl⟩
    go_wp2_with fail
    refine(C2.out _).mono ?_
    rintro e w' ⟨rfl,rfl⟩
    go_wp2_with fail
    refine(C3.out _).mono ?_
    rintro e w' ⟨rfl,rfl⟩
    go_wp2_with fail
    refine(C4.out _).mono ?_
    rintro e w' ⟨rfl,rfl⟩
    go_wp2_with fail
    refine(C5.out x y _).mono ?_
    exact M202
   ·have R := Lib.hid (hc hz)
    by_cases hz1:Fm.SV a=0
    ·have hz2 : ¬ Fm.SV b = 0 := fun h => hz ⟨hz1, h⟩
     rw[decide_eq_true hz1] at z1
     rw[decide_eq_false hz2] at z2
     clear c3 r1 r2 e1 e2 h1 h2 ha hb hc na nb za zb hz hz1 hz2
     exact M95
    ·rw [decide_eq_false hz1] at z1
     clear c3 r1 r2 e1 e2 h1 h2 ha hb hc na nb za zb hz hz1 z2
     exact M95
theorem rank_inj (x y:Nat)(hx:x<18446744073709551616)(hy:y<18446744073709551616)(h:FI x=FI y):x=y:=by
 have:=OA x;have:=OA y;omega
theorem JU (a b:Nat)(ha:a<18446744073709551616)(hb:b<18446744073709551616) :
  (Fo a b= -1/\Fo b a=1/\((Di a:Int)==Di b)=false)\/(Fo a b=0/\Fo b a=0/\((Di a:Int)==Di b)=true)\/(Fo a b=1/\Fo b a= -1/\((Di a:Int)==Di b)=false):=by
 have c1:=OM (FI (Di a)) (FI (Di b))
 have c2:=OM (FI (Di b)) (FI (Di a))
 have hi:=rank_inj (Di a) (Di b) (Jl a ha) (Jl b hb)
 unfold Fo
 by_cases h:Di a=Di b
 ·have hB : ((Di a : Int) == Di b) = true := by rw [h]; simp
  have he:FI (Di a)=FI (Di b):=by rw[h]
  exact Or.inr (Or.inl ⟨by omega,by omega,hB⟩)
 ·have hB : ((Di a : Int) == Di b) = false := by rw [beq_eq_false_iff_ne]; omega
  have hne:FI (Di a)≠FI (Di b):=fun e=>h (hi e)
  rcases c1 with ⟨p,q⟩|⟨p,q⟩|⟨p,q⟩
  ·exact Or.inl ⟨p,by omega,hB⟩
  ·exact absurd q hne
  ·exact Or.inr (Or.inr ⟨p,by omega,hB⟩)
theorem Nk (a b:Nat)(ha:a<18446744073709551616)(hb:b<18446744073709551616)(w:World) :
  Calls Tryz.prog 165 #[.float .f64 a,.float .f64 b] w fun e w'=>e= .returned (.bool (Fo a b==0))/\w=w':=by
 have C:=Lib.hid (fun w=>Xv a b ha hb w)
 clear ha hb
 generalize Fo a b=n at *
 go_enter Tryz.func165,Tryz.ntmps165
 go_wp2_with fail
 refine(C.out _).mono ?_
 rintro e w' ⟨rfl,rfl⟩
 go_wp2_with fail
 go_ret
 exact⟨rfl,rfl⟩
end Nm
end Go.Proofs.YtaahfiopdoinkaaGreat
