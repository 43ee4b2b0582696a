/- A small form is that of a small value; a form is read as the value it is the form of. No program in sight. -/
/- Plain: the bytes of a form, and how many there are. -/
/- BatchCuts of what came in. -/
import Derived.Test.YtcbddebmmaflgaaGreatMqav
import Derived.Test.YtcbddebmmaflgaaGreatMqbf
import Derived.Test.YtcbddebmmaflgaaGreatMqao
import Derived.Test.YtcbddebmmaflgaaGreatMqax
import Derived.Test.YtcbddebmmaflgaaGreatMqbe
import Derived.Test.YtcbddebmmaflgaaGreatMqar
namespace Go.Proofs.YtcbddebmmaflgaaGreat
open Go.RowKit
set_option linter.unusedVariables false
set_option linter.unusedSimpArgs false
namespace Rd
open _root_.Go.Proofs.YtcbddebmmaflgaaGreat.Nm (bitsW ofW okW)
open Bt (ubytes sb sb_len)
open Vt (VT weightL weightL_nil weightL_cons weight_mk small_mk)
open Pf (sform zz be8 form_mk fine_mk)

theorem ub_pos (f x : Nat) : 0 < (ubytes f x).length := by
  cases f with
  | zero => simp [ubytes]
  | succ f => simp only [ubytes]; split <;> simp
theorem weightL_le (l : List VT) (ih : ∀ t ∈ l, ∀ m : Int, t.weight m ≤ ((Pf.VT.form t).length : Int)) : ∀ (n m : Int), weightL l n m ≤ n + ((l.map Pf.VT.form).flatten.length : Int) := by
  induction l with
  | nil => intro n m; rw [weightL_nil]; simp
  | cons t l ih2 =>
    intro n m
    rw [weightL_cons]
    have h1 := ih t (by simp) (m - n)
    have h2 := ih2 (fun x hx => ih x (List.mem_cons_of_mem _ hx)) (n + t.weight (m - n)) m
    simp only [List.map_cons, List.flatten_cons, List.length_append]
    split <;> omega
theorem weight_le (t : VT) : ∀ (d : Nat) (m : Int), t.valid d = true → t.weight m ≤ ((Pf.VT.form t).length : Int) := by
  induction t using VT.ind with
  | _ k n f s l ih =>
    intro d m hv
    rw [weight_mk]
    rw [form_mk]
    have u0 := ub_pos 10 0; have u1 := ub_pos 10 1; have u2 := ub_pos 10 2; have u3 := ub_pos 10 3; have u4 := ub_pos 10 4
    rcases Pf.valid_cases hv with ⟨rfl, -, -, h4, rfl⟩ | ⟨rfl, -, h4, rfl⟩ | ⟨rfl, -, h4, rfl⟩ | ⟨rfl, -, -, rfl⟩ | ⟨rfl, -, -, h4, hkv⟩
    · rw [weightL_nil, h4]; show (1 + min ((0 : Nat) : Int) 1000) ≤ ((ubytes 10 0 ++ []).length : Int); rw [List.length_append]; push_cast; omega
    · rw [weightL_nil, h4, List.length_append]; push_cast; omega
    · rw [weightL_nil, h4, List.length_append]; push_cast; omega
    · rw [weightL_nil, if_neg (by decide), if_neg (by decide), if_pos rfl]
      unfold sform
      rw [List.length_append, List.length_append, sb_len]; push_cast; omega
    · have := weightL_le l (fun t ht m => by
        obtain ⟨i, hi, rfl⟩ := List.getElem_of_mem ht
        exact ih i hi (d - 1) m (hkv _ ht)) (1 + min (s.size : Int) 1000) m
      rw [if_neg (by decide), if_neg (by decide), if_neg (by decide), if_pos rfl, List.length_append, List.length_append]
      rw [h4] at this ⊢
      push_cast at this ⊢
      omega
/-! A form is read. -/
theorem sb_byt (s : ByteArray) : Byt (sb s) := fun b hb => by
  simp only [sb, List.mem_map] at hb
  obtain ⟨x, -, rfl⟩ := hb
  exact x.toNat_lt
end Rd
end Go.Proofs.YtcbddebmmaflgaaGreat
namespace Go.Proofs.YtcbddebmmaflgaaGreat
open Go.RowKit
set_option linter.unusedVariables false
set_option linter.unusedSimpArgs false
namespace Rd
open Vt (VT Rep)
open Bt (ubytes sb)
open Ev (EV ERep FieldsOk evCells vCells)
open Cm (EvsIn)
open Cn (bvalid bform efew)
open Vf (eform)
open Rf (valid_size all_valid)

theorem fields_of {w : World} {A : Option Addr} {cap : Nat} {es : List EV} (h : EvsIn w A cap es) : ∀ e ∈ es, FieldsOk e ∧ Pf.VT.fine e.v := by
  intro e he
  obtain ⟨i, hi, rfl⟩ := List.getElem_of_mem he
  obtain ⟨b, off, lo, hi', vk, vn, vf, vs, A', m, c, -, -, h1, h2, -⟩ := h.get i hi
  exact ⟨h1, Pf.Rep.fine h2⟩
theorem good_of {w : World} {A : Option Addr} {cap : Nat} {es : List EV} (h : EvsIn w A cap es) {f : ByteArray} {a : Nat} (hv : bvalid f a es = true) : ∀ e ∈ es, GoodE e := fun e he => ⟨all_valid hv e he, (fields_of h e he).1, (fields_of h e he).2⟩
theorem few_all {es : List EV} (h : ∀ k (hk : k < es.length), efew es[k] = true) : ∀ e ∈ es, e.v.few = true := by
  intro e he
  obtain ⟨i, hi, rfl⟩ := List.getElem_of_mem he
  have := h i hi
  unfold efew at this
  simp only [Bool.and_eq_true] at this
  exact this.1.1
theorem ub_bytG (f : Nat) : ∀ y, y < 128 ^ (f + 1) → Byt (ubytes f y) := by
  induction f with
  | zero => intro y h b hb; simp [ubytes] at hb h; omega
  | succ f ih =>
    intro y h b hb
    by_cases hy : y < 128
    · rw [Rf.ub_last hy] at hb; simp at hb; omega
    · obtain ⟨g, hg, h1, h2⟩ := Rf.ub_next h (by omega)
      obtain rfl : g = f := by omega
      rw [h2] at hb
      rcases List.mem_cons.1 hb with rfl | hb
      · omega
      · exact ih _ h1 b hb
theorem ub_byt {x : Nat} (h : x < 18446744073709551616) : Byt (ubytes 10 x) := ub_bytG 10 x (Rf.ub_big h)
theorem sform_byt {s : ByteArray} (h : s.size < 18446744073709551616) : Byt (Pf.sform s) := fun b hb => by
  unfold Pf.sform at hb
  rcases List.mem_append.1 hb with h' | h'
  · exact ub_byt h b h'
  · exact sb_byt s b h'
theorem vform_byt (t : VT) : ∀ d, t.valid d = true → Pf.VT.fine t → Byt (Pf.VT.form t) := by
  induction t using VT.ind with
  | _ k n f s l ih =>
    intro d hv hfine
    obtain ⟨⟨n0, n1, f1, s1, m1⟩, hkf⟩ := Pf.fine_mk.1 hfine
    rw [Pf.form_mk]
    intro b hb
    rcases List.mem_append.1 hb with hb | hb
    · rcases Pf.valid_cases hv with ⟨rfl, -⟩ | ⟨rfl, -⟩ | ⟨rfl, -⟩ | ⟨rfl, -⟩ | ⟨rfl, -⟩ <;> exact ub_byt (by decide) b hb
    · rcases Pf.valid_cases hv with ⟨rfl, -⟩ | ⟨rfl, -⟩ | ⟨rfl, -⟩ | ⟨rfl, -⟩ | ⟨rfl, -, -, -, hkv⟩
      · simp at hb
      · rw [if_pos rfl] at hb; exact ub_byt (Pf.zz_lt n0 n1) b hb
      · rw [if_neg (by omega), if_pos rfl] at hb
        simp only [Pf.be8, List.mem_cons, List.not_mem_nil, or_false] at hb
        omega
      · rw [if_neg (by omega), if_neg (by omega), if_pos rfl] at hb; exact sform_byt s1 b hb
      · rw [if_neg (by omega), if_neg (by omega), if_neg (by omega), if_pos rfl] at hb
        rcases List.mem_append.1 hb with hb | hb
        · exact ub_byt m1 b hb
        · obtain ⟨fl, hfl, hb⟩ := List.mem_flatten.1 hb
          obtain ⟨t, ht, rfl⟩ := List.mem_map.1 hfl
          obtain ⟨i, hi, rfl⟩ := List.getElem_of_mem ht
          exact ih i hi (d - 1) (hkv _ ht) (hkf _ ht) b hb
theorem eform_byt {e : EV} (g : GoodE e) : Byt (eform e) := by
  have V := Vf.ve_of g.1
  have hf := g.2.1
  have h1 := V.k1; have h2 := V.k2; have h3 := V.n1; have h4 := V.n2; have h5 := V.s1; have h6 := V.t1
  unfold eform
  rw [Vf.sel6]
  have hi : ∀ (b : Bool) (l : List Nat), Byt l → Byt (if b = true then l else []) := fun b l h => by
    split
    · exact h
    · exact fun _ h => by simp at h
  intro b hb
  simp only [List.mem_append, List.mem_singleton] at hb
  rcases hb with (rfl | h) | h | h | h | h | h | h
  · omega
  · exact ub_byt (by omega) b h
  · exact hi _ _ (ub_byt hf.i1) b h
  · exact hi _ _ (ub_byt (by omega)) b h
  · exact hi _ _ (ub_byt hf.a1) b h
  · exact hi _ _ (sform_byt (by omega)) b h
  · exact hi _ _ (sform_byt (by omega)) b h
  · exact hi _ _ (vform_byt _ 8 V.v1 g.2.2) b h
theorem eform_len {e : EV} (hv : e.valid = true) (hf : FieldsOk e) (hfew : e.v.few = true) : (eform e).length ≤ 30000 := by
  have V := Vf.ve_of hv
  have h1 := V.s1; have h2 := V.t1
  have h3 := Vf.form_len_few hfew
  unfold eform
  rw [Vf.sel6]
  have hs : ∀ s : ByteArray, s.size ≤ 1000 → (Pf.sform s).length ≤ 1011 := fun s h => by unfold Pf.sform; rw [List.length_append, Bt.sb_len]; have := Bt.ubytes_len 10 s.size; omega
  have hi : ∀ (b : Bool) (l : List Nat) (n : Nat), l.length ≤ n → (if b = true then l else []).length ≤ n := fun b l n h => by split <;> simp [h]
  have a0 := hi (Vf.hasF e 0) _ _ (Bt.ubytes_len 10 e.id); have a1 := hi (Vf.hasF e 1) _ _ (Bt.ubytes_len 10 e.n.toNat); have a2 := hi (Vf.hasF e 2) _ _ (Bt.ubytes_len 10 e.at')
  have a3 := hi (Vf.hasF e 3) _ _ (hs _ h1); have a4 := hi (Vf.hasF e 4) _ _ (hs _ h2); have a5 := hi (Vf.hasF e 5) _ _ h3
  have a6 := Bt.ubytes_len 10 e.k.toNat
  simp only [List.length_append, List.length_singleton]
  omega
theorem flat_le {es : List EV} {M : Nat} (h : ∀ e ∈ es, (eform e).length ≤ M) : ((es.map eform).flatten).length ≤ es.length * M := by
  induction es with
  | nil => simp
  | cons x l ih =>
    have h1 := h x (List.mem_cons_self ..)
    have h2 := ih fun e he => h e (List.mem_cons_of_mem _ he)
    simp only [List.map_cons, List.flatten_cons, List.length_append, List.length_cons, Nat.succ_mul]
    omega
theorem bform_byt {f : ByteArray} {a n : Nat} {es : List EV} (hf : f.size ≤ 1000) (ha : a < 18446744073709551616) (hn : n < 18446744073709551616) (g : ∀ e ∈ es, GoodE e) : Byt (bform f a n (es.map eform)) := by
  unfold bform
  intro b hb
  simp only [List.mem_append] at hb
  rcases hb with (h | h) | h | h | h
  · exact ub_byt (by omega) b h
  · exact sb_byt f b h
  · exact ub_byt ha b h
  · exact ub_byt hn b h
  · obtain ⟨l, hl, h⟩ := List.mem_flatten.1 h
    obtain ⟨e, he, rfl⟩ := List.mem_map.1 hl
    exact eform_byt (g e he) b h
theorem bform_len {f : ByteArray} {a : Nat} {es : List EV} (hf : f.size ≤ 1000) (hl : es.length ≤ 2097152) (h : ∀ e ∈ es, (eform e).length ≤ 30000) : (bform f a es.length (es.map eform)).length ≤ 100000000000 ∧ 0 < (bform f a es.length (es.map eform)).length := by
  have h1 := flat_le h
  unfold bform
  have h2 := Bt.ubytes_len 10 f.size; have h3 := Bt.ubytes_len 10 a; have h4 := Bt.ubytes_len 10 es.length
  have h5 := ub_pos 10 a
  have h6 := Bt.sb_len f
  simp only [List.length_append]
  omega

end Rd
end Go.Proofs.YtcbddebmmaflgaaGreat
namespace Go.Proofs.YtcbddebmmaflgaaGreat
open Go.RowKit
set_option linter.unusedVariables false
set_option linter.unusedSimpArgs false
namespace Rd
open _root_.Go.Proofs.YtcbddebmmaflgaaGreat.Nm (ret_int ret_bool)
open Vt (VT Rep below_drew)
open Bt (BOwn BIn wpList_append_bytes)
open Ev (EV ERep FieldsOk evCells vCells)
open Cm (EvsIn)
open Cn (BRd BB bvalid bform efew)
open Vf (eform one_byte)
open Rf (r13bytes_any bclone_any RBB valid_size all_valid)

set_option maxRecDepth 100000 in
set_option maxHeartbeats 8000000 in
theorem bcuts_walk (es : List EV) (hlen : es.length ≤ 2097152) (f : ByteArray) (hfs : f.size ≤ maxLen) (a : Nat) (ha : a < 18446744073709551616) (A : Option Addr) (cap : Nat) (n : Nat) (hn : n < 65536) (m : Nat) (hm : m < 256) (w : World) (h : EvsIn w A cap es) :
    Calls Tryz.prog 4 #[.agg #[.string f, .int .u64 (a : Nat), .slice A es.length cap], .int .u16 (n : Nat), .int .u8 (m : Nat)] w fun r w' => r = .returned (.bool true) ∧ Below w.heap.size w w' := by
  obtain ⟨W0, hW0⟩ : ∃ W0, W0 = w.alloc (.cells #[.string f, .int .u64 (a : Nat), .slice A es.length cap] 27) := ⟨_, rfl⟩
  have hx0 : BB W0 w.heap.size f a A es.length cap := by rw [hW0]; exact heap_alloc_new w _
  have hb0 : Below w.heap.size w W0 := by rw [hW0]; exact (Below.refl _ _).alloc (Nat.le_refl _) _
  have hz0 : w.heap.size < W0.heap.size := by rw [hW0]; simp
  have HES := Lib.hid (h.later hb0)
  have HBX : Hid (∀ W, Below W0.heap.size W0 W → BB W w.heap.size f a A es.length cap) := Lib.hid fun W hW => hx0.later hW hz0
  have HFW := Lib.hid (Cn.fewlaw_any es f hfs a A cap W0 (h.later hb0))
  have HA := Lib.hid fun W => Cn.balive_any W
  have HRB := Lib.hid fun (hfew : ∀ k (hk : k < es.length), efew es[k] = true) (hflat : bvalid f a es = true → ((es.map eform).flatten).length ≤ 17592186044416) W (hW : Below W0.heap.size W0 W) => r13bytes_any es (few_all hfew) f hfs a ha hflat A cap W ((h.later hb0).later hW)
  have HGO := Lib.hid fun hv => good_of h (f := f) (a := a) hv
  have HFD := Lib.hid (fields_of h)
  have HB0 := Lib.hid hb0
  have HLN := Lib.hid hlen
  obtain ⟨c0, c1, c2, -⟩ := hx0.cells
  clear h hx0 hb0
  replace hW0 := Lib.hid hW0
  go_enter Tryz.func4, Tryz.ntmps4
  go_upto_region 1 with fail
  rw [← hW0.out]
  go_wp2_with fail
  refine HFW.out.mono ?_
  intro x w1 hfw
  obtain ⟨b, rfl, hfew, hb1⟩ := hfw
  have HB1 := Lib.hid hb1
  have HBW1 := Lib.hid (HB0.out.trans (hb1.mono HB0.out.size))
  clear hb1 c0 c1 c2
  cases b with
  | false =>
    go_wp2_with fail
    refine (HA.out _).mono ?_
    rintro x wz ⟨rfl, hbz⟩
    have HBZ := Lib.hid (HBW1.out.trans (hbz.mono HBW1.out.size))
    clear hbz
    go_wp2_with fail
    go_ret
    exact ⟨rfl, HBZ.out⟩
  | true =>
    have HFEW := Lib.hid (hfew rfl).2
    clear hfew
    obtain ⟨c0, c1, c2, -⟩ := (HBX.out w1 HB1.out).cells
    cases hval : bvalid f a es with
    | false =>
      have HR := Lib.hid (HRB.out HFEW.out (fun h => by rw [hval] at h; cases h) w1 HB1.out)
      have HVAL := Lib.hid hval
      go_wp2_with fail
      refine HR.out.mono ?_
      intro x w2 hrb
      obtain ⟨-, hno, hb2⟩ := hrb
      obtain rfl := hno HVAL.out
      have HBW2 := Lib.hid (HBW1.out.trans (hb2.mono HBW1.out.size))
      clear hb2 hno
      go_wp2_with fail
      refine (HA.out _).mono ?_
      rintro x wz ⟨rfl, hbz⟩
      have HBZ := Lib.hid (HBW2.out.trans (hbz.mono HBW2.out.size))
      clear hbz
      go_wp2_with fail
      go_ret
      exact ⟨rfl, HBZ.out⟩
    | true =>
      have hgood := HGO.out hval
      have hfew' := few_all HFEW.out
      have hel : ∀ e ∈ es, (eform e).length ≤ 30000 := fun e he => eform_len (hgood e he).1 (hgood e he).2.1 (hfew' e he)
      have hfl := flat_le hel
      obtain ⟨hbl, hbp⟩ := bform_len (a := a) (valid_size hval) HLN.out hel
      have hby := bform_byt (n := es.length) (valid_size hval) ha (by have := HLN.out; omega) hgood
      have HR := Lib.hid (HRB.out HFEW.out (fun _ => by have := HLN.out; omega) w1 HB1.out)
      have HCUT : Hid (∀ (l : List Nat), Byt l → l.length ≤ 1099511627776 → ((∃ r, r ≠ [] ∧ bform f a es.length (es.map eform) = l ++ r) ∨ (∃ r, r ≠ [] ∧ l = bform f a es.length (es.map eform) ++ r)) → pb (l, false) = none) := Lib.hid fun l hb hl h => pb_cut (r := []) hval ha (by have := HLN.out; omega) hgood hb hl h
      have HVAL := Lib.hid hval
      clear hgood hfew' hel hfl
      go_wp2_with fail
      refine HR.out.mono ?_
      intro x w2 hrb
      obtain ⟨hy, -, hb2⟩ := hrb
      obtain ⟨v2, rfl, ho2⟩ := hy HVAL.out
      have HBX2 := Lib.hid hbl; have HBY := Lib.hid hby
      generalize bform f a es.length (es.map eform) = L at *
      have HI2 := Lib.hid ho2.read
      have hbr2 := Cn.brd_own ho2
      obtain ⟨A2, cap2, hv2⟩ := hbr2.form
      subst hv2
      obtain ⟨b2, off2, rfl⟩ : ∃ b2 off2, A2 = some ⟨b2, off2, none⟩ := by
        rcases hbr2 with ⟨-, h⟩ | ⟨b2, off2, cp, h, -⟩
        · rw [h] at hbp; simp at hbp
        · injection h with h; exact ⟨b2, off2, h⟩
      have hcap : L.length ≤ cap2 ∧ cap2 ≤ maxLen := by
        rcases hbr2 with ⟨h, -⟩ | ⟨b2', off2', cp, h, h3, h4, -⟩
        · cases h
        · injection h with h1 h2 h5; subst h5; exact ⟨h3, h4⟩
      simp only [maxLen] at hcap
      have HV2 := Lib.hid hbr2
      have HB2 := Lib.hid hb2
      have HBW2 := Lib.hid (HBW1.out.trans (hb2.mono HBW1.out.size))
      clear hy hb2 ho2 hbr2 hby
      obtain ⟨q, hq⟩ : ∃ q, q = n % L.length := ⟨_, rfl⟩
      have hql : q < L.length := by rw [hq]; exact Nat.mod_lt _ hbp
      have hqi : (n : Int) % (L.length : Int) = (q : Int) := by rw [hq]; simp
      have hqt : (n : Int).tmod (L.length : Int) = (q : Int) := by rw [hq]; rfl
      have hl0 : ¬ ((L.length : Int) = 0) := by omega
      have hl0' : ((L.length : Int) == 0) = false := beq_eq_false_iff_ne.2 hl0
      have HT2 := Lib.hid (brd_take HV2.out (Nat.le_of_lt hql))
      have HTB := Lib.hid (byt_take HBY.out q)
      have HP1 := Lib.hid fun W (hW : Below w2.heap.size w2 W) => bparse_any _ (L.take q) (by rw [List.length_take]; omega) HTB.out W (HT2.out.later hW)
      have HP3 := Lib.hid fun W (hW : Below w2.heap.size w2 W) => rbparse_any _ (L.take q) (by rw [List.length_take]; omega) HTB.out W (HT2.out.later hW)
      have HN1 : Hid (pb (L.take q, false) = none) := Lib.hid (HCUT.out _ HTB.out (by rw [List.length_take]; omega) (.inl ⟨L.drop q, by intro h; have := congrArg List.length h; rw [List.length_drop] at this; simp at this; omega, (List.take_append_drop q L).symm⟩))
      clear hq hval
      go_wp2_with fail
      refine (HP1.out w2 (Below.refl _ _)).mono ?_
      intro x w3 hbp
      unfold BParse at hbp
      rw [HN1.out] at hbp
      obtain ⟨rfl, hb3⟩ := hbp
      obtain ⟨W3, hW3⟩ : ∃ W3, W3 = w3.alloc (.cells #[.string ⟨#[]⟩, .int .u64 0, .slice none 0 0] 27) := ⟨_, rfl⟩
      have HB3 : Hid (Below w2.heap.size w2 W3) := Lib.hid (by rw [hW3]; exact hb3.alloc hb3.size _)
      clear hb3
      replace hW3 := Lib.hid hW3
      go_upto_region 7 with fail
      rw [← hW3.out]
      have HCL := Lib.hid (bclone_any _ L (by omega) W3 (HI2.out.later HB3.out) (by intro h; rw [h] at hbp; simp at hbp))
      go_wp2_with fail
      refine HCL.out.mono ?_
      rintro x w4 ⟨v4, rfl, ho4, hb4⟩
      have HO4 := Lib.hid ho4
      have HB4 := Lib.hid (HB3.out.trans (hb4.mono HB3.out.size))
      have HZ4 := Lib.hid hb4.size
      clear ho4 hb4
      have HN := Lib.hid (one_byte w4 (m : Int) m rfl)
      have HLB := Lib.hid hbl
      have HB5 := Lib.hid (HB4.out.alloc HB4.out.size (.cells #[.int .u8 (m : Int)] 5))
      go_wp2_with (at_builtin; refine wpList_append_bytes _ rfl _ _ rfl W3.heap.size _ _ L [m] rfl rfl (HO4.out.later ((Below.refl _ _).alloc (Nat.le_refl _) _)) HN.out (by have := HLB.out; simp; omega) (by have := HZ4.out; simp; omega) ?_; intro v5 w5 hown5 hg5 hb5; have HO5 := Lib.hid (Cn.brd_own hown5); have HB5b := Lib.hid (HB5.out.trans (hb5.mono HB3.out.size)); clear hown5 hg5 hb5)
      have hbm : Byt (L ++ [m]) := fun b hb => by
        rcases List.mem_append.1 hb with h | h
        · exact HBY.out b h
        · rw [List.mem_singleton.1 h]; exact hm
      have hl2 : (L ++ [m]).length ≤ 1099511627776 := by rw [List.length_append]; simp; omega
      have HN2 : Hid (pb (L ++ [m], false) = none) := Lib.hid (HCUT.out _ hbm hl2 (.inr ⟨[m], by simp, rfl⟩))
      refine (bparse_any _ (L ++ [m]) hl2 hbm w5 HO5.out).mono ?_
      intro x w6 hbp
      unfold BParse at hbp
      rw [HN2.out] at hbp
      obtain ⟨rfl, hb6⟩ := hbp
      obtain ⟨W6, hW6⟩ : ∃ W6, W6 = w6.alloc (.cells #[.string ⟨#[]⟩, .int .u64 0, .slice none 0 0] 27) := ⟨_, rfl⟩
      have HB6 : Hid (Below w2.heap.size w2 W6) := Lib.hid (by rw [hW6]; exact (HB5b.out.trans (hb6.mono HB5b.out.size)).alloc (Nat.le_trans HB5b.out.size hb6.size) _)
      clear hb6 hbm hl2
      replace hW6 := Lib.hid hW6
      go_upto_region 8 with fail
      rw [← hW6.out]
      go_wp2_with fail
      refine (HP3.out W6 HB6.out).mono ?_
      intro x w7 hbp
      unfold BParse at hbp
      rw [HN1.out] at hbp
      obtain ⟨rfl, hb7⟩ := hbp
      obtain ⟨W7, hW7⟩ : ∃ W7, W7 = w7.alloc (.cells #[.string ⟨#[]⟩, .int .u64 0, .slice none 0 0] 27) := ⟨_, rfl⟩
      have HB7 : Hid (Below w2.heap.size w2 W7) := Lib.hid (by rw [hW7]; exact (HB6.out.trans (hb7.mono HB6.out.size)).alloc (Nat.le_trans HB6.out.size hb7.size) _)
      have HBW7 := Lib.hid (HBW2.out.trans (HB7.out.mono HBW2.out.size))
      clear hb7
      replace hW7 := Lib.hid hW7
      go_upto_region 9 with fail
      rw [← hW7.out]
      go_wp2_with fail
      refine (HA.out _).mono ?_
      rintro x wz ⟨rfl, hbz⟩
      have HBZ := Lib.hid (HBW7.out.trans (hbz.mono HBW7.out.size))
      clear hbz
      go_wp2_with fail
      go_ret
      exact ⟨rfl, HBZ.out⟩

set_option maxRecDepth 100000 in
open Go.ChangeShapes Go.WideShapes Go.ChangeAt Go.ChangeMaps in
theorem bcuts_open {H : Type} {enc : TypeId × Value → H} {base b1 : Nat} {spare : Nat → Bool} {held : Bool} {d0 d1 d2 : DataW H} {p0 p1 p2 : List MemPlace} (v0 v1 v2 : Value) (W : World)
    (o0 : Value.okWide Tryz.prog W .any base 27 v0) (k0 : DataW.Trod enc Tryz.prog W b1 spare held 27 v0 d0 p0)
    (o1 : Value.okWide Tryz.prog W .any base 35 v1) (k1 : DataW.Trod enc Tryz.prog W b1 spare held 35 v1 d1 p1)
    (o2 : Value.okWide Tryz.prog W .any base 5 v2) (k2 : DataW.Trod enc Tryz.prog W b1 spare held 5 v2 d2 p2) (hu : Rows.uptoSmall H [d0, d1, d2] = true) :
    Calls Tryz.prog 4 #[v0, v1, v2] W fun e w' => e = .returned (.bool true) ∧ Below W.heap.size W w' := by
  have hb := small_all hu
  simp only [Rows.uptoBulkAll] at hb
  obtain ⟨f, a, es, A, cap, rfl, hf, ha, hes, x0, x1, x2, hd, hs⟩ := batch_shape v0 W o0 k0
  obtain ⟨n, rfl, rfl, rfl, w1⟩ := open_int Tryz.underlying35 o1 k1
  obtain ⟨m, rfl, rfl, rfl, w2⟩ := open_int Tryz.underlying5 o2 k2
  simp [Lit.wf, IntKind.min, IntKind.max, IntKind.bits, IntKind.signed] at w1 w2
  obtain ⟨n', rfl⟩ : ∃ n' : Nat, n = n' := ⟨n.toNat, by omega⟩
  obtain ⟨m', rfl⟩ : ∃ m' : Nat, m = m' := ⟨m.toNat, by omega⟩
  exact bcuts_walk es (small_len hd hs (by omega)) f hf a ha A cap n' (by omega) m' (by omega) W hes
end Rd
end Go.Proofs.YtcbddebmmaflgaaGreat
