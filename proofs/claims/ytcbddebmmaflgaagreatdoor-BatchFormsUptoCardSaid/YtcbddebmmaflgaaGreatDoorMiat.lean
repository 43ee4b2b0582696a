/- Bytes read as a string. -/
/- Texts: value.Text of kinds 0 and 3, quoted, small numbers. -/
/- Forms of events: event.Bytes of any valid small event; no form is the beginning of another. -/
/- batch.Bytes: rows of byte slices; the walk. -/
/- batch.Bytes: the walk. -/
/- slices.Equal of bytes; clockworklaw13's alive. -/
/- The reference's forms of numbers and bytes. -/
import Derived.Test.YtcbddebmmaflgaaGreatDoorMias
import Derived.Lib.BufferRead
import Derived.Lib.AtoiErrMem
import Derived.Test.YtcbddebmmaflgaaGreatDoorMiam
import Derived.Test.YtcbddebmmaflgaaGreatDoorMiai
import Derived.BigQuiet
namespace Go.Proofs.YtcbddebmmaflgaaGreatDoor
open Go.RowKit
set_option linter.unusedVariables false
namespace Bt
open _root_.Go.Proofs.YtcbddebmmaflgaaGreatDoor.Nm (ret_int ret_bool)
open Vt (VT Rep BoxAt below_drew)
open Ev (take_drop tk cons_drop)

/-- Bytes read as a string. -/
theorem BIn.toText {w : World} {v : Value} {l : List Nat} (h : BIn w v l) (hb : ∀ b ∈ l, b < 256) : (convert 22 9 v).run Tryz.prog w = .ok (.string ⟨(l.map UInt8.ofNat).toArray⟩) w := by
  rcases h with ⟨rfl, rfl⟩ | ⟨ad, cap, rfl, h2, h3, h4, h5⟩
  · exact Lib.run_convert_nil_bytes w _ _ 5 0 Tryz.underlying22 Tryz.underlying5 Tryz.underlying9
  · have := run_convert_bytes_back (P := Tryz.prog) w 22 9 5 ad cap (l.map UInt8.ofNat) Tryz.underlying22 Tryz.underlying5 Tryz.underlying9 (fun j hj => by
      have hj' : j < l.length := by simpa using hj
      have h6 := h5 j (bv l[j]) (by simp [hj'])
      rw [h6]
      have h7 : l[j] < 256 := hb _ (List.getElem_mem hj')
      simp only [bv, List.getElem_map, UInt8.toNat_ofNat']
      rw [Nat.mod_eq_of_lt (by omega)])
    rw [List.length_map] at this
    exact this

end Bt
end Go.Proofs.YtcbddebmmaflgaaGreatDoor
namespace Go.Proofs.YtcbddebmmaflgaaGreatDoor
open Go.RowKit
set_option linter.unusedVariables false
namespace Bt
open _root_.Go.Proofs.YtcbddebmmaflgaaGreatDoor.Nm (ret_int ret_bool)
open Vt (VT Rep BoxAt below_drew)
open Ev (take_drop tk cons_drop)

theorem none_text (vn : Int) (vf : Nat) (vs : ByteArray) (A : Option Addr) (m c k : Nat) (w : World) :
    Calls Tryz.prog 188 #[.agg #[], .agg #[.int .i64 k, .int .i64 vn, .float .f64 vf, .string vs, .slice A m c]] w fun e w' => e = .returned (.string ⟨#[110, 105, 108]⟩) ∧ Below w.heap.size w w' := by
  go_enter Tryz.func188, Tryz.ntmps188
  go_wp2_with fail
  go_ret
  exact ⟨rfl, ((Below.refl _ _).alloc (Nat.le_refl _) _).alloc (by simp) _⟩

end Bt
end Go.Proofs.YtcbddebmmaflgaaGreatDoor
namespace Go.Proofs.YtcbddebmmaflgaaGreatDoor
open Go.RowKit
set_option linter.unusedVariables false
set_option linter.unusedSimpArgs false
namespace Vf
open _root_.Go.Proofs.YtcbddebmmaflgaaGreatDoor.Nm (bitsW ret_int ret_bool)
open Bt (BOwn BIn ubytes sb uint_any sel ebytes_walk)
open Pf (zz zz_lt be8 sform size_zero)
open Vt (VT Rep BoxAt below_drew KidsAt HeadOk)
open Ev (EV FieldsOk evCells vCells EBox ERep zeroT fieldsOf nameOf of_in evalid_any goodL pickB)
open Cm (evSame)

/-- Which fields an event's kind has. -/
def hasF (e : EV) (j : Nat) : Bool := (fieldsOf e.k.toNat).contains j
/-- The form of a valid event. -/
def eform (e : EV) : List Nat := [1] ++ ubytes 10 e.k.toNat ++ sel [hasF e 0, hasF e 1, hasF e 2, hasF e 3, hasF e 4, hasF e 5] [ubytes 10 e.id, ubytes 10 e.n.toNat, ubytes 10 e.at', sform e.name, sform e.text, Pf.VT.form e.v] 6

/-- What is valid. -/
structure VE (e : EV) : Prop where
  k1 : 1 ≤ e.k
  k2 : e.k ≤ 11
  i0 : hasF e 0 = false → e.id = 0
  i1 : hasF e 0 = true → 0 < e.id
  n0 : hasF e 1 = false → e.n = 0
  n1 : 0 ≤ e.n
  n2 : e.n ≤ 2147483647
  n3 : hasF e 1 = true → 1 ≤ e.n
  a0 : hasF e 2 = false → e.at' = 0
  a1 : e.at' ≤ 9223372036854775807
  s0 : hasF e 3 = false → e.name = ⟨#[]⟩
  s1 : e.name.size ≤ 1000
  s2 : hasF e 3 = true → e.name.toList.isEmpty = false
  t0 : hasF e 4 = false → e.text = ⟨#[]⟩
  t1 : e.text.size ≤ 1000
  v0 : hasF e 5 = false → e.v.same zeroT = true
  v1 : e.v.valid 8 = true

theorem toList_nil {s : ByteArray} (h : s.toList.isEmpty = true) : s = ⟨#[]⟩ := by
  rw [Vt.toList_data] at h
  cases s with | mk d => simp at h; rw [h]
theorem zero_val : zeroT.valid 8 = true := by unfold zeroT; rw [Vt.valid_mk]; simp; decide
theorem ve_of {e : EV} (h : e.valid = true) : VE e := by
  unfold EV.valid goodL at h
  simp only [Bool.and_eq_true, decide_eq_true_iff, List.all_cons, List.all_nil, Bool.and_true] at h
  obtain ⟨⟨k1, k2⟩, h0, h1, h2, h3, h4, h5⟩ := h
  have pick : ∀ {b f z : Bool}, pickB b f z = true → (b = true → f = true) ∧ (b = false → z = true) := fun {b f z} hh => by
    unfold pickB at hh
    cases b with
    | true => rw [if_pos rfl] at hh; exact ⟨fun _ => hh, fun h => Bool.noConfusion h⟩
    | false => rw [if_neg (by simp)] at hh; exact ⟨fun h => Bool.noConfusion h, fun _ => hh⟩
  obtain ⟨p0, q0⟩ := pick h0
  obtain ⟨p1, q1⟩ := pick h1
  obtain ⟨p2, q2⟩ := pick h2
  obtain ⟨p3, q3⟩ := pick h3
  obtain ⟨p4, q4⟩ := pick h4
  obtain ⟨p5, q5⟩ := pick h5
  have e1 : ∀ b : Bool, b = true ∨ b = false := fun b => by cases b <;> simp
  have fn : ∀ h : hasF e 1 = false, e.n = 0 := fun h => by have := q1 h; simpa using this
  have tn : ∀ h : hasF e 1 = true, 1 ≤ e.n ∧ e.n ≤ 2147483647 := fun h => by have := p1 h; simpa using this
  have fs : ∀ h : hasF e 3 = false, e.name = ⟨#[]⟩ := fun h => toList_nil (q3 h)
  have ts : ∀ h : hasF e 3 = true, e.name.toList.isEmpty = false ∧ e.name.size ≤ 1000 := fun h => by
    have := p3 h
    simp only [Bool.and_eq_true, Bool.not_eq_true', decide_eq_true_iff] at this
    exact this
  have ft : ∀ h : hasF e 4 = false, e.text = ⟨#[]⟩ := fun h => toList_nil (q4 h)
  refine ⟨k1, k2, fun h => by have := q0 h; simpa using this, fun h => by have := p0 h; simpa using this, fn, ?_, ?_, fun h => (tn h).1, fun h => by have := q2 h; simpa using this, ?_, fs, ?_, fun h => (ts h).1, ft, ?_, fun h => q5 h, ?_⟩
  · rcases e1 (hasF e 1) with h | h
    · have := tn h; omega
    · rw [fn h]; omega
  · rcases e1 (hasF e 1) with h | h
    · exact (tn h).2
    · rw [fn h]; omega
  · rcases e1 (hasF e 2) with h | h
    · have := p2 h; simpa using this
    · have : e.at' = 0 := by have := q2 h; simpa using this
      omega
  · rcases e1 (hasF e 3) with h | h
    · exact (ts h).2
    · rw [fs h]; decide
  · rcases e1 (hasF e 4) with h | h
    · have := p4 h; simpa using this
    · rw [ft h]; decide
  · rcases e1 (hasF e 5) with h | h
    · exact p5 h
    · rw [Vt.same_valid e.v zeroT 8 (q5 h)]; exact zero_val

theorem ebytes_any (e : EV) (hval : e.valid = true) (hf : FieldsOk e) (hfew : e.v.few = true) (lo hi : Nat) (vk vn : Int) (vf : Nat) (vs : ByteArray) (A : Option Addr) (m c : Nat) (w : World) (hv : Rep w lo hi e.v (vCells vk vn vf vs A m c)) (hz : hi ≤ w.heap.size) :
    Calls Tryz.prog 14 #[.agg (evCells e vk vn vf vs A m c)] w fun r w' => ∃ v, r = .returned (.tuple #[v, .bool true]) ∧ BOwn w' w.heap.size v (eform e) ∧ Below w.heap.size w w' := by
  have V := ve_of hval
  have hev := fun W (hW : Below w.heap.size w W) => evalid_any e W lo hi _ ⟨hf, vk, vn, vf, vs, A, m, c, rfl, hv.later (hW.mono hz)⟩ (Nat.le_trans hz hW.size)
  obtain ⟨kn, hkn⟩ : ∃ kn : Nat, e.k = kn := ⟨e.k.toNat, by have := V.k1; omega⟩
  obtain ⟨nn, hnn⟩ : ∃ nn : Nat, e.n = nn := ⟨e.n.toNat, by have := V.n1; omega⟩
  have k1 := V.k1; have k2 := V.k2; have n2 := V.n2
  have hkt : e.k.toNat = kn := by omega
  have hnt : e.n.toNat = nn := by omega
  unfold eform hasF
  rw [hkt, hnt]
  unfold evCells at hev ⊢
  rw [hkn, hnn] at hev ⊢
  exact ebytes_walk kn e.id nn e.at' e.name e.text (by omega) hf.i1 (by omega) hf.a1 V.s1 V.t1 vk vn vf vs A m c (nameOf kn) ((fieldsOf kn).contains 0) ((fieldsOf kn).contains 1) ((fieldsOf kn).contains 2) ((fieldsOf kn).contains 3) ((fieldsOf kn).contains 4) ((fieldsOf kn).contains 5) (Pf.VT.form e.v) (by have := form_len_few hfew; omega) w
    (fun W hW => (hev W hW).mono fun r w' h => by rw [hval] at h; exact h)
    (fun W => of_in kn (by omega) (by omega) W)
    (fun W hW => vbytes_any e.v hfew lo hi vk vn vf vs A m c W (hv.later (hW.mono hz)) (Nat.le_trans hz hW.size) V.v1)

theorem sel6 (b0 b1 b2 b3 b4 b5 : Bool) (p0 p1 p2 p3 p4 p5 : List Nat) : sel [b0, b1, b2, b3, b4, b5] [p0, p1, p2, p3, p4, p5] 6 = (if b0 then p0 else []) ++ ((if b1 then p1 else []) ++ ((if b2 then p2 else []) ++ ((if b3 then p3 else []) ++ ((if b4 then p4 else []) ++ (if b5 then p5 else []))))) := by simp [sel]
theorem evSame_parts {a b : EV} (h : evSame a b = true) : a.k = b.k ∧ a.id = b.id ∧ a.n = b.n ∧ a.at' = b.at' ∧ a.name = b.name ∧ a.text = b.text ∧ a.v.same b.v = true := by
  simp only [evSame, Bool.and_eq_true, beq_iff_eq, decide_eq_true_iff] at h
  obtain ⟨⟨⟨⟨⟨⟨h1, h2⟩, h3⟩, h4⟩, h5⟩, h6⟩, h7⟩ := h
  exact ⟨h1, h2, h3, h4, h5, h6, h7⟩
end Vf
end Go.Proofs.YtcbddebmmaflgaaGreatDoor
namespace Go.Proofs.YtcbddebmmaflgaaGreatDoor
open Go.RowKit
set_option linter.unusedVariables false
set_option linter.unusedSimpArgs false
namespace Cn
open _root_.Go.Proofs.YtcbddebmmaflgaaGreatDoor.Nm (bitsW ret_int ret_bool)
open Vt (VT Rep BoxAt below_drew put5 KidsAt HeadOk)
open Ev (EV FieldsOk evCells vCells EBox ERep zeroT take_drop tk cons_drop)
open Cm (rowOf EvsIn EvsAt EvNew evsSame evSame)
open Bt (BOwn BIn PIn ubytes sb bv concat_any btext_any uint_any)

/-- The forms of events, as contracts. -/
def EvBytes (es : List EV) (bs : List (List Nat)) : Prop := bs.length = es.length ∧ ∀ i (h : i < es.length) (h' : i < bs.length) (lo hi : Nat) (vk vn : Int) (vf : Nat) (vs : ByteArray) (A : Option Addr) (m c : Nat) (w : World), FieldsOk es[i] → Rep w lo hi es[i].v (vCells vk vn vf vs A m c) → hi ≤ w.heap.size →
  Calls Tryz.prog 14 #[.agg (evCells es[i] vk vn vf vs A m c)] w fun r w' => ∃ v, r = .returned (.tuple #[v, .bool true]) ∧ BOwn w' w.heap.size v bs[i] ∧ Below w.heap.size w w'

set_option maxRecDepth 100000 in
theorem bfn_any (e : EV) (l : List Nat) (vk vn : Int) (vf : Nat) (vs : ByteArray) (A : Option Addr) (m c : Nat) (w : World) (hB : ∀ W, Below w.heap.size w W → Calls Tryz.prog 14 #[.agg (evCells e vk vn vf vs A m c)] W fun r w' => ∃ v, r = .returned (.tuple #[v, .bool true]) ∧ BOwn w' W.heap.size v l ∧ Below W.heap.size W w') :
    Calls Tryz.prog 68 #[.agg (evCells e vk vn vf vs A m c)] w fun r w' => ∃ v, r = .returned v ∧ BOwn w' w.heap.size v l ∧ Below w.heap.size w w' := by
  obtain ⟨W0, hW0⟩ : ∃ W0, W0 = w.alloc (.cells (evCells e vk vn vf vs A m c) 32) := ⟨_, rfl⟩
  have hb0 : Below w.heap.size w W0 := by rw [hW0]; exact (Below.refl _ _).alloc (Nat.le_refl _) _
  have hx0 : EBox W0 w.heap.size (evCells e vk vn vf vs A m c) := by rw [hW0]; exact box_ev ..
  have HV := Lib.hid (hB W0 hb0)
  obtain ⟨g0, g1, g2, g3, g4, g5, g6, g7, g8, g9, g10⟩ := EBox.cells hx0
  have HB0 := Lib.hid hb0
  clear hB hx0 hb0
  unfold evCells at HV hW0 ⊢
  replace hW0 := Lib.hid hW0
  go_enter Tryz.func68, Tryz.ntmps68
  go_upto_region 1 with fail
  rw [← hW0.out]
  go_wp2_with fail
  refine HV.out.mono ?_
  rintro x w1 ⟨v, rfl, ho, hb1⟩
  have HO := Lib.hid (ho.base HB0.out.size)
  have HB1 := Lib.hid (HB0.out.trans (hb1.mono HB0.out.size))
  clear hb1 ho g0 g1 g2 g3 g4 g5 g6 g7 g8 g9 g10
  go_wp2_with fail
  go_ret
  exact ⟨v, rfl, HO.out, HB1.out⟩

/-- A row of byte slices of the call's own; each slice lies apart from the row. -/
def PRow (w : World) (base : Nat) (A : Option Addr) (cap n : Nat) (ls : List (List Nat)) : Prop := ls.length = n ∧ ∃ xs, w.ownsRow base 22 1 (.slice A n cap) n xs ∧ ∀ i (h : i < ls.length), ∃ v, xs[i]? = some v ∧ BIn w v ls[i] ∧ ∀ k, v.ownBlock = some k → rowOf A ≠ some k

theorem prow_nil (w : World) (base : Nat) : PRow w base none 0 0 [] := ⟨rfl, [], ⟨rfl, .inl ⟨rfl, rfl⟩⟩, fun i h => absurd h (by simp)⟩
theorem bin_block {w : World} {v : Value} {l : List Nat} (h : BIn w v l) : ∀ k, v.ownBlock = some k → k < w.heap.size := by
  intro k hk
  rcases h with ⟨rfl, -⟩ | ⟨ad, cap, rfl, h1, h2, h3, h4⟩
  · cases hk
  · cases hk; exact h3
theorem bin_keep {w w' : World} {v : Value} {l : List Nat} (h : BIn w v l) (hz : w.heap.size ≤ w'.heap.size) (hk : ∀ k, v.ownBlock = some k → w'.heap[k]? = w.heap[k]?) : BIn w' v l := by
  rcases h with h | ⟨ad, cap, rfl, h1, h2, h3, h4⟩
  · exact .inl h
  · exact .inr ⟨ad, cap, rfl, h1, h2, Nat.lt_of_lt_of_le h3 hz, fun j u hu => (World.cell?_of_block (a := ad.add j) (by rw [Bt.block_add]; exact hk _ rfl)).trans (h4 j u hu)⟩
theorem PRow.pin {w : World} {base : Nat} {A : Option Addr} {cap n : Nat} {ls : List (List Nat)} (h : PRow w base A cap n ls) : PIn w A cap ls := by
  obtain ⟨rfl, xs, h1, h3⟩ := h
  rcases h1.2 with ⟨hv, h0⟩ | ⟨r, cp, cur, q1, q2, q3, q4, q5, q6, q7⟩
  · injection hv with hA hn hc
    exact ⟨by omega, by rw [hc]; exact Nat.zero_le _, fun hp => absurd hp (by omega)⟩
  · injection q1 with hA hn hc
    subst hc
    refine ⟨q4, q5, fun hp => ⟨r, 0, hA, (Array.getElem?_eq_some_iff.1 q3).1, fun i hi => ?_⟩⟩
    obtain ⟨v, k1, k2, -⟩ := h3 i hi
    refine ⟨v, ?_, k2⟩
    rw [← k1, ← q7, List.getElem?_take_of_lt (by omega), Array.getElem?_toList]
    simp [World.cell?, q3]
theorem PRow.push {W w' : World} {base r H : Nat} {A : Option Addr} {cap cap' n : Nat} {ls : List (List Nat)} {l : List Nat} {xs : List Value} {v : Value}
    (hlen : ls.length = n) (hlx : xs.length = n) (hx : ∀ i (h : i < ls.length), ∃ v, xs[i]? = some v ∧ BIn W v ls[i] ∧ ∀ k, v.ownBlock = some k → rowOf A ≠ some k) (hv : BIn W v l) (hrr : ∀ k, v.ownBlock = some k → rowOf A ≠ some k)
    (hown : w'.ownsRow base 22 1 (.slice (some ⟨r, 0, none⟩) (n + 1) cap') (n + 1) (xs ++ [v])) (hgrow : W.grownBy w' (rowOf A)) (hat : rowOf A = some r ∨ r = H) (hH : W.heap.size ≤ H) :
    PRow w' base (some ⟨r, 0, none⟩) cap' (n + 1) (ls ++ [l]) := by
  have key : ∀ (v : Value) (l : List Nat), BIn W v l → (∀ k, v.ownBlock = some k → rowOf A ≠ some k) → BIn w' v l ∧ ∀ k, v.ownBlock = some k → rowOf (some ⟨r, 0, none⟩) ≠ some k := fun v l h1 h2 => by
    refine ⟨bin_keep h1 hgrow.size (fun k hk => hgrow.block k (bin_block h1 k hk) (fun e => h2 k hk e.symm)), fun k hk e => ?_⟩
    obtain rfl : r = k := Option.some.inj e
    rcases hat with h | h
    · exact h2 r hk h
    · have := bin_block h1 r hk; omega
  refine ⟨by simp [hlen], _, hown, fun i hil => ?_⟩
  simp at hil
  by_cases hlt : i < ls.length
  · rw [List.getElem_append_left hlt]
    obtain ⟨u, k1, k2, k3⟩ := hx i hlt
    obtain ⟨z1, z2⟩ := key u _ k2 k3
    exact ⟨u, (List.getElem?_append_left (by omega)).trans k1, z1, z2⟩
  · obtain rfl : i = ls.length := by omega
    rw [List.getElem_append_right (Nat.le_refl _)]
    simp only [Nat.sub_self, List.getElem_cons_zero]
    obtain ⟨z1, z2⟩ := key v _ hv hrr
    exact ⟨v, by rw [List.getElem?_append_right (by omega), hlx, hlen, Nat.sub_self]; rfl, z1, z2⟩

theorem Tryz.infoY : (Tryz.prog.info? 22).map (fun i => (i.zero, i.size, i.bytes)) = some (some (.slice none 0 0), 1, 24) := by kernel_rfl

theorem slice_one {w : World} {v : Value} {l : List Nat} (h : BIn w v l) : v.oneCell' = true := by
  rcases h with ⟨rfl, -⟩ | ⟨ad, cap, rfl, -⟩ <;> rfl

set_option maxRecDepth 100000 in
set_option maxHeartbeats 2000000 in
theorem mappedb_any (es : List EV) (hl40 : es.length ≤ 1099511627775) (bs : List (List Nat)) (hEB : EvBytes es bs) (A : Option Addr) (cap : Nat) (w : World) (h : EvsIn w A cap es) :
    Calls Tryz.prog 67 #[.slice A es.length cap, .func (.func 68) #[] #[]] w fun r w' => ∃ A2 cap2, r = .returned (.slice A2 es.length cap2) ∧ Below w.heap.size w w' ∧ PRow w' w.heap.size A2 cap2 es.length bs := by
  have hl := h.le
  have hc := h.cap_le
  simp only [maxLen] at hc
  obtain ⟨i0, hi0, hz0, hz1, hz2⟩ := info_parts Tryz.infoY
  have HK := Lib.hid h; clear h
  have hbl := hEB.1
  have HE := Lib.hid hEB.2
  clear hEB
  go_enter Tryz.func67, Tryz.ntmps67
  go_wp2_with fail
  go_loopw [5, 10] (fun out i wr => ∃ (j : Nat) (A2 : Option Addr) (cap2 : Nat), j ≤ es.length ∧ i = .int .i64 j ∧ out = .slice A2 j cap2 ∧ PRow wr w.heap.size A2 cap2 j (bs.take j) ∧ Below w.heap.size w wr) (fun _ i _ => es.length - (intOf i).toNat)
  case atStart => exact ⟨0, none, 0, by omega, rfl, rfl, by simpa using prow_nil w w.heap.size, Below.refl _ _⟩
  case round =>
    obtain ⟨j, A2, cap2, hj, rfl, rfl, hrow, hb⟩ := hrel
    by_cases hlt : j < es.length
    · obtain ⟨b, off, lo, hi, vk, vn, vf, vs, A', m, c, rfl, hbl', hf, hv0, hhi0, e0, e1, e2, e3, e4, e5, e6, e7, e8, e9, e10⟩ := HK.out.get j hlt
      have HB := Lib.hid hb
      have hbs := hb.size
      have hcw : ∀ o, wr.cell? ⟨b, o, none⟩ = w.cell? ⟨b, o, none⟩ := fun o => HB.out.cell (p := ⟨b, o, none⟩) hbl'
      have d0 := (hcw _).trans e0; have d1 := (hcw _).trans e1; have d2 := (hcw _).trans e2; have d3 := (hcw _).trans e3; have d4 := (hcw _).trans e4; have d5 := (hcw _).trans e5; have d6 := (hcw _).trans e6; have d7 := (hcw _).trans e7; have d8 := (hcw _).trans e8; have d9 := (hcw _).trans e9; have d10 := (hcw _).trans e10
      have hv := hv0.later (HB.out.mono hhi0)
      have hhi : hi ≤ wr.heap.size := Nat.le_trans hhi0 hbs
      clear e0 e1 e2 e3 e4 e5 e6 e7 e8 e9 e10 hcw hv0 hb
      obtain ⟨W1, hW1⟩ : ∃ W1, W1 = wr.alloc (.cells (evCells es[j] vk vn vf vs A' m c) 32) := ⟨_, rfl⟩
      have hb1 : Below wr.heap.size wr W1 := by rw [hW1]; exact (Below.refl _ _).alloc (Nat.le_refl _) _
      have hx1 : EBox W1 wr.heap.size (evCells es[j] vk vn vf vs A' m c) := by rw [hW1]; exact box_ev ..
      obtain ⟨g0, g1, g2, g3, g4, g5, g6, g7, g8, g9, g10⟩ := EBox.cells hx1
      have hjb : j < bs.length := by omega
      have HC := Lib.hid (bfn_any es[j] bs[j] vk vn vf vs A' m c W1 (fun W hW => HE.out j hlt hjb lo hi vk vn vf vs A' m c W hf ((hv.later (hb1.mono hhi)).later (hW.mono (Nat.le_trans hhi hb1.size))) (Nat.le_trans hhi (Nat.le_trans hb1.size hW.size))))
      have HF := Lib.hid hf; have HB1 := Lib.hid hb1
      obtain ⟨hlen, xs, hxo, hxe⟩ := hrow
      have hlx : xs.length = j := by have := hxo.1; omega
      have HOWN : Hid (∀ W, Below wr.heap.size wr W → W.ownsRow w.heap.size 22 1 (.slice A2 j cap2) j xs) := Lib.hid fun W hW => own_keep hxo hW
      have HRO := Lib.hid (own_lt hxo)
      have HXE := Lib.hid hxe
      unfold evCells at HC hW1
      replace hW1 := Lib.hid hW1
      clear hxe hxo hf hv hx1 hb1
      go_upto_region 5 with fail
      rw [← hW1.out]
      clear d0 d1 d2 d3 d4 d5 d6 d7 d8 d9 d10
      go_wp2_with fail
      refine HC.out.mono ?_
      rintro x w2 ⟨v, rfl, ho, hb2⟩
      obtain ⟨Av, cv, rfl⟩ := ho.read.form
      generalize hnb : bs[j].length = nb at *
      obtain ⟨v, hv⟩ : ∃ v, v = Value.slice Av nb cv := ⟨_, rfl⟩
      rw [← hv] at ho
      have HVV := Lib.hid hv
      clear hnb
      have HB2 : Hid (Below wr.heap.size wr w2) := Lib.hid (HB1.out.trans (hb2.mono HB1.out.size))
      have h1c := slice_one ho.read
      obtain ⟨W4, hW4⟩ : ∃ W4, W4 = w2.alloc (.cells #[v] 22) := ⟨_, rfl⟩
      have hW4' := hW4
      rw [hv] at hW4'
      have K1 : Hid (Below wr.heap.size wr W4) := Lib.hid (by rw [hW4]; exact HB2.out.alloc HB2.out.size _)
      have K2 : Hid (∀ q u, [v][q]? = some u → W4.cell? ((⟨w2.heap.size, 0, none⟩ : Addr).add q) = some u) := Lib.hid (World.news_of_block (cs := #[v]) (t := 22) (fr := (0, 0)) (by rw [hW4]; exact heap_alloc_new w2 _))
      have K3 : Hid (BIn W4 v bs[j]) := Lib.hid (by rw [hW4]; exact ho.read.later ((Below.refl _ _).alloc (Nat.le_refl _) _))
      have K4 : Hid (∀ k, v.ownBlock = some k → rowOf A2 ≠ some k) := Lib.hid fun k hk e => by
        have h1 := ho.row_ge k hk
        have h2 := (HRO.out k e).1
        have h3 := HB1.out.size
        omega
      have KO := Lib.hid (HOWN.out _ K1.out)
      have hbs4 := Nat.le_trans hbs K1.out.size
      have hw1s := HB1.out.size
      replace hW4 := Lib.hid hW4'
      rw [hv] at K2 h1c
      clear hW4' hv
      clear ho hb2 g0 g1 g2 g3 g4 g5 g6 g7 g8 g9 g10
      go_wp2_with (at_builtin; rw [← hW4.out]; refine wpList_append_lies _ rfl _ _ 98 rfl w.heap.size 22 i0 _ 1 24 Tryz.underlying98 hi0 hz0 hz1 hz2 rfl (by decide) (.slice A2 j cap2) j xs rfl KO.out ⟨w2.heap.size, 0, none⟩ 1 1 [.slice Av nb cv] rfl rfl K2.out (by intro u hu; rw [List.mem_singleton.1 hu]; exact h1c) (by decide) (by simp only [maxLen]; omega) (by omega) hbs4 _ rfl ?_; intro r2 cap4 w5 hown5 hgrow5 hat5 hrl5)
      rw [Cm.rowOf_own] at hgrow5 hat5
      rw [← HVV.out] at hown5
      have HP : Hid (PRow w5 w.heap.size (some ⟨r2, 0, none⟩) cap4 (j + 1) (bs.take (j + 1))) := Lib.hid (by
        rw [List.take_succ_eq_append_getElem hjb]
        exact PRow.push (cap := 0) (H := W4.heap.size) hlen hlx (fun i h => by
          obtain ⟨u, k1, k2, k3⟩ := HXE.out i h
          exact ⟨u, k1, k2.later K1.out, k3⟩) K3.out K4.out hown5 hgrow5 hat5 (Nat.le_refl _))
      have HB5 : Hid (Below w.heap.size w w5) := Lib.hid ((HB.out.trans (K1.out.mono hbs)).trans ⟨hgrow5.os, hgrow5.tape, hgrow5.output, hgrow5.size, fun b hb => hgrow5.block b (by omega) (fun e => by have := (HRO.out b e.symm).2; omega)⟩)
      clear hown5 hgrow5 hat5
      exact ⟨⟨j + 1, _, cap4, by omega, by go_num, rfl, HP.out, HB5.out⟩, by simp [intOf]; omega⟩
    · have hj' : j = es.length := by omega
      subst hj'
      rw [List.take_of_length_le (by omega)] at hrow
      have HE := Lib.hid hrow; have HB := Lib.hid hb
      clear hrow hb
      go_wp2_with fail
      go_ret
      exact ⟨A2, cap2, rfl, HB.out, HE.out⟩

/-- The form of a batch. -/
def bform (f : ByteArray) (at' n : Nat) (bs : List (List Nat)) : List Nat := (ubytes 10 f.size ++ sb f) ++ (ubytes 10 at' ++ (ubytes 10 n ++ bs.flatten))

theorem bbytes_no (es : List EV) (f : ByteArray) (hfs : f.size ≤ maxLen) (at' : Nat) (hat : at' < 18446744073709551616) (A : Option Addr) (cap : Nat) (w : World) (h : EvsIn w A cap es) (hval : bvalid f at' es = false) :
    Calls Tryz.prog 22 #[.agg #[.string f, .int .u64 at', .slice A es.length cap]] w fun r w' => r = .returned (.tuple #[.slice none 0 0, .bool false]) ∧ Below w.heap.size w w' := by
  obtain ⟨W0, hW0⟩ : ∃ W0, W0 = w.alloc (.cells #[.string f, .int .u64 at', .slice A es.length cap] 49) := ⟨_, rfl⟩
  have hx0 : BB W0 w.heap.size f at' A es.length cap := by rw [hW0]; exact heap_alloc_new w _
  have hb0 : Below w.heap.size w W0 := by rw [hW0]; exact (Below.refl _ _).alloc (Nat.le_refl _) _
  have HV := Lib.hid (bvalid_any es f hfs at' hat A cap W0 (h.later hb0))
  rw [hval] at HV
  obtain ⟨c0, c1, c2, -⟩ := hx0.cells
  have HB0 := Lib.hid hb0
  replace hW0 := Lib.hid hW0
  clear h hx0 hb0
  go_enter Tryz.func22, Tryz.ntmps22
  go_upto_region 1 with fail
  rw [← hW0.out]
  go_wp2_with fail
  refine HV.out.mono ?_
  rintro x w1 ⟨rfl, hb1⟩
  have HB1 := Lib.hid (HB0.out.trans (hb1.mono HB0.out.size))
  clear hb1
  go_wp2_with fail
  exact bodyPost_ret (v := .tuple #[.slice none 0 0, .bool false]) (by simp [results, Tryz.results22, go_sem]) rfl ⟨rfl, HB1.out⟩

end Cn
end Go.Proofs.YtcbddebmmaflgaaGreatDoor
namespace Go.Proofs.YtcbddebmmaflgaaGreatDoor
open Go.RowKit
set_option linter.unusedVariables false
set_option linter.unusedSimpArgs false
namespace Cn
open _root_.Go.Proofs.YtcbddebmmaflgaaGreatDoor.Nm (bitsW ret_int ret_bool)
open Vt (VT Rep BoxAt below_drew put5 KidsAt HeadOk)
open Ev (EV FieldsOk evCells vCells EBox ERep zeroT take_drop tk cons_drop)
open Cm (rowOf EvsIn EvsAt EvNew evsSame evSame)
open Bt (BOwn BIn PIn ubytes sb bv concat_any btext_any uint_any)

theorem slice_form {w : World} {base : Nat} {v : Value} {l : List Nat} (h : BOwn w base v l) : ∃ A n cap, v = .slice A n cap := by
  obtain ⟨A, cap, e⟩ := h.read.form
  exact ⟨A, _, cap, e⟩

set_option maxRecDepth 100000 in
set_option maxHeartbeats 4000000 in
theorem bbytes_any (es : List EV) (hl40 : es.length ≤ 1099511627775) (bs : List (List Nat)) (hEB : EvBytes es bs) (hflat : bs.flatten.length ≤ 17592186044416) (f : ByteArray) (at' : Nat) (hat : at' < 18446744073709551616) (A : Option Addr) (cap : Nat) (w : World) (h : EvsIn w A cap es) (hval : bvalid f at' es = true) :
    Calls Tryz.prog 22 #[.agg #[.string f, .int .u64 at', .slice A es.length cap]] w fun r w' => ∃ v, r = .returned (.tuple #[v, .bool true]) ∧ BOwn w' w.heap.size v (bform f at' es.length bs) ∧ Below w.heap.size w w' := by
  have hfz : f.size ≤ 1000 := by
    unfold bvalid at hval
    simp only [Bool.and_eq_true, decide_eq_true_iff] at hval
    exact hval.1.1.1.2
  obtain ⟨W0, hW0⟩ : ∃ W0, W0 = w.alloc (.cells #[.string f, .int .u64 at', .slice A es.length cap] 49) := ⟨_, rfl⟩
  have hx0 : BB W0 w.heap.size f at' A es.length cap := by rw [hW0]; exact heap_alloc_new w _
  have hb0 : Below w.heap.size w W0 := by rw [hW0]; exact (Below.refl _ _).alloc (Nat.le_refl _) _
  have hz0 : W0.heap.size = w.heap.size + 1 := by rw [hW0]; simp
  have HV := Lib.hid (bvalid_any es f (by simp only [maxLen]; omega) at' hat A cap W0 (h.later hb0))
  rw [hval] at HV
  have HM := Lib.hid fun W (hW : Below W0.heap.size W0 W) => mappedb_any es hl40 bs hEB A cap W ((h.later hb0).later hW)
  have hbl := hEB.1
  obtain ⟨c0, c1, c2, -⟩ := hx0.cells
  have HX0 := Lib.hid hx0; have HB0 := Lib.hid hb0
  have HT := Lib.hid fun W => btext_any f (by omega) W
  have HU := Lib.hid fun W x hx => uint_any x hx W
  have hn64 : es.length < 18446744073709551616 := by omega
  have HWR : Hid (IntKind.u64.wrap (es.length : Int) = (es.length : Int)) := Lib.hid (IntWalk.u64_in _ (by omega))
  have hsum : ([ubytes 10 f.size ++ sb f, ubytes 10 at', ubytes 10 es.length, bs.flatten] : List (List Nat)).flatten.length ≤ 35184372088832 := by
    have h1 := Bt.ubytes_len 10 f.size
    have h2 := Bt.ubytes_len 10 at'
    have h3 := Bt.ubytes_len 10 es.length
    have h4 := Bt.sb_len f
    simp only [List.flatten_cons, List.flatten_nil, List.length_append, List.length_nil]
    omega
  have hlen4 : ([ubytes 10 f.size ++ sb f, ubytes 10 at', ubytes 10 es.length, bs.flatten] : List (List Nat)).length ≤ 35184372088832 := by simp
  have HFL : Hid (([ubytes 10 f.size ++ sb f, ubytes 10 at', ubytes 10 es.length, bs.flatten] : List (List Nat)).flatten = bform f at' es.length bs) := Lib.hid (by simp [bform])
  replace hW0 := Lib.hid hW0
  have HSUM := Lib.hid hsum; have HLEN4 := Lib.hid hlen4; have HFLAT := Lib.hid hflat
  clear h hx0 hb0 hEB hval hsum hlen4 hflat
  go_enter Tryz.func22, Tryz.ntmps22
  go_upto_region 1 with fail
  rw [← hW0.out]
  go_wp2_with fail
  refine HV.out.mono ?_
  rintro x w1 ⟨rfl, hb1⟩
  have HB1 := Lib.hid hb1
  obtain ⟨d0, d1, d2, -⟩ := (HX0.out.later hb1 (by omega)).cells
  clear hb1 c0 c1 c2
  go_wp2_with fail
  refine (HM.out _ HB1.out).mono ?_
  rintro x w2 ⟨A2, cap2, rfl, hb2, hrow⟩
  have hb02 : Below W0.heap.size W0 w2 := HB1.out.trans (hb2.mono HB1.out.size)
  have HBW : Hid (Below w.heap.size w w2) := Lib.hid (HB0.out.trans (hb02.mono (by omega)))
  have KS : Hid (∀ W', Below w2.heap.size w2 W' → W'.cell? ⟨w.heap.size, 0, none⟩ = some (.string f) ∧ W'.cell? ⟨w.heap.size, 1, none⟩ = some (.int .u64 at')) := Lib.hid fun W' hW => by
    obtain ⟨z0, z1, -⟩ := (HX0.out.later (hb02.trans (hW.mono hb02.size)) (by omega)).cells
    exact ⟨z0, z1⟩
  have HCC : Hid (∀ W', Below w2.heap.size w2 W' → Calls Tryz.prog 55 #[.slice A2 es.length cap2] W' fun e w' => ∃ v, e = .returned v ∧ BOwn w' W'.heap.size v bs.flatten ∧ Below W'.heap.size W' w') := Lib.hid fun W' hW => by
    have := concat_any bs A2 cap2 W' (hrow.pin.later hW) (by have := HFLAT.out; omega) (by omega)
    rwa [hbl] at this
  clear hb2 hb02 hrow d0 d1 d2
  go_upto_region 4 with fail
  refine wp_region_noPanic ?_
  refine wp_region_held_drew (S := fun W' : World => W'.cell? ⟨w.heap.size, 0, none⟩ = some (.string f) ∧ W'.cell? ⟨w.heap.size, 1, none⟩ = some (.int .u64 at')) (by kernel_rfl) ?_ (fun hHeld => ?_)
  · exact KS.out _ (below_drew (Below.refl _ _))
  refine tk (i := 0) rfl ?_
  try simp only [Act.put, List.setIfInBounds_toArray, List.set_cons_zero, List.set_cons_succ]
  refine tk (i := 1) rfl ?_
  try simp only [Act.put, List.setIfInBounds_toArray, List.set_cons_zero, List.set_cons_succ]
  refine tk (i := 3) rfl ?_
  try simp only [Act.put, List.setIfInBounds_toArray, List.set_cons_zero, List.set_cons_succ]
  refine tk (i := 4) rfl ?_
  try simp only [Act.put, List.setIfInBounds_toArray, List.set_cons_zero, List.set_cons_succ]
  refine tk (i := 6) rfl ?_
  try simp only [Act.put, List.setIfInBounds_toArray, List.set_cons_zero, List.set_cons_succ]
  refine tk (i := 7) rfl ?_
  try simp only [Act.put, List.setIfInBounds_toArray, List.set_cons_zero, List.set_cons_succ]
  refine tk (i := 8) rfl ?_
  try simp only [Act.put, List.setIfInBounds_toArray, List.set_cons_zero, List.set_cons_succ]
  refine tk (i := 10) rfl ?_
  try simp only [Act.put, List.setIfInBounds_toArray, List.set_cons_zero, List.set_cons_succ]
  refine wpAnyH_ready (rs := [2]) (by kernel_rfl) (by simp) ?_
  refine cons_drop rfl (fun K hK => ?_) AllReadyH.nil
  go_simp
  refine (HT.out _).mono ?_
  rintro x v1 ⟨b1, rfl, hown, hb⟩
  obtain ⟨A10, n10, c10, rfl⟩ := slice_form hown
  have HB1 : Hid (Below w2.heap.size w2 v1) := Lib.hid (Below.trans (below_drew (Below.refl _ _)) hb)
  have HO1 := Lib.hid hown
  clear hown hb
  go_wp2_with fail
  refine hK.out _ _ (KS.out _ HB1.out) (fun hHeld2 => ?_)
  clear hK K
  try simp only [Act.put, List.setIfInBounds_toArray, List.set_cons_zero, List.set_cons_succ]
  refine wpAnyH_ready (rs := [5]) (by kernel_rfl) (by simp) ?_
  refine cons_drop rfl (fun K hK => ?_) AllReadyH.nil
  go_simp
  refine (HU.out _ _ hat).mono ?_
  rintro x v2 ⟨b2, rfl, hown, hb⟩
  obtain ⟨A20, n20, c20, rfl⟩ := slice_form hown
  have HB2 : Hid (Below w2.heap.size w2 v2) := Lib.hid (HB1.out.trans (hb.mono HB1.out.size))
  have HO2 := Lib.hid hown
  have HI1 := Lib.hid (HO1.out.read.later hb)
  clear hown hb
  go_wp2_with fail
  refine hK.out _ _ (KS.out _ HB2.out) (fun hHeld2 => ?_)
  clear hK K
  try simp only [Act.put, List.setIfInBounds_toArray, List.set_cons_zero, List.set_cons_succ]
  refine wpAnyH_ready (rs := [9]) (by kernel_rfl) (by simp) ?_
  refine cons_drop rfl (fun K hK => ?_) AllReadyH.nil
  go_simp
  rw [HWR.out]
  refine (HU.out _ _ hn64).mono ?_
  rintro x v3 ⟨b3, rfl, hown, hb⟩
  obtain ⟨A30, n30, c30, rfl⟩ := slice_form hown
  have HB3 : Hid (Below w2.heap.size w2 v3) := Lib.hid (HB2.out.trans (hb.mono HB2.out.size))
  have HO3 := Lib.hid hown
  have HJ1 := Lib.hid (HI1.out.later hb)
  have HI2 := Lib.hid (HO2.out.read.later hb)
  clear hown hb
  go_wp2_with fail
  refine hK.out _ _ (KS.out _ HB3.out) (fun hHeld2 => ?_)
  clear hK K
  try simp only [Act.put, List.setIfInBounds_toArray, List.set_cons_zero, List.set_cons_succ]
  refine wpAnyH_ready (rs := [11]) (by kernel_rfl) (by simp) ?_
  refine cons_drop rfl (fun K hK => ?_) AllReadyH.nil
  go_simp
  refine (HCC.out _ HB3.out).mono ?_
  rintro x v4 ⟨b4, rfl, hown, hb⟩
  obtain ⟨A40, n40, c40, rfl⟩ := slice_form hown
  have HB4 : Hid (Below w2.heap.size w2 v4) := Lib.hid (HB3.out.trans (hb.mono HB3.out.size))
  have HO4 := Lib.hid hown
  have HK1 := Lib.hid (HJ1.out.later hb)
  have HK2 := Lib.hid (HI2.out.later hb)
  have HK3 := Lib.hid (HO3.out.read.later hb)
  clear hown hb
  go_wp2_with fail
  refine hK.out _ _ (KS.out _ HB4.out) (fun hHeld2 => ?_)
  clear hK K
  try simp only [Act.put, List.setIfInBounds_toArray, List.set_cons_zero, List.set_cons_succ]
  refine wpAnyH_ready (rs := [12]) (by kernel_rfl) (by simp) ?_
  refine cons_drop rfl (fun K hK => ?_) AllReadyH.nil
  go_simp
  obtain ⟨v5, hv5⟩ : ∃ x, x = v4.alloc (.cells #[.slice A10 n10 c10, .slice A20 n20 c20, .slice A30 n30 c30, .slice A40 n40 c40] 22) := ⟨_, rfl⟩
  rw [← hv5]
  have hb : Below v4.heap.size v4 v5 := by rw [hv5]; exact (Below.refl _ _).alloc (Nat.le_refl _) _
  have hblk : v5.heap[v4.heap.size]? = some (.cells #[.slice A10 n10 c10, .slice A20 n20 c20, .slice A30 n30 c30, .slice A40 n40 c40] 22 (0, 0)) := by rw [hv5]; exact heap_alloc_new v4 _
  have HPI : Hid (PIn v5 (some ⟨v4.heap.size, 0, none⟩) 4 [ubytes 10 f.size ++ sb f, ubytes 10 at', ubytes 10 es.length, bs.flatten]) := Lib.hid ⟨by simp, by simp only [maxLen]; omega, fun _ => ⟨v4.heap.size, 0, rfl, (Array.getElem?_eq_some_iff.1 hblk).1, fun i hi => by
    simp only [List.length_cons, List.length_nil] at hi
    rcases (by omega : i = 0 ∨ i = 1 ∨ i = 2 ∨ i = 3) with rfl | rfl | rfl | rfl
    · exact ⟨.slice A10 n10 c10, by simp [World.cell?, hblk], HK1.out.later hb⟩
    · exact ⟨.slice A20 n20 c20, by simp [World.cell?, hblk], HK2.out.later hb⟩
    · exact ⟨.slice A30 n30 c30, by simp [World.cell?, hblk], HK3.out.later hb⟩
    · exact ⟨.slice A40 n40 c40, by simp [World.cell?, hblk], HO4.out.read.later hb⟩⟩⟩
  have HB5 : Hid (Below w2.heap.size w2 v5) := Lib.hid (HB4.out.trans (hb.mono HB4.out.size))
  have HC5 := Lib.hid (concat_any _ _ _ v5 HPI.out HSUM.out HLEN4.out)
  clear hb hblk
  replace hv5 := Lib.hid hv5
  refine hK.out _ _ (KS.out _ HB5.out) (fun hHeld2 => ?_)
  clear hK K
  try simp only [Act.put, List.setIfInBounds_toArray, List.set_cons_zero, List.set_cons_succ]
  refine wpAnyH_ready (rs := [13]) (by kernel_rfl) (by simp) ?_
  refine cons_drop rfl (fun K hK => ?_) AllReadyH.nil
  go_simp
  refine HC5.out.mono ?_
  rintro x v6 ⟨b6, rfl, hown, hb⟩
  have HB6 : Hid (Below w2.heap.size w2 v6) := Lib.hid (HB5.out.trans (hb.mono HB5.out.size))
  have HO6 := Lib.hid hown
  clear hown hb
  go_wp2_with fail
  refine hK.out _ _ (KS.out _ HB6.out) (fun hHeld2 => ?_)
  clear hK K
  try simp only [Act.put, List.setIfInBounds_toArray, List.set_cons_zero, List.set_cons_succ]
  refine tk (i := 14) rfl ?_
  try simp only [Act.put, List.setIfInBounds_toArray, List.set_cons_zero, List.set_cons_succ]
  refine tk (i := 15) rfl ?_
  try simp only [Act.put, List.setIfInBounds_toArray, List.set_cons_zero, List.set_cons_succ]
  refine wpAnyH_done (by kernel_rfl) ?_ _
  refine NoPanic.normal ?_
  go_wp2_with fail
  refine bodyPost_ret (v := .tuple #[b6, .bool true]) (by simp [results, Tryz.results22, go_sem]) rfl ?_
  refine ⟨b6, rfl, ?_, HBW.out.trans (HB6.out.mono HBW.out.size)⟩
  have h6 := HO6.out
  rw [HFL.out] at h6
  exact h6.base (by have := HBW.out.size; have := HB5.out.size; omega)
end Cn
end Go.Proofs.YtcbddebmmaflgaaGreatDoor
namespace Go.Proofs.YtcbddebmmaflgaaGreatDoor
open Go.RowKit
set_option linter.unusedVariables false
set_option linter.unusedSimpArgs false
namespace Cn
open _root_.Go.Proofs.YtcbddebmmaflgaaGreatDoor.Nm (bitsW ret_int ret_bool)
open Vt (VT Rep BoxAt below_drew put5 KidsAt HeadOk)
open Ev (EV FieldsOk evCells vCells EBox ERep zeroT take_drop tk cons_drop nameOf fieldsOf of_in evalid_any)
open Cm (rowOf EvsIn EvsAt EvNew evsSame evSame)
open Bt (BOwn BIn PIn ubytes sb bv ebytes_walk vbytes0)

/-- Bytes that are read by their places. -/
def BRd (w : World) (v : Value) (l : List Nat) : Prop := (v = .slice none 0 0 ∧ l = []) ∨ ∃ b off cap, v = .slice (some ⟨b, off, none⟩) l.length cap ∧ l.length ≤ cap ∧ cap ≤ maxLen ∧ b < w.heap.size ∧ ∀ j (h : j < l.length), w.cell? ⟨b, off + j, none⟩ = some (.int .u8 (l[j] : Nat))
theorem below_drewN {B n : Nat} {a w : World} (h : Below B a w) : Below B a (w.drewN n) := ⟨h.os, h.tape, h.output, h.size, h.block⟩
theorem BRd.later {w w' : World} {v : Value} {l : List Nat} (h : BRd w v l) (hb : Below w.heap.size w w') : BRd w' v l := by
  rcases h with h | ⟨b, off, cap, h1, h2, h3, h4, h5⟩
  · exact .inl h
  · exact .inr ⟨b, off, cap, h1, h2, h3, Nat.lt_of_lt_of_le h4 hb.size, fun j hj => (hb.cell (p := ⟨b, off + j, none⟩) h4).trans (h5 j hj)⟩
theorem brd_own {w : World} {base : Nat} {v : Value} {l : List Nat} (h : BOwn w base v l) : BRd w v l := by
  rcases h.2 with ⟨h1, h2⟩ | ⟨g, cap, cur, q1, q2, q3, q4, q5, q6, q7⟩
  · exact .inl ⟨h1, List.eq_nil_of_length_eq_zero h2⟩
  · refine .inr ⟨g, 0, cap, q1, q4, q5, (Array.getElem?_eq_some_iff.1 q3).1, fun j hj => ?_⟩
    have e : cur[j]? = some (.int .u8 (l[j] : Nat)) := by
      have e1 : (l.map fun (b : Nat) => Value.int .u8 (b : Int))[j]? = some (.int .u8 (l[j] : Nat)) := by simp [List.getElem?_eq_getElem hj]
      rw [← e1, ← q7, List.getElem?_take_of_lt (by omega), Array.getElem?_toList]
    rw [Nat.zero_add]
    simp [World.cell?, q3, e]
theorem BRd.form {w : World} {v : Value} {l : List Nat} (h : BRd w v l) : ∃ A cap, v = .slice A l.length cap := by
  rcases h with ⟨rfl, rfl⟩ | ⟨b, off, cap, rfl, -⟩
  · exact ⟨none, 0, rfl⟩
  · exact ⟨_, cap, rfl⟩

set_option maxRecDepth 100000 in
set_option maxHeartbeats 1000000 in
theorem bequal_same (l m : List Nat) (hlm : l.length = m.length) (x y : Value) (w : World) (hx : BRd w x l) (hy : BRd w y m) :
    Calls Tryz.prog 16 #[x, y] w fun r w' => r = .returned (.bool (decide (l = m))) ∧ Below w.heap.size w w' := by
  obtain ⟨A, cap, rfl⟩ := hx.form
  obtain ⟨A', cap', rfl⟩ := hy.form
  have hll : l.length ≤ 9223372036854775807 := by
    rcases hx with ⟨-, rfl⟩ | ⟨b, off, cap, -, h1, h2, -⟩
    · simp
    · simp only [maxLen] at h2; omega
  have HX := Lib.hid fun W (hW : Below w.heap.size w W) => hx.later hW
  have HY := Lib.hid fun W (hW : Below w.heap.size w W) => hy.later hW
  have HLM := Lib.hid hlm
  rw [← hlm] at HY ⊢
  clear hx hy hlm
  generalize hn : l.length = n at *
  have HN := Lib.hid hn; clear hn
  go_enter Tryz.func16, Tryz.ntmps16
  go_wp2_with fail
  go_loopw [4, 13] (fun r i wr => ∃ (j : Nat), j ≤ n ∧ i = .int .i64 j ∧ r = .bool false ∧ l.take j = m.take j ∧ Below w.heap.size w wr) (fun _ i _ => n - (intOf i).toNat)
  case atStart => exact ⟨0, by omega, rfl, rfl, by simp, Below.refl _ _⟩
  case round =>
    obtain ⟨j, hj, rfl, rfl, hy, hb⟩ := hrel
    have HYT := Lib.hid hy; have HB := Lib.hid hb
    clear hy hb
    by_cases hlt : j < n
    · have hjl : j < l.length := by have := HN.out; omega
      have hjm : j < m.length := by have := HLM.out; have := HN.out; omega
      obtain ⟨b, off, cp, e1, h2, h3, h4, h5⟩ := (HX.out wr HB.out).resolve_left (fun h => by rw [h.2] at hjl; simp at hjl)
      obtain ⟨b', off', cp', e1', h2', h3', h4', h5'⟩ := (HY.out wr HB.out).resolve_left (fun h => by rw [h.2] at hjm; simp at hjm)
      injection e1 with e1 _ _
      injection e1' with e1' _ _
      subst e1 e1'
      have c1 := h5 j hjl
      have c2 := h5' j hjm
      obtain ⟨a, ha⟩ : ∃ a, a = l[j] := ⟨_, rfl⟩
      obtain ⟨a', ha'⟩ : ∃ a, a = m[j] := ⟨_, rfl⟩
      rw [← ha] at c1
      rw [← ha'] at c2
      have HA := Lib.hid ha; have HA' := Lib.hid ha'
      have HT : Hid (a = a' → l.take (j + 1) = m.take (j + 1)) := Lib.hid fun e => by rw [List.take_succ_eq_append_getElem hjl, List.take_succ_eq_append_getElem hjm, HYT.out, ← HA.out, ← HA'.out, e]
      have HF : Hid (a ≠ a' → decide (l = m) = false) := Lib.hid fun e => decide_eq_false (fun h => e (by rw [HA.out, HA'.out]; simp [h]))
      clear ha ha' h2 h3 h4 h5 h2' h3' h4' h5'
      by_cases haa : a = a'
      · subst haa
        go_upto_region 6 with fail
        go_quiet (fail)
        go_wp2_with fail
        go_roundw
        case rel => exact ⟨j + 1, by omega, by go_num, rfl, HT.out rfl, below_drewN HB.out⟩
        case measure => simp [intOf]; omega
      · have hne : ((a : Int) != (a' : Int)) = true := by simp; omega
        have HNE := Lib.hid haa
        go_upto_region 6 with fail
        go_quiet (fail)
        go_wp2_with fail
        go_ret
        exact ⟨ret_bool (by rw [HF.out HNE.out]), below_drewN HB.out⟩
    · have hj' : j = n := by omega
      subst hj'
      go_wp2_with fail
      go_ret
      have he : l = m := by
        have := HYT.out
        rw [List.take_of_length_le (by have := HN.out; omega), List.take_of_length_le (by have := HN.out; have := HLM.out; omega)] at this
        exact this
      exact ⟨ret_bool (by rw [decide_eq_true he]), HB.out⟩

set_option maxRecDepth 100000 in
theorem bequal_any (l m : List Nat) (x y : Value) (w : World) (hx : BRd w x l) (hy : BRd w y m) :
    Calls Tryz.prog 16 #[x, y] w fun r w' => r = .returned (.bool (decide (l = m))) ∧ Below w.heap.size w w' := by
  by_cases hlm : l.length = m.length
  · exact bequal_same l m hlm x y w hx hy
  · obtain ⟨A, cap, rfl⟩ := hx.form
    obtain ⟨A', cap', rfl⟩ := hy.form
    have hd : decide (l = m) = false := decide_eq_false (fun h => hlm (by rw [h]))
    rw [hd]
    generalize l.length = n at *
    generalize m.length = k at *
    have hne : ((n : Int) != (k : Int)) = true := by simp; omega
    clear hx hy hd
    go_enter Tryz.func16, Tryz.ntmps16
    go_wp2_with fail
    go_ret
    exact ⟨rfl, Below.refl _ _⟩

def e5 : EV := ⟨5, 5, 0, 0, ⟨#[]⟩, ⟨#[]⟩, zeroT⟩
theorem zero_valid : zeroT.valid 8 = true := by unfold zeroT; rw [Vt.valid_mk]; simp; decide
theorem e5_valid : e5.valid = true := by
  unfold EV.valid Ev.goodL e5
  simp [fieldsOf, Vt.same_refl, Ev.pickB]
  try decide
theorem e5_fields : FieldsOk e5 := ⟨by decide, by decide, by decide, by decide, by decide, by decide, by decide, by decide⟩

theorem e5_bytes : EvBytes [e5] [[1, 5, 5]] := by
  refine ⟨rfl, fun i h h' lo hi vk vn vf vs A m c w hf hv hz => ?_⟩
  obtain rfl : i = 0 := by simp at h; omega
  simp only [List.getElem_cons_zero] at hv hf ⊢
  obtain ⟨A2, cap2, hvc, -, -, -⟩ := hv.head (k := 0) (n := 0) (f := 0) (s := ⟨#[]⟩) (l := [])
  unfold vCells at hvc
  injection hvc with hvc
  simp at hvc
  obtain ⟨rfl, rfl, rfl, rfl, rfl, rfl, rfl⟩ := hvc
  have h := ebytes_walk 5 5 0 0 ⟨#[]⟩ ⟨#[]⟩ (by omega) (by omega) (by omega) (by omega) (by decide) (by decide) 0 0 0 ⟨#[]⟩ A 0 c (nameOf 5) true false false false false false [0] (by simp) w
    (fun W hW => (evalid_any e5 W lo hi _ ⟨hf, 0, 0, 0, ⟨#[]⟩, A, 0, c, rfl, hv.later (hW.mono hz)⟩ (Nat.le_trans hz hW.size)).mono fun r w' h => by rw [e5_valid] at h; exact h)
    (fun W => of_in 5 (by omega) (by omega) W)
    (fun W hW => vbytes0 zeroT lo hi 0 0 ⟨#[]⟩ A 0 c W (hv.later (hW.mono hz)) (Nat.le_trans hz hW.size) zero_valid)
  exact h

theorem e5_in (w : World) (g : Nat) (h : w.heap[g]? = some (.cells #[.int .i64 5, .int .u64 5, .int .i64 0, .int .u64 0, .string ⟨#[]⟩, .string ⟨#[]⟩, .int .i64 0, .int .i64 0, .float .f64 0, .string ⟨#[]⟩, .slice none 0 0] 32 (0, 0))) : EvsIn w (some ⟨g, 0, none⟩) 1 [e5] :=
  ⟨by simp, by simp only [maxLen]; omega, fun _ => ⟨g, 0, rfl, (Array.getElem?_eq_some_iff.1 h).1, fun i hi => by
    obtain rfl : i = 0 := by simp at hi; omega
    refine ⟨0, 0, 0, 0, 0, ⟨#[]⟩, none, 0, 0, e5_fields, Rep.leaf ⟨by omega, by omega, by omega, by omega, by omega, by decide, by decide⟩, Nat.zero_le _, fun q hq => ?_⟩
    have e : evCells ([e5][0]) 0 0 0 ⟨#[]⟩ none 0 0 = #[.int .i64 5, .int .u64 5, .int .i64 0, .int .u64 0, .string ⟨#[]⟩, .string ⟨#[]⟩, .int .i64 0, .int .i64 0, .float .f64 0, .string ⟨#[]⟩, .slice none 0 0] := rfl
    rw [e]
    simp [World.cell?, h]⟩⟩

set_option maxRecDepth 100000 in
set_option maxHeartbeats 1000000 in
theorem balive_any (w : World) : Calls Tryz.prog 21 #[] w fun r w' => r = .returned (.bool true) ∧ Below w.heap.size w w' := by
  obtain ⟨W0, hW0⟩ : ∃ W0, W0 = w.alloc (.cells #[.int .i64 5, .int .u64 5, .int .i64 0, .int .u64 0, .string ⟨#[]⟩, .string ⟨#[]⟩, .int .i64 0, .int .i64 0, .float .f64 0, .string ⟨#[]⟩, .slice none 0 0] 32) := ⟨_, rfl⟩
  have hx0 : W0.heap[w.heap.size]? = some (.cells #[.int .i64 5, .int .u64 5, .int .i64 0, .int .u64 0, .string ⟨#[]⟩, .string ⟨#[]⟩, .int .i64 0, .int .i64 0, .float .f64 0, .string ⟨#[]⟩, .slice none 0 0] 32 (0, 0)) := by rw [hW0]; exact heap_alloc_new w _
  have HB0 : Hid (Below w.heap.size w W0) := Lib.hid (by rw [hW0]; exact (Below.refl _ _).alloc (Nat.le_refl _) _)
  have hval : bvalid ⟨#[119]⟩ 3 [e5] = true := by
    have : ([e5] : List EV).any wrongE = false := by simp [wrongE, e5_valid]
    unfold bvalid
    rw [this, show (⟨#[119]⟩ : ByteArray).toList.isEmpty = false from by decide +kernel]
    rfl
  have HC : Hid (Calls Tryz.prog 22 #[.agg #[.string ⟨#[119]⟩, .int .u64 3, .slice (some ⟨w.heap.size, 0, none⟩) 1 1]] W0 fun r w' => ∃ v, r = .returned (.tuple #[v, .bool true]) ∧ BOwn w' W0.heap.size v [1, 119, 3, 1, 1, 5, 5] ∧ Below W0.heap.size W0 w') := Lib.hid (by
    have h := bbytes_any [e5] (by simp) [[1, 5, 5]] e5_bytes (by simp) ⟨#[119]⟩ 3 (by omega) (some ⟨w.heap.size, 0, none⟩) 1 W0 (e5_in W0 _ hx0) hval
    have e : bform ⟨#[119]⟩ 3 ([e5] : List EV).length [[1, 5, 5]] = [1, 119, 3, 1, 1, 5, 5] := by decide
    rw [e] at h
    exact h)
  replace hW0 := Lib.hid hW0
  clear hx0 hval
  go_enter Tryz.func21, Tryz.ntmps21
  go_wp2_with (go_at_call 22; rw [← hW0.out]; refine HC.out.mono ?_; rintro x w1 ⟨v, rfl, hown, hb1⟩; obtain ⟨A, cap, hv⟩ := (brd_own hown).form; simp only [List.length_cons, List.length_nil, Nat.reduceAdd] at hv; subst hv; have HO := Lib.hid (brd_own hown); have HB1 := Lib.hid (HB0.out.trans (hb1.mono HB0.out.size)); clear hown hb1)
  have hb7 : (w1.alloc (.cells #[.int .u8 1, .int .u8 119, .int .u8 3, .int .u8 1, .int .u8 1, .int .u8 5, .int .u8 5] 5)).heap[w1.heap.size]? = some (.cells #[.int .u8 1, .int .u8 119, .int .u8 3, .int .u8 1, .int .u8 1, .int .u8 5, .int .u8 5] 5 (0, 0)) := heap_alloc_new w1 _
  refine (bequal_any [1, 119, 3, 1, 1, 5, 5] [1, 119, 3, 1, 1, 5, 5] _ _ _ (HO.out.later ((Below.refl _ _).alloc (Nat.le_refl _) _)) (.inr ⟨w1.heap.size, 0, 7, rfl, by simp, by simp only [maxLen]; omega, by simp, fun j hj => ?_⟩)).mono ?_
  · simp only [List.length_cons, List.length_nil] at hj
    rcases (by omega : j = 0 ∨ j = 1 ∨ j = 2 ∨ j = 3 ∨ j = 4 ∨ j = 5 ∨ j = 6) with rfl | rfl | rfl | rfl | rfl | rfl | rfl <;> (simp only [World.cell?, hb7]; rfl)
  rintro x w2 ⟨rfl, hb2⟩
  have HB2 := Lib.hid (HB1.out.trans ((Below.refl w1.heap.size w1).alloc (Nat.le_refl _) (.cells #[.int .u8 1, .int .u8 119, .int .u8 3, .int .u8 1, .int .u8 1, .int .u8 5, .int .u8 5] 5) |>.mono HB1.out.size))
  have HB3 := Lib.hid (HB2.out.trans (hb2.mono HB2.out.size))
  clear hb2 hb7
  go_wp2_with fail
  go_ret
  exact ⟨ret_bool rfl, HB3.out⟩
end Cn
end Go.Proofs.YtcbddebmmaflgaaGreatDoor
namespace Go.Proofs.YtcbddebmmaflgaaGreatDoor
open Go.RowKit
set_option linter.unusedVariables false
set_option linter.unusedSimpArgs false
namespace Rf
open _root_.Go.Proofs.YtcbddebmmaflgaaGreatDoor.Nm (bitsW ret_int ret_bool)
open Bt (BOwn BIn ubytes sb bown_nil wpList_append_bytes bv)
open Pf (zz zz_lt be8 sform)
open Vf (KB one_byte)
open Cn (BRd)

theorem ub_next {f y : Nat} (h : y < 128 ^ (f + 1)) (h2 : 128 ≤ y) : ∃ g, f = g + 1 ∧ y / 128 < 128 ^ (g + 1) ∧ ubytes f y = (y % 128 + 128) :: ubytes g (y / 128) := by
  cases f with
  | zero => simp at h; omega
  | succ g =>
    refine ⟨g, rfl, ?_, by rw [ubytes, if_neg (by omega)]⟩
    rw [Nat.pow_succ] at h
    exact Nat.div_lt_of_lt_mul (by rw [Nat.mul_comm]; exact h)
theorem ub_last {f y : Nat} (h : y < 128) : ubytes f y = [y] := by
  cases f with
  | zero => rfl
  | succ g => rw [ubytes, if_pos h]
theorem ub_big {x : Nat} (h : x < 18446744073709551616) : x < 128 ^ (10 + 1) := Nat.lt_trans h (by decide)

set_option maxRecDepth 100000 in
set_option maxHeartbeats 2000000 in
theorem ruform_any (x0 : Nat) (hx : x0 < 18446744073709551616) (w : World) : Calls Tryz.prog 71 #[.int .u64 (x0 : Nat)] w (KB w (ubytes 10 x0)) := by
  have HX := Lib.hid hx
  have HL := Lib.hid (Bt.ubytes_len 10 x0)
  have HX10 := Lib.hid (ub_big hx)
  clear hx
  go_enter Tryz.func71, Tryz.ntmps71
  go_wp2_with fail
  go_loopw [0, 3] (fun x o wr => ∃ (y f : Nat) (lo : List Nat), x = .int .u64 (y : Nat) ∧ y < 18446744073709551616 ∧ Hid (y < 128 ^ (f + 1)) ∧ Hid (lo ++ ubytes f y = ubytes 10 x0) ∧ BOwn wr w.heap.size o lo ∧ Below w.heap.size w wr) (fun x _ _ => (intOf x).toNat)
  case atStart => exact ⟨x0, 10, [], rfl, HX.out, HX10, Lib.hid rfl, bown_nil _ _, Below.refl _ _⟩
  case round =>
    obtain ⟨y, f, lo, rfl, hy, HY, HE, hown, hb⟩ := hrel
    have HO := Lib.hid hown; have HB := Lib.hid hb
    have HLO : Hid (lo.length ≤ 11) := Lib.hid (by have h1 := congrArg List.length HE.out; rw [List.length_append] at h1; have := HL.out; omega)
    clear hown hb
    by_cases hlt : 128 ≤ y
    · have k1 : decide ((128 : Int) ≤ (y : Int)) = true := decide_eq_true (by omega)
      obtain ⟨g, hfg, hg, hu⟩ := ub_next HY.out hlt
      have HG := Lib.hid hg; have HU := Lib.hid hu
      clear hg hu
      have HN := Lib.hid (one_byte wr ((y : Int) % 128 + 128) (y % 128 + 128) (by omega))
      go_wp2_with (at_builtin; refine wpList_append_bytes _ rfl _ _ rfl w.heap.size _ _ lo [y % 128 + 128] rfl rfl (HO.out.later ((Below.refl _ _).alloc (Nat.le_refl _) _)) HN.out (by have := HLO.out; simp; omega) (by simp; exact Nat.le_succ_of_le HB.out.size) ?_; intro v2 w2 hown2 hg2 hb2; have HO2 := Lib.hid hown2; have HB2 := Lib.hid ((HB.out.alloc HB.out.size _).trans hb2); clear hown2 hb2)
      exact ⟨⟨y / 128, g, lo ++ [y % 128 + 128], by go_num, by omega, HG, Lib.hid (by rw [← HE.out, HU.out]; simp), HO2.out, HB2.out⟩, by simp [intOf]; omega⟩
    · have k1 : decide ((128 : Int) ≤ (y : Int)) = false := decide_eq_false (by omega)
      have hu := ub_last (f := f) (by omega : y < 128)
      have HU := Lib.hid hu
      clear hu
      have HN := Lib.hid (one_byte wr (y : Int) y rfl)
      go_wp2_with (at_builtin; refine wpList_append_bytes _ rfl _ _ rfl w.heap.size _ _ lo [y] rfl rfl (HO.out.later ((Below.refl _ _).alloc (Nat.le_refl _) _)) HN.out (by have := HLO.out; simp; omega) (by simp; exact Nat.le_succ_of_le HB.out.size) ?_; intro v2 w2 hown2 hg2 hb2; have HO2 := Lib.hid hown2; have HB2 := Lib.hid ((HB.out.alloc HB.out.size _).trans hb2); clear hown2 hb2)
      go_ret
      refine ⟨_, rfl, ?_, HB2.out⟩
      have := HO2.out
      rw [show lo ++ [y] = ubytes 10 x0 from by rw [← HE.out, HU.out]] at this
      exact this

set_option maxRecDepth 100000 in
theorem rbform_any (v : Value) (l : List Nat) (hl : l.length ≤ 1000000) (w : World) (h : BIn w v l) : Calls Tryz.prog 70 #[v] w (KB w (ubytes 10 l.length ++ l)) := by
  obtain ⟨A, cap, rfl⟩ := h.form
  have HV := Lib.hid h
  have HU := Lib.hid (ruform_any l.length (by omega) w)
  have HL := Lib.hid (Bt.ubytes_len 10 l.length)
  have HWR : Hid (IntKind.u64.wrap (l.length : Int) = (l.length : Int)) := Lib.hid (IntWalk.u64_in _ (by omega))
  clear h
  go_enter Tryz.func70, Tryz.ntmps70
  go_wp2_with fail
  refine HU.out.mono ?_
  rintro e w1 ⟨v, rfl, hown, hb⟩
  have HO := Lib.hid hown; have HB := Lib.hid hb
  clear hown hb
  go_wp2_with (at_builtin; refine wpList_append_bytes _ rfl _ _ rfl w.heap.size _ _ (ubytes 10 l.length) l rfl rfl HO.out (HV.out.later HB.out) (by have := HL.out; omega) HB.out.size ?_; intro v2 w2 hown2 hg2 hb2; have HO2 := Lib.hid hown2; have HB2 := Lib.hid (HB.out.trans hb2); clear hown2 hb2)
  go_ret
  exact ⟨_, rfl, HO2.out, HB2.out⟩

theorem zz_pos (n : Int) (h0 : 0 ≤ n) (h1 : n ≤ 9223372036854775807) : ((zz n : Nat) : Int) = n * 2 := by unfold zz; rw [if_pos h0]; omega
theorem zz_neg (n : Int) (h0 : ¬ 0 ≤ n) (h1 : -9223372036854775808 ≤ n) : ((zz n : Nat) : Int) = -(n + 1) * 2 + 1 := by unfold zz; rw [if_neg h0]; omega

set_option maxRecDepth 100000 in
theorem riform_any (n : Int) (h0 : -9223372036854775808 ≤ n) (h1 : n ≤ 9223372036854775807) (w : World) : Calls Tryz.prog 133 #[.int .i64 n] w (KB w (ubytes 10 (zz n))) := by
  have HU := Lib.hid (ruform_any (zz n) (zz_lt h0 h1) w)
  by_cases hn : 0 ≤ n
  · have k1 : decide ((0 : Int) ≤ n) = true := decide_eq_true hn
    have HZ := Lib.hid (zz_pos n hn h1)
    rw [HZ.out] at HU
    go_enter Tryz.func133, Tryz.ntmps133
    go_wp2_with fail
    refine HU.out.mono ?_
    rintro e w1 ⟨v, rfl, hown, hb⟩
    have HO := Lib.hid hown; have HB := Lib.hid hb
    clear hown hb
    go_wp2_with fail
    go_ret
    exact ⟨_, rfl, HO.out, HB.out⟩
  · have k1 : decide ((0 : Int) ≤ n) = false := decide_eq_false hn
    have HZ := Lib.hid (zz_neg n hn h0)
    rw [HZ.out] at HU
    go_enter Tryz.func133, Tryz.ntmps133
    go_wp2_with fail
    refine HU.out.mono ?_
    rintro e w1 ⟨v, rfl, hown, hb⟩
    have HO := Lib.hid hown; have HB := Lib.hid hb
    clear hown hb
    go_wp2_with fail
    go_ret
    exact ⟨_, rfl, HO.out, HB.out⟩
end Rf
end Go.Proofs.YtcbddebmmaflgaaGreatDoor
