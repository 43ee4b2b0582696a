/- bin.Int of any number; the forms of a number with a sign, of a text, of a float. -/
/- value.form of a value whose kind's bytes are known; a list's bytes; value.Bytes of any valid value that is small. -/
/- Forms of events: event.Bytes of any valid small event; no form is the beginning of another. -/
import Derived.Test.YtcbddebmmaflgaaGreatMqap
import Derived.Test.YtcbddebmmaflgaaGreatMqas
import Derived.Laws.Bits64
import Derived.Test.YtcbddebmmaflgaaGreatMqag
import Derived.Test.YtcbddebmmaflgaaGreatMqaq
import Derived.Test.YtcbddebmmaflgaaGreatMqak
namespace Go.Proofs.YtcbddebmmaflgaaGreat
open Go.RowKit
set_option linter.unusedVariables false
set_option linter.unusedSimpArgs false
namespace Vf
open _root_.Go.Proofs.YtcbddebmmaflgaaGreat.Nm (bitsW bits_any ret_int ret_bool)
open Bt (BOwn BIn ubytes sb uint_any btext_any bown_nil wpList_append_bytes bv)
open Pf (zz zz_lt be8 sform)
open Vt (VT Rep BoxAt below_drew KidsAt HeadOk)

/-- What a kind's method leaves. -/
def KB (w : World) (l : List Nat) (r : Ending) (w' : World) : Prop := ∃ v, r = .returned v ∧ BOwn w' w.heap.size v l ∧ Below w.heap.size w w'

theorem be8_take (v j : Nat) : ((be8 v).take j).length ≤ 8 := by
  rw [List.length_take]; exact Nat.min_le_right j 8
/-- One byte in a block of its own. -/
theorem one_byte (w : World) (x : Int) (b : Nat) (hx : x = (b : Int)) : BIn (w.alloc (.cells #[.int .u8 x] 5)) (.slice (some ⟨w.heap.size, 0, none⟩) 1 1) [b] := by
  subst hx
  refine .inr ⟨⟨w.heap.size, 0, none⟩, 1, rfl, by simp, by simp only [maxLen]; omega, by simp, fun j u hu => ?_⟩
  have hj : j = 0 := by have := (List.getElem?_eq_some_iff.1 hu).1; simp at this; omega
  subst hj
  simp [bv] at hu
  subst hu
  have e := heap_alloc_new w (.cells #[.int .u8 (b : Int)] 5)
  rw [Go.WideShapes.add_plain]
  simp only [World.cell?, e]
  rfl

end Vf
end Go.Proofs.YtcbddebmmaflgaaGreat
namespace Go.Proofs.YtcbddebmmaflgaaGreat
open Go.RowKit
set_option linter.unusedVariables false
set_option linter.unusedSimpArgs false
namespace Vf
open _root_.Go.Proofs.YtcbddebmmaflgaaGreat.Nm (bitsW bits_any ret_int ret_bool)
open Bt (BOwn BIn ubytes sb uint_any btext_any bown_nil wpList_append_bytes step_append_bytes bv)
open Pf (zz zz_lt be8 sform)
open Vt (VT Rep BoxAt below_drew KidsAt HeadOk kindV of_any)
open Ev (take_drop tk cons_drop)

/-- What a kind's method leaves, as bytes that can be read. -/
def KI (w : World) (l : List Nat) (r : Ending) (w' : World) : Prop := ∃ v, r = .returned v ∧ BIn w' v l ∧ Below w.heap.size w w'
theorem none_bytes (k n : Int) (f : Nat) (s : ByteArray) (A : Option Addr) (m c : Nat) (w : World) :
    Calls Tryz.prog 134 #[.agg #[], .agg #[.int .i64 k, .int .i64 n, .float .f64 f, .string s, .slice A m c]] w (KI w []) := by
  go_enter Tryz.func134, Tryz.ntmps134
  go_wp2_with fail
  go_ret
  exact ⟨_, rfl, .inl ⟨rfl, rfl⟩, ((Below.refl _ _).alloc (Nat.le_refl _) _).alloc (by simp) _⟩

theorem forms_take (l : List VT) (j : Nat) (h : j < l.length) : ((l.take (j + 1)).map Pf.VT.form).flatten = ((l.take j).map Pf.VT.form).flatten ++ Pf.VT.form l[j] := by
  rw [List.take_succ_eq_append_getElem h, List.map_append, List.flatten_append]; simp
theorem forms_le (l : List VT) (j : Nat) : ((l.take j).map Pf.VT.form).flatten.length ≤ (l.map Pf.VT.form).flatten.length := by
  have : ((l.take j ++ l.drop j).map Pf.VT.form).flatten.length = (l.map Pf.VT.form).flatten.length := by rw [List.take_append_drop]
  rw [List.map_append, List.flatten_append, List.length_append] at this
  omega

/-- How long a form gets. -/
theorem flat_sum (l : List VT) : (l.map Pf.VT.form).flatten.length = (l.map (fun t => (Pf.VT.form t).length)).sum := by
  rw [List.length_flatten, List.map_map]; rfl
theorem weightL_sum (l : List VT) : ∀ (n m : Int) (C : Int), 0 ≤ C → Vt.weightL l n m ≤ m → (∀ (i : Nat) (hi : i < l.length) (m' : Int), m' ≤ m → l[i].weight m' ≤ m' → ((Pf.VT.form l[i]).length : Int) ≤ C * l[i].weight m') → 0 ≤ n → C * n + ((l.map (fun t => (Pf.VT.form t).length)).sum : Int) ≤ C * Vt.weightL l n m := by
  induction l with
  | nil => intro n m C hC h hk hn; rw [Vt.weightL_nil]; simp
  | cons t l ih =>
    intro n m C hC h hk hn
    rw [Vt.weightL_cons] at h ⊢
    by_cases hnm : n ≤ m
    · rw [if_pos hnm] at h ⊢
      have hw := Vt.weight_ge t (m - n)
      have hge := Vt.weightL_ge' l (n + t.weight (m - n)) m
      have h1 := hk 0 (by simp) (m - n) (by omega) (by simp only [List.getElem_cons_zero]; omega)
      simp only [List.getElem_cons_zero] at h1
      have h2 := ih (n + t.weight (m - n)) m C hC h (fun i hi m' hm' hw' => hk (i + 1) (by simpa using hi) m' hm' hw') (by omega)
      simp only [List.map_cons, List.sum_cons]
      rw [Int.mul_add] at h2
      push_cast
      omega
    · rw [if_neg hnm] at h
      omega
theorem form_len_of_weight (t : VT) : ∀ m : Int, m ≤ 900 → t.weight m ≤ m → ((Pf.VT.form t).length : Int) ≤ 24 * t.weight m := by
  induction t using VT.ind with
  | _ k n f s l ih =>
    intro m hm h
    rw [Vt.weight_mk] at h ⊢
    have hge := Vt.weightL_ge' l (1 + min (s.size : Int) 1000) m
    have hs := weightL_sum l (1 + min (s.size : Int) 1000) m 24 (by omega) h (fun i hi m' hm' hw' => ih i hi m' (by omega) hw') (by omega)
    rw [Pf.form_mk, List.length_append]
    have h1 := Bt.ubytes_len 10 k.toNat
    have h2 := Bt.ubytes_len 10 (zz n)
    have h3 := Bt.ubytes_len 10 s.size
    have h4 := Bt.ubytes_len 10 l.length
    have h5 := Bt.sb_len s
    have h6 := flat_sum l
    have hss : (s.size : Int) ≤ 900 := by omega
    have e : ((if k = 1 then ubytes 10 (zz n) else if k = 2 then be8 (bitsW f) else if k = 3 then sform s else if k = 4 then ubytes 10 l.length ++ (l.map Pf.VT.form).flatten else []).length : Int) ≤ 11 + s.size + (l.map (fun t => (Pf.VT.form t).length)).sum := by
      have hnn : (0 : Int) ≤ ((l.map (fun t => (Pf.VT.form t).length)).sum : Int) := Int.natCast_nonneg _
      split
      · omega
      · split
        · simp [be8]; omega
        · split
          · unfold sform; rw [List.length_append]; omega
          · split
            · rw [List.length_append, h6]; push_cast; omega
            · simp; omega
    push_cast
    omega
theorem form_len_few {t : VT} (h : t.few = true) : (Pf.VT.form t).length ≤ 21600 := by
  unfold VT.few at h
  rw [Bool.and_eq_true, decide_eq_true_iff] at h
  have := form_len_of_weight t 900 (by omega) h.1
  omega

end Vf
end Go.Proofs.YtcbddebmmaflgaaGreat
namespace Go.Proofs.YtcbddebmmaflgaaGreat
open Go.RowKit
set_option linter.unusedVariables false
set_option linter.unusedSimpArgs false
namespace Vf
open _root_.Go.Proofs.YtcbddebmmaflgaaGreat.Nm (bitsW ret_int ret_bool)
open Bt (BOwn BIn ubytes sb uint_any sel ebytes_walk)
open Pf (zz zz_lt be8 sform sform_split ub_split form_split size_zero)
open Vt (VT Rep BoxAt below_drew KidsAt HeadOk)
open Ev (EV FieldsOk evCells vCells EBox ERep zeroT fieldsOf nameOf of_in evalid_any goodL pickB)
open Cm (evSame)

/-- Which fields an event's kind has. -/
def hasF (e : EV) (j : Nat) : Bool := (fieldsOf e.k.toNat).contains j
/-- The form of a valid event. -/
def eform (e : EV) : List Nat := [1] ++ ubytes 10 e.k.toNat ++ sel [hasF e 0, hasF e 1, hasF e 2, hasF e 3, hasF e 4, hasF e 5] [ubytes 10 e.id, ubytes 10 e.n.toNat, ubytes 10 e.at', sform e.name, sform e.text, Pf.VT.form e.v] 6

/-- What is valid. -/
structure VE (e : EV) : Prop where
  k1 : 1 ≤ e.k
  k2 : e.k ≤ 11
  i0 : hasF e 0 = false → e.id = 0
  i1 : hasF e 0 = true → 0 < e.id
  n0 : hasF e 1 = false → e.n = 0
  n1 : 0 ≤ e.n
  n2 : e.n ≤ 2147483647
  n3 : hasF e 1 = true → 1 ≤ e.n
  a0 : hasF e 2 = false → e.at' = 0
  a1 : e.at' ≤ 9223372036854775807
  s0 : hasF e 3 = false → e.name = ⟨#[]⟩
  s1 : e.name.size ≤ 1000
  s2 : hasF e 3 = true → e.name.toList.isEmpty = false
  t0 : hasF e 4 = false → e.text = ⟨#[]⟩
  t1 : e.text.size ≤ 1000
  v0 : hasF e 5 = false → e.v.same zeroT = true
  v1 : e.v.valid 8 = true

theorem toList_nil {s : ByteArray} (h : s.toList.isEmpty = true) : s = ⟨#[]⟩ := by
  rw [Vt.toList_data] at h
  cases s with | mk d => simp at h; rw [h]
theorem zero_val : zeroT.valid 8 = true := by unfold zeroT; rw [Vt.valid_mk]; simp; decide
theorem ve_of {e : EV} (h : e.valid = true) : VE e := by
  unfold EV.valid goodL at h
  simp only [Bool.and_eq_true, decide_eq_true_iff, List.all_cons, List.all_nil, Bool.and_true] at h
  obtain ⟨⟨k1, k2⟩, h0, h1, h2, h3, h4, h5⟩ := h
  have pick : ∀ {b f z : Bool}, pickB b f z = true → (b = true → f = true) ∧ (b = false → z = true) := fun {b f z} hh => by
    unfold pickB at hh
    cases b with
    | true => rw [if_pos rfl] at hh; exact ⟨fun _ => hh, fun h => Bool.noConfusion h⟩
    | false => rw [if_neg (by simp)] at hh; exact ⟨fun h => Bool.noConfusion h, fun _ => hh⟩
  obtain ⟨p0, q0⟩ := pick h0
  obtain ⟨p1, q1⟩ := pick h1
  obtain ⟨p2, q2⟩ := pick h2
  obtain ⟨p3, q3⟩ := pick h3
  obtain ⟨p4, q4⟩ := pick h4
  obtain ⟨p5, q5⟩ := pick h5
  have e1 : ∀ b : Bool, b = true ∨ b = false := fun b => by cases b <;> simp
  have fn : ∀ h : hasF e 1 = false, e.n = 0 := fun h => by have := q1 h; simpa using this
  have tn : ∀ h : hasF e 1 = true, 1 ≤ e.n ∧ e.n ≤ 2147483647 := fun h => by have := p1 h; simpa using this
  have fs : ∀ h : hasF e 3 = false, e.name = ⟨#[]⟩ := fun h => toList_nil (q3 h)
  have ts : ∀ h : hasF e 3 = true, e.name.toList.isEmpty = false ∧ e.name.size ≤ 1000 := fun h => by
    have := p3 h
    simp only [Bool.and_eq_true, Bool.not_eq_true', decide_eq_true_iff] at this
    exact this
  have ft : ∀ h : hasF e 4 = false, e.text = ⟨#[]⟩ := fun h => toList_nil (q4 h)
  refine ⟨k1, k2, fun h => by have := q0 h; simpa using this, fun h => by have := p0 h; simpa using this, fn, ?_, ?_, fun h => (tn h).1, fun h => by have := q2 h; simpa using this, ?_, fs, ?_, fun h => (ts h).1, ft, ?_, fun h => q5 h, ?_⟩
  · rcases e1 (hasF e 1) with h | h
    · have := tn h; omega
    · rw [fn h]; omega
  · rcases e1 (hasF e 1) with h | h
    · exact (tn h).2
    · rw [fn h]; omega
  · rcases e1 (hasF e 2) with h | h
    · have := p2 h; simpa using this
    · have : e.at' = 0 := by have := q2 h; simpa using this
      omega
  · rcases e1 (hasF e 3) with h | h
    · exact (ts h).2
    · rw [fs h]; decide
  · rcases e1 (hasF e 4) with h | h
    · have := p4 h; simpa using this
    · rw [ft h]; decide
  · rcases e1 (hasF e 5) with h | h
    · exact p5 h
    · rw [Vt.same_valid e.v zeroT 8 (q5 h)]; exact zero_val

theorem sel6 (b0 b1 b2 b3 b4 b5 : Bool) (p0 p1 p2 p3 p4 p5 : List Nat) : sel [b0, b1, b2, b3, b4, b5] [p0, p1, p2, p3, p4, p5] 6 = (if b0 then p0 else []) ++ ((if b1 then p1 else []) ++ ((if b2 then p2 else []) ++ ((if b3 then p3 else []) ++ ((if b4 then p4 else []) ++ (if b5 then p5 else []))))) := by simp [sel]
theorem opt_split {α : Type} {b : Bool} {p p' r r' : List α} {X : Prop} (hs : b = true → p ++ r = p' ++ r' → X ∧ r = r') (h : (if b then p else []) ++ r = (if b then p' else []) ++ r') : (b = true → X) ∧ r = r' := by
  cases b with
  | true =>
    simp only [if_true] at h
    obtain ⟨h1, h2⟩ := hs rfl h
    exact ⟨fun _ => h1, h2⟩
  | false => exact ⟨fun h => Bool.noConfusion h, by simpa using h⟩

theorem eform_split {a b : EV} (ha : VE a) (hb : VE b) (fa : FieldsOk a) (fb : FieldsOk b) (ga : Pf.VT.fine a.v) (gb : Pf.VT.fine b.v) {r r' : List Nat} (h : eform a ++ r = eform b ++ r') : evSame a b = true ∧ r = r' := by
  unfold eform at h
  rw [sel6, sel6] at h
  simp only [List.append_assoc, List.cons_append, List.nil_append, List.cons.injEq, true_and] at h
  have ka1 := ha.k1; have ka2 := ha.k2; have kb1 := hb.k1; have kb2 := hb.k2
  obtain ⟨hk, h⟩ := ub_split (by omega) (by omega) h
  have hkk : a.k = b.k := by omega
  have hF : ∀ j, hasF b j = hasF a j := fun j => by unfold hasF; rw [hkk]
  simp only [hF] at h
  have na1 := ha.n1; have na2 := ha.n2; have nb1 := hb.n1; have nb2 := hb.n2
  obtain ⟨e0, h⟩ := opt_split (X := a.id = b.id) (fun _ hh => ub_split fa.i1 fb.i1 hh) h
  obtain ⟨e1, h⟩ := opt_split (X := a.n.toNat = b.n.toNat) (fun _ hh => ub_split (by omega) (by omega) hh) h
  obtain ⟨e2, h⟩ := opt_split (X := a.at' = b.at') (fun _ hh => ub_split fa.a1 fb.a1 hh) h
  have s1 := ha.s1; have s2 := hb.s1; have t1 := ha.t1; have t2 := hb.t1
  obtain ⟨e3, h⟩ := opt_split (X := a.name = b.name) (fun _ hh => sform_split (by omega) (by omega) hh) h
  obtain ⟨e4, h⟩ := opt_split (X := a.text = b.text) (fun _ hh => sform_split (by omega) (by omega) hh) h
  obtain ⟨e5, h⟩ := opt_split (X := a.v.same b.v = true) (fun _ hh => form_split a.v b.v 8 8 r r' ha.v1 hb.v1 ga gb hh) h
  refine ⟨?_, h⟩
  have c : ∀ b : Bool, b = true ∨ b = false := fun b => by cases b <;> simp
  have d0 : a.id = b.id := by
    rcases c (hasF a 0) with q | q
    · exact e0 q
    · rw [ha.i0 q, hb.i0 ((hF 0).trans q)]
  have d1 : a.n = b.n := by
    rcases c (hasF a 1) with q | q
    · have := e1 q; omega
    · rw [ha.n0 q, hb.n0 ((hF 1).trans q)]
  have d2 : a.at' = b.at' := by
    rcases c (hasF a 2) with q | q
    · exact e2 q
    · rw [ha.a0 q, hb.a0 ((hF 2).trans q)]
  have d3 : a.name = b.name := by
    rcases c (hasF a 3) with q | q
    · exact e3 q
    · rw [ha.s0 q, hb.s0 ((hF 3).trans q)]
  have d4 : a.text = b.text := by
    rcases c (hasF a 4) with q | q
    · exact e4 q
    · rw [ha.t0 q, hb.t0 ((hF 4).trans q)]
  have d5 : a.v.same b.v = true := by
    rcases c (hasF a 5) with q | q
    · exact e5 q
    · exact Vt.same_trans _ _ _ (ha.v0 q) (Vt.same_symm _ _ (hb.v0 ((hF 5).trans q)))
  simp [evSame, hkk, d0, d1, d2, d3, d4, d5]

end Vf
end Go.Proofs.YtcbddebmmaflgaaGreat
