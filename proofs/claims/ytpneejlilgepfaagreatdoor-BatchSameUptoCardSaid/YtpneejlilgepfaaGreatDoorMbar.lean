/- Texts of values: what a text is, and where it ends. No program in sight. -/
/- strings.Repeat: the shelf's contract laid at this program. -/
/- num.Text of any number. -/
import Derived.Test.YtpneejlilgepfaaGreatDoorMbao
import Derived.Test.YtpneejlilgepfaaGreatDoorMbaq
import Derived.Shelf.Strings.Repeat
import Derived.Laws.BitsAllLaws
namespace Go.Proofs.YtpneejlilgepfaaGreatDoor
open Go.RowKit
set_option linter.unusedVariables false
namespace Pf
open _root_.Go.Proofs.YtpneejlilgepfaaGreatDoor.Nm (bitsW)
open Vt (VT)
open Bt (ubytes sb sb_len)
open Fu (textW hd hd_lt hd_inj dec_inj dec_ne_nil textW_inj bytes_ext)

/-- Bytes at which a word ends: a blank, a semicolon, a bracket. -/
def stopb (x : UInt8) : Bool := x == 32 || x == 59 || x == 93
def Stops (r : List UInt8) : Prop := r = [] ∨ ∃ x r', r = x :: r' ∧ stopb x = true
theorem word_split {a : List UInt8} : ∀ {a' r r' : List UInt8}, (∀ x ∈ a, stopb x = false) → (∀ x ∈ a', stopb x = false) → Stops r → Stops r' → a ++ r = a' ++ r' → a = a' ∧ r = r' := by
  induction a with
  | nil =>
    intro a' r r' _ h2 hr hr' h
    cases a' with
    | nil => exact ⟨rfl, h⟩
    | cons y a' =>
      exfalso
      rcases hr with rfl | ⟨x, q, rfl, hx⟩
      · simp at h
      · simp only [List.nil_append, List.cons_append, List.cons.injEq] at h
        rw [h.1, h2 y (by simp)] at hx
        cases hx
  | cons x a ih =>
    intro a' r r' h1 h2 hr hr' h
    cases a' with
    | nil =>
      exfalso
      rcases hr' with rfl | ⟨y, q, rfl, hy⟩
      · simp at h
      · simp only [List.nil_append, List.cons_append, List.cons.injEq] at h
        rw [← h.1, h1 x (by simp)] at hy
        cases hy
    | cons y a' =>
      simp only [List.cons_append, List.cons.injEq] at h
      obtain ⟨h3, h4⟩ := ih (fun z hz => h1 z (List.mem_cons_of_mem _ hz)) (fun z hz => h2 z (List.mem_cons_of_mem _ hz)) hr hr' h.2
      exact ⟨by rw [h.1, h3], h4⟩

theorem ofNat_toNat {x : Nat} (h : x < 256) : (UInt8.ofNat x).toNat = x := by rw [UInt8.toNat_ofNat']; omega
theorem stop_of {x : UInt8} (h1 : x.toNat ≠ 32) (h2 : x.toNat ≠ 59) (h3 : x.toNat ≠ 93) : stopb x = false := by
  unfold stopb
  simp only [Bool.or_eq_false_iff, beq_eq_false_iff_ne, ne_eq]
  refine ⟨⟨fun e => h1 ?_, fun e => h2 ?_⟩, fun e => h3 ?_⟩ <;> rw [e] <;> rfl

theorem dec_digit (n : Nat) : ∀ x ∈ Lib.decDigits n, 48 ≤ x.toNat ∧ x.toNat ≤ 57 := by
  induction n using Nat.strongRecOn with
  | ind n ih =>
    by_cases h : n < 10
    · rw [Fu.dec_small n h]
      intro x hx
      rw [List.mem_singleton.1 hx]
      unfold Fu.dgt
      rw [ofNat_toNat (by omega)]
      omega
    · rw [Fu.dec_big n h]
      intro x hx
      rcases List.mem_append.1 hx with hx | hx
      · exact ih (n / 10) (by omega) x hx
      · rw [List.mem_singleton.1 hx]
        unfold Fu.dgt
        rw [ofNat_toNat (by omega)]
        omega
theorem dec_word (n : Nat) : ∀ x ∈ Lib.decDigits n, stopb x = false := fun x hx => by
  obtain ⟨h1, h2⟩ := dec_digit n x hx
  exact stop_of (by omega) (by omega) (by omega)
theorem dec_head (n : Nat) : ∃ c r, Lib.decDigits n = c :: r ∧ 48 ≤ c.toNat ∧ c.toNat ≤ 57 := by
  cases h : Lib.decDigits n with
  | nil => exact absurd h (dec_ne_nil n)
  | cons c r => exact ⟨c, r, rfl, dec_digit n c (by rw [h]; simp)⟩
theorem itoa_word (n : Int) : ∀ x ∈ Lib.itoa n, stopb x = false := by
  unfold Lib.itoa
  intro x hx
  split at hx
  · rcases List.mem_cons.1 hx with rfl | hx
    · decide
    · exact dec_word _ x hx
  · exact dec_word _ x hx
theorem itoa_head (n : Int) : ∃ c r, Lib.itoa n = c :: r ∧ 45 ≤ c.toNat ∧ c.toNat ≤ 57 := by
  unfold Lib.itoa
  split
  · exact ⟨45, _, rfl, by decide, by decide⟩
  · obtain ⟨c, r, h, h1, h2⟩ := dec_head n.toNat
    exact ⟨c, r, h, by omega, h2⟩
theorem itoa_inj {n m : Int} (h : Lib.itoa n = Lib.itoa m) : n = m := by
  unfold Lib.itoa at h
  have key : ∀ (a b : Nat), (45 : UInt8) :: Lib.decDigits a ≠ Lib.decDigits b := fun a b e => by
    obtain ⟨c, r, h1, h2, -⟩ := dec_head b
    rw [h1] at e
    obtain ⟨rfl, -⟩ := List.cons.inj e
    exact absurd h2 (by decide)
  split at h <;> split at h
  · have := dec_inj _ _ (List.cons.inj h).2
    omega
  · exact absurd h (key _ _)
  · exact absurd h.symm (key _ _)
  · have := dec_inj _ _ h
    omega

/-- Two digits for each byte. -/
def hexL (l : List Nat) : List UInt8 := (l.map fun c => [UInt8.ofNat (hd (c / 16)), UInt8.ofNat (hd (c % 16))]).flatten
theorem hexL_cons (c : Nat) (l : List Nat) : hexL (c :: l) = UInt8.ofNat (hd (c / 16)) :: UInt8.ofNat (hd (c % 16)) :: hexL l := by simp [hexL]
theorem sb_lt (s : ByteArray) : ∀ b ∈ sb s, b < 256 := fun b hb => by
  simp only [sb, List.mem_map] at hb
  obtain ⟨x, -, rfl⟩ := hb
  exact x.toNat_lt
theorem hd_eq {x y : Nat} (hx : x < 16) (hy : y < 16) (h : UInt8.ofNat (hd x) = UInt8.ofNat (hd y)) : x = y := by
  have h1 := congrArg UInt8.toNat h
  have h2 := hd_lt x hx
  have h3 := hd_lt y hy
  rw [ofNat_toNat (by omega), ofNat_toNat (by omega)] at h1
  exact hd_inj x y hx hy h1
theorem hexL_inj (l : List Nat) : ∀ l' : List Nat, (∀ b ∈ l, b < 256) → (∀ b ∈ l', b < 256) → hexL l = hexL l' → l = l' := by
  induction l with
  | nil => intro l' _ _ h; cases l' with
    | nil => rfl
    | cons c l' => rw [hexL_cons] at h; simp [hexL] at h
  | cons c l ih => intro l' h1 h2 h; cases l' with
    | nil => rw [hexL_cons] at h; simp [hexL] at h
    | cons c' l' =>
      rw [hexL_cons, hexL_cons] at h
      simp only [List.cons.injEq] at h
      obtain ⟨e1, e2, e3⟩ := h
      have a1 := h1 c (by simp)
      have a2 := h2 c' (by simp)
      have b1 := hd_eq (by omega) (by omega) e1
      have b2 := hd_eq (by omega) (by omega) e2
      rw [ih l' (fun b hb => h1 b (List.mem_cons_of_mem _ hb)) (fun b hb => h2 b (List.mem_cons_of_mem _ hb)) e3]
      congr 1
      omega
theorem hd_word {x : Nat} (h : x < 16) : stopb (UInt8.ofNat (hd x)) = false := by
  have h2 := hd_lt x h
  have h3 : (48 ≤ hd x ∧ hd x ≤ 57) ∨ (97 ≤ hd x ∧ hd x ≤ 102) := by unfold hd; split <;> omega
  apply stop_of <;> rw [ofNat_toNat (by omega)] <;> omega
theorem hexL_word (l : List Nat) (hl : ∀ b ∈ l, b < 256) : ∀ x ∈ hexL l, stopb x = false := by
  induction l with
  | nil => intro x hx; simp [hexL] at hx
  | cons c l ih =>
    rw [hexL_cons]
    have := hl c (by simp)
    intro x hx
    rcases List.mem_cons.1 hx with rfl | hx
    · exact hd_word (by omega)
    · rcases List.mem_cons.1 hx with rfl | hx
      · exact hd_word (by omega)
      · exact ih (fun b hb => hl b (List.mem_cons_of_mem _ hb)) x hx
theorem textW_word (v : Nat) : ∀ x ∈ (textW v).data.toList, stopb x = false := by
  have ht : ∀ x ∈ (Fu.top v 16).data.toList, stopb x = false := by
    rw [Fu.top_list]
    intro x hx
    rcases List.mem_cons.1 hx with rfl | hx
    · decide
    · simp only [Fu.hexN, List.mem_map, List.mem_range] at hx
      obtain ⟨i, -, rfl⟩ := hx
      exact hd_word (Nat.mod_lt _ (by omega))
  unfold textW
  split
  · decide
  · split
    · decide
    · split
      · decide
      · split
        · decide
        · split
          · decide
          · exact ht

/-- The text of a string. -/
def stext (s : ByteArray) : List UInt8 := 34 :: (hexL (sb s) ++ [34])
theorem stext_word (s : ByteArray) : ∀ x ∈ stext s, stopb x = false := by
  unfold stext
  intro x hx
  rcases List.mem_cons.1 hx with rfl | hx
  · decide
  · rcases List.mem_append.1 hx with hx | hx
    · exact hexL_word _ (sb_lt s) x hx
    · rw [List.mem_singleton.1 hx]; decide
theorem stext_inj {s s' : ByteArray} (h : stext s = stext s') : s = s' := by
  unfold stext at h
  have h1 := (List.cons.inj h).2
  exact sb_inj (hexL_inj _ _ (sb_lt s) (sb_lt s') (List.append_inj' h1 rfl).1)

/-- The text of a value. -/
def VT.text (t : VT) : List UInt8 := t.fold fun k n f s r => if k = 1 then Lib.itoa n else if k = 2 then 35 :: (textW (bitsW f)).data.toList else if k = 3 then stext s else if k = 4 then 91 :: (Lib.join r [32] ++ [93]) else [110, 105, 108]
theorem text_mk (k n : Int) (f : Nat) (s : ByteArray) (l : List VT) : VT.text (.mk k n f s l) = if k = 1 then Lib.itoa n else if k = 2 then 35 :: (textW (bitsW f)).data.toList else if k = 3 then stext s else if k = 4 then 91 :: (Lib.join (l.map VT.text) [32] ++ [93]) else [110, 105, 108] := by
  unfold VT.text; rw [VT.fold]

/-- The kind of the value whose text begins with a byte. -/
def kindOf (c : UInt8) : Int := if c.toNat = 110 then 0 else if c.toNat = 35 then 2 else if c.toNat = 34 then 3 else if c.toNat = 91 then 4 else 1
theorem text_head {t : VT} {d : Nat} (h : t.valid d = true) : ∃ c r, VT.text t = c :: r ∧ kindOf c = t.k ∧ c.toNat ≠ 93 := by
  obtain ⟨k, n, f, s, l⟩ := t
  rw [text_mk]
  rcases valid_cases h with ⟨rfl, -⟩ | ⟨rfl, -⟩ | ⟨rfl, -⟩ | ⟨rfl, -⟩ | ⟨rfl, -⟩
  · exact ⟨110, _, rfl, rfl, by decide⟩
  · obtain ⟨c, r, e, h1, h2⟩ := itoa_head n
    refine ⟨c, r, by rw [if_pos rfl]; exact e, ?_, by omega⟩
    unfold kindOf
    rw [if_neg (by omega), if_neg (by omega), if_neg (by omega), if_neg (by omega)]
  · exact ⟨35, _, rfl, rfl, by decide⟩
  · exact ⟨34, _, rfl, rfl, by decide⟩
  · exact ⟨91, _, rfl, rfl, by decide⟩

theorem tail_stops (l : List (List UInt8)) (r : List UInt8) : Stops (Lib.joinTail [32] l ++ ([93] ++ r)) := by
  cases l with
  | nil => exact .inr ⟨93, r, rfl, by decide⟩
  | cons x l => exact .inr ⟨32, _, rfl, by decide⟩

theorem tails_split (l : List VT) : ∀ (l' : List VT) (r r' : List UInt8), (∀ t ∈ l, ∀ t' ∈ l', ∀ (r r' : List UInt8), Stops r → Stops r' → VT.text t ++ r = VT.text t' ++ r' → t.same t' = true ∧ r = r') →
    Lib.joinTail [32] (l.map VT.text) ++ ([93] ++ r) = Lib.joinTail [32] (l'.map VT.text) ++ ([93] ++ r') → l.length = l'.length ∧ (∀ (i : Nat) (hi : i < l.length) (hi' : i < l'.length), l[i].same l'[i] = true) ∧ r = r' := by
  induction l with
  | nil => intro l' r r' _ h; cases l' with
    | nil =>
      simp [Lib.joinTail] at h
      exact ⟨rfl, fun i hi => absurd hi (by simp), h⟩
    | cons _ _ => exfalso; simp [Lib.joinTail] at h
  | cons t l ih => intro l' r r' hk h; cases l' with
    | nil => exfalso; simp [Lib.joinTail] at h
    | cons t' l' =>
      have e : ∀ (x : VT) (m : List VT) (q : List UInt8), Lib.joinTail [32] ((x :: m).map VT.text) ++ ([93] ++ q) = 32 :: (VT.text x ++ (Lib.joinTail [32] (m.map VT.text) ++ ([93] ++ q))) := fun x m q => by simp [Lib.joinTail]
      rw [e, e] at h
      obtain ⟨h1, h2⟩ := hk t (by simp) t' (by simp) _ _ (tail_stops _ _) (tail_stops _ _) (List.cons.inj h).2
      obtain ⟨h3, h4, h5⟩ := ih l' r r' (fun x hx y hy => hk x (List.mem_cons_of_mem _ hx) y (List.mem_cons_of_mem _ hy)) h2
      refine ⟨by simp [h3], fun i hi hi' => ?_, h5⟩
      cases i with
      | zero => simpa using h1
      | succ i => simpa using h4 i (by simpa using hi) (by simpa using hi')

theorem list_split (l l' : List VT) (r r' : List UInt8) (hv : ∀ t ∈ l, ∃ d, t.valid d = true) (hv' : ∀ t ∈ l', ∃ d, t.valid d = true) (hk : ∀ t ∈ l, ∀ t' ∈ l', ∀ (r r' : List UInt8), Stops r → Stops r' → VT.text t ++ r = VT.text t' ++ r' → t.same t' = true ∧ r = r')
    (h : Lib.join (l.map VT.text) [32] ++ ([93] ++ r) = Lib.join (l'.map VT.text) [32] ++ ([93] ++ r')) : l.length = l'.length ∧ (∀ (i : Nat) (hi : i < l.length) (hi' : i < l'.length), l[i].same l'[i] = true) ∧ r = r' := by
  have e : ∀ (x : VT) (m : List VT) (q : List UInt8), Lib.join ((x :: m).map VT.text) [32] ++ ([93] ++ q) = VT.text x ++ (Lib.joinTail [32] (m.map VT.text) ++ ([93] ++ q)) := fun x m q => by
    rw [List.map_cons, Lib.join_cons, List.append_assoc]
  have hne : ∀ (x : VT) (q q' : List UInt8), (∃ d, x.valid d = true) → VT.text x ++ q ≠ 93 :: q' := fun x q q' ⟨d, hd⟩ ee => by
    obtain ⟨c, r, e1, -, e3⟩ := text_head hd
    rw [e1, List.cons_append] at ee
    obtain ⟨rfl, -⟩ := List.cons.inj ee
    exact e3 rfl
  cases l with
  | nil => cases l' with
    | nil =>
      simp [Lib.join_nil] at h
      exact ⟨rfl, fun i hi => absurd hi (by simp), h⟩
    | cons t' l' =>
      exfalso
      rw [e, List.map_nil, Lib.join_nil] at h
      exact hne t' _ _ (hv' t' (by simp)) h.symm
  | cons t l => cases l' with
    | nil =>
      exfalso
      rw [e, List.map_nil, Lib.join_nil] at h
      exact hne t _ _ (hv t (by simp)) h
    | cons t' l' =>
      rw [e, e] at h
      obtain ⟨h1, h2⟩ := hk t (by simp) t' (by simp) _ _ (tail_stops _ _) (tail_stops _ _) h
      obtain ⟨h3, h4, h5⟩ := tails_split l l' r r' (fun x hx y hy => hk x (List.mem_cons_of_mem _ hx) y (List.mem_cons_of_mem _ hy)) h2
      refine ⟨by simp [h3], fun i hi hi' => ?_, h5⟩
      cases i with
      | zero => simpa using h1
      | succ i => simpa using h4 i (by simpa using hi) (by simpa using hi')

/-- Where the text of a valid value ends, and that it tells the value. -/
theorem text_split (t : VT) : ∀ (t' : VT) (d d' : Nat) (r r' : List UInt8), t.valid d = true → t'.valid d' = true → VT.fine t → VT.fine t' → Stops r → Stops r' → VT.text t ++ r = VT.text t' ++ r' → t.same t' = true ∧ r = r' := by
  induction t using VT.ind with
  | _ k n f s l ih =>
    rintro ⟨k', n', f', s', l'⟩ d d' r r' hv hv' hg hg' hr hr' h
    obtain ⟨c, q, e1, e2, -⟩ := text_head hv
    obtain ⟨c', q', e1', e2', -⟩ := text_head hv'
    have hkk : k = k' := by
      rw [e1, e1', List.cons_append, List.cons_append] at h
      rw [(List.cons.inj h).1] at e2
      exact e2.symm.trans e2'
    subst hkk
    clear e1 e2 e1' e2'
    obtain ⟨⟨n0, n1, f1, s1, m1⟩, hkg⟩ := fine_mk.1 hg
    obtain ⟨⟨n0', n1', f1', s1', m1'⟩, hkg'⟩ := fine_mk.1 hg'
    rw [text_mk, text_mk] at h
    rcases valid_cases hv with ⟨rfl, rfl, b1, b2, rfl⟩ | ⟨rfl, b1, b2, rfl⟩ | ⟨rfl, rfl, b2, rfl⟩ | ⟨rfl, rfl, b1, rfl⟩ | ⟨rfl, rfl, b1, b2, b3⟩
    · rcases valid_cases hv' with ⟨-, rfl, c1, c2, rfl⟩ | ⟨c, -⟩ | ⟨c, -⟩ | ⟨c, -⟩ | ⟨c, -⟩ <;> try omega
      rw [size_zero b2, size_zero c2]
      exact ⟨same_mk_of (b1.trans c1.symm) rfl (fun i hi => absurd hi (by simp)), by simpa using h⟩
    · rcases valid_cases hv' with ⟨c, -⟩ | ⟨-, c1, c2, rfl⟩ | ⟨c, -⟩ | ⟨c, -⟩ | ⟨c, -⟩ <;> try omega
      rw [if_pos rfl, if_pos rfl] at h
      obtain ⟨e, h⟩ := word_split (itoa_word n) (itoa_word n') hr hr' h
      rw [size_zero b2, size_zero c2, itoa_inj e]
      exact ⟨same_mk_of (b1.trans c1.symm) rfl (fun i hi => absurd hi (by simp)), h⟩
    · rcases valid_cases hv' with ⟨c, -⟩ | ⟨c, -⟩ | ⟨-, rfl, c2, rfl⟩ | ⟨c, -⟩ | ⟨c, -⟩ <;> try omega
      rw [if_neg (by omega), if_pos rfl, if_neg (by omega), if_pos rfl, List.cons_append, List.cons_append] at h
      obtain ⟨e, h⟩ := word_split (textW_word _) (textW_word _) hr hr' (List.cons.inj h).2
      rw [size_zero b2, size_zero c2]
      exact ⟨same_mk_of (textW_inj _ _ (bits_lt f1) (bits_lt f1') (bytes_ext e)) rfl (fun i hi => absurd hi (by simp)), h⟩
    · rcases valid_cases hv' with ⟨c, -⟩ | ⟨c, -⟩ | ⟨c, -⟩ | ⟨-, rfl, c1, rfl⟩ | ⟨c, -⟩ <;> try omega
      rw [if_neg (by omega), if_neg (by omega), if_pos rfl, if_neg (by omega), if_neg (by omega), if_pos rfl] at h
      obtain ⟨e, h⟩ := word_split (stext_word s) (stext_word s') hr hr' h
      rw [stext_inj e]
      exact ⟨same_mk_of (b1.trans c1.symm) rfl (fun i hi => absurd hi (by simp)), h⟩
    · rcases valid_cases hv' with ⟨c, -⟩ | ⟨c, -⟩ | ⟨c, -⟩ | ⟨c, -⟩ | ⟨-, rfl, c1, c2, c3⟩ <;> try omega
      rw [if_neg (by omega), if_neg (by omega), if_neg (by omega), if_pos rfl, if_neg (by omega), if_neg (by omega), if_neg (by omega), if_pos rfl, List.cons_append, List.cons_append, List.append_assoc, List.append_assoc] at h
      obtain ⟨h0, h1, h2⟩ := list_split l l' r r' (fun t ht => ⟨_, b3 t ht⟩) (fun t ht => ⟨_, c3 t ht⟩) (fun t ht t' ht' r r' hr hr' hh => by
        obtain ⟨i, hi, rfl⟩ := List.getElem_of_mem ht
        exact ih i hi t' (d - 1) (d' - 1) r r' (b3 _ ht) (c3 _ ht') (hkg _ ht) (hkg' _ ht') hr hr' hh) (List.cons.inj h).2
      rw [size_zero b2, size_zero c2]
      exact ⟨same_mk_of (b1.trans c1.symm) h0 h1, h2⟩

/-- Values that are the same have the same text. -/
theorem text_same (t : VT) : ∀ t' : VT, t.same t' = true → VT.text t = VT.text t' := by
  induction t using VT.ind with
  | _ k n f s l ih =>
    rintro ⟨k', n', f', s', l'⟩ h
    obtain ⟨rfl, rfl, rfl, hf, hl, hL⟩ := (Vt.same_iff ..).1 h
    have : l.map VT.text = l'.map VT.text := by
      apply List.ext_getElem (by simpa using hl)
      intro i h1 h2
      simpa using ih i (by simpa using h1) _ (hL i (by simpa using h1) (by simpa using h2))
    rw [text_mk, text_mk, hf, this]
end Pf
end Go.Proofs.YtpneejlilgepfaaGreatDoor
namespace Go.Proofs.YtpneejlilgepfaaGreatDoor
open Go.RowKit Go.Shelf

def Tryz.laysRepeat_ren : Go.Shelf.Ren := ⟨fun | 105 => 189 | 212 => 191 | 99 => 192 | 165 => 93 | 166 => 94 | 170 => 193 | 169 => 95 | 263 => 194 | 264 => 195 | 206 => 196 | 240 => 125 | 241 => 126 | 276 => 146 | 277 => 147 | n => n, fun | 9 => 9 | 3 => 3 | 4 => 4 | 20 => 20 | 0 => 0 | 46 => 143 | 109 => 201 | 5 => 5 | 72 => 120 | 76 => 124 | 51 => 172 | 146 => 204 | 53 => 22 | 148 => 206 | 70 => 118 | 37 => 31 | 75 => 123 | 127 => 156 | 164 => 175 | 80 => 83 | n => n, fun | n => n⟩
theorem Tryz.laysRepeat : Go.Proofs.Lays.n105 Tryz.prog Tryz.laysRepeat_ren := {
  mixed := by kernel_rfl
  f99 := Tryz.func192.trans (congrArg some (by kernel_rfl))
  f105 := Tryz.func189.trans (congrArg some (by kernel_rfl))
  f165 := Tryz.func93.trans (congrArg some (by kernel_rfl))
  f166 := Tryz.func94.trans (congrArg some (by kernel_rfl))
  f169 := Tryz.func95.trans (congrArg some (by kernel_rfl))
  f170 := Tryz.func193.trans (congrArg some (by kernel_rfl))
  f206 := Tryz.func196.trans (congrArg some (by kernel_rfl))
  f212 := Tryz.func191.trans (congrArg some (by kernel_rfl))
  f240 := Tryz.func125.trans (congrArg some (by kernel_rfl))
  f241 := Tryz.func126.trans (congrArg some (by kernel_rfl))
  f263 := Tryz.func194.trans (congrArg some (by kernel_rfl))
  f264 := Tryz.func195.trans (congrArg some (by kernel_rfl))
  f276 := Tryz.func146.trans (congrArg some (by kernel_rfl))
  f277 := Tryz.func147.trans (congrArg some (by kernel_rfl))
  t0 := Tryz.underlying0
  a0 := Tryz.isAgg0
  z0 := Tryz.sizeOf0
  v0 := Tryz.zeroValue0
  t3 := Tryz.underlying3
  a3 := Tryz.isAgg3
  z3 := Tryz.sizeOf3
  v3 := Tryz.zeroValue3
  t4 := Tryz.underlying4
  a4 := Tryz.isAgg4
  z4 := Tryz.sizeOf4
  v4 := Tryz.zeroValue4
  t5 := Tryz.underlying5
  a5 := Tryz.isAgg5
  z5 := Tryz.sizeOf5
  v5 := Tryz.zeroValue5
  t9 := Tryz.underlying9
  a9 := Tryz.isAgg9
  z9 := Tryz.sizeOf9
  v9 := Tryz.zeroValue9
  t20 := Tryz.underlying20
  a20 := Tryz.isAgg20
  z20 := Tryz.sizeOf20
  v20 := Tryz.zeroValue20
  t37 := Tryz.underlying31
  a37 := Tryz.isAgg31
  z37 := Tryz.sizeOf31
  v37 := Tryz.zeroValue31
  t46 := Tryz.underlying143
  a46 := Tryz.isAgg143
  z46 := Tryz.sizeOf143
  v46 := Tryz.zeroValue143
  t51 := Tryz.underlying172
  a51 := Tryz.isAgg172
  z51 := Tryz.sizeOf172
  v51 := Tryz.zeroValue172
  t53 := Tryz.underlying22
  a53 := Tryz.isAgg22
  z53 := Tryz.sizeOf22
  v53 := Tryz.zeroValue22
  t70 := Tryz.underlying118
  a70 := Tryz.isAgg118
  z70 := Tryz.sizeOf118
  v70 := Tryz.zeroValue118
  t72 := Tryz.underlying120
  a72 := Tryz.isAgg120
  z72 := Tryz.sizeOf120
  v72 := Tryz.zeroValue120
  t75 := Tryz.underlying123
  a75 := Tryz.isAgg123
  z75 := Tryz.sizeOf123
  v75 := Tryz.zeroValue123
  t76 := Tryz.underlying124
  a76 := Tryz.isAgg124
  z76 := Tryz.sizeOf124
  v76 := Tryz.zeroValue124
  t109 := Tryz.underlying201
  a109 := Tryz.isAgg201
  z109 := Tryz.sizeOf201
  v109 := Tryz.zeroValue201
  t127 := Tryz.underlying156
  a127 := Tryz.isAgg156
  z127 := Tryz.sizeOf156
  v127 := Tryz.zeroValue156
  t146 := Tryz.underlying204
  a146 := Tryz.isAgg204
  z146 := Tryz.sizeOf204
  v146 := Tryz.zeroValue204
  t148 := Tryz.underlying206
  a148 := Tryz.isAgg206
  z148 := Tryz.sizeOf206
  v148 := Tryz.zeroValue206
  t164 := Tryz.underlying175
  a164 := Tryz.isAgg175
  z164 := Tryz.sizeOf175
  v164 := Tryz.zeroValue175 }

theorem Tryz.extraRepeat : Builder.Extra Tryz.prog Tryz.laysRepeat_ren := {
  sizeBuilder := by kernel_rfl
  liesBuilder := by kernel_rfl
  t5 := Tryz.laysRepeat.t5
  a5 := Tryz.laysRepeat.a5
  z5 := Tryz.laysRepeat.z5
  v5 := Tryz.laysRepeat.v5
  infoByte := by kernel_rfl
  cellsByte := by kernel_rfl
  sizeByte := by kernel_rfl
  neB5 := by decide }

namespace Fu
theorem repeat_any (s : ByteArray) (c : Nat) (w : World) (hc : c ≤ 9223372036854775807) (hlen : s.size * c ≤ 140737488355328) :
    Calls Tryz.prog 189 #[.string s, .int .i64 c] w fun e w' => e = .returned (.string ⟨(Lib.repeatL s.data.toList c).toArray⟩) ∧ Below w.heap.size w w' :=
  Any.strings_Repeat Tryz.laysRepeat Tryz.extraRepeat s c w hc hlen
end Fu
end Go.Proofs.YtpneejlilgepfaaGreatDoor
namespace Go.Proofs.YtpneejlilgepfaaGreatDoor
open Go.RowKit
set_option linter.unusedVariables false
namespace Fu
open _root_.Go.Proofs.YtpneejlilgepfaaGreatDoor.Nm (bitsW run_f64bits run_frombits ret_bool V_pos sv_zero ord_small neq_self signbit_any bits_any quietW)
/-- A number is plus or minus 0. -/
theorem ord_eq0 (b : Nat) : (FloatKind.f64.format.order b 0 == some Ordering.eq) = decide (b % 9223372036854775808 = 0) := by
  show (Ieee.double.order b 0 == some Ordering.eq) = _
  cases hn : Fm.isNan b with
  | true =>
    rw [Fm.order_nan_l b 0 hn]
    simp only [Fm.isNan, decide_eq_true_eq] at hn
    have : ¬ (b % 9223372036854775808 = 0) := by omega
    simp [this]
  | false =>
    rw [Fm.order_eq b 0 hn (by decide), sv_zero]
    have h1 := Fm.SV_abs b
    by_cases h : b % 9223372036854775808 = 0
    · have h2 : b % 2 ^ 63 = 0 := h
      rw [h2, Fm.V_zero] at h1
      have h3 : Fm.SV b = 0 := by omega
      rw [h3]
      simp [h]
    · have h2 : 0 < Fm.V (b % 2 ^ 63) := V_pos h
      have h3 : Fm.SV b ≠ 0 := by omega
      have h4 : compare (Fm.SV b) 0 ≠ Ordering.eq := by
        intro hh
        exact h3 (Int.compare_eq_eq.1 hh)
      simp [h, h4]
theorem ord_gt (q c : Nat) (hq : q ≤ 2047 * 2 ^ 52) (hc : c ≤ 2047 * 2 ^ 52) : (FloatKind.f64.format.order q c == some Ordering.gt) = decide (c < q) := by
  rw [ord_small q c hq hc]
  by_cases h : c < q
  · have h2 : Fm.V c < Fm.V q := Fm.V_strict h
    have h3 : compare (Fm.V q : Int) (Fm.V c : Int) = Ordering.gt := Int.compare_eq_gt.2 (by omega)
    rw [h3]; simp [h]
  · have h2 : Fm.V q ≤ Fm.V c := by
      rcases (by omega : q < c ∨ q = c) with hh | hh
      · exact Nat.le_of_lt (Fm.V_strict hh)
      · rw [hh]; exact Nat.le_refl _
    have h3 : compare (Fm.V q : Int) (Fm.V c : Int) ≠ Ordering.gt := by
      intro hh
      have := Int.compare_eq_gt.1 hh
      omega
    simp [h, h3]
/-- A number without its sign is infinite. -/
theorem ord_inf (q : Nat) : (FloatKind.f64.format.order q 9218868437227405311 == some Ordering.gt) = decide (q = 9218868437227405312) ∨ 9223372036854775808 ≤ q := by
  obtain ⟨c, hc⟩ : ∃ c : Nat, c = 9218868437227405311 := ⟨_, rfl⟩
  rw [← hc]
  by_cases h0 : 9223372036854775808 ≤ q
  · exact .inr h0
  refine .inl ?_
  by_cases h1 : 2047 * 2 ^ 52 < q
  · have hn : Fm.isNan q = true := by simp only [Fm.isNan, decide_eq_true_eq]; omega
    have e := Fm.order_nan_l q c hn
    have e2 : (FloatKind.f64.format.order q c) = none := e
    rw [e2]
    have h2 : ¬ (q = 9218868437227405312) := by omega
    rw [decide_eq_false h2]
    rfl
  · rw [ord_gt q c (by omega) (by omega), decide_eq_decide]
    omega
theorem clr63 (b : Nat) (hb : b < 18446744073709551616) : bits BinOp.andNot IntKind.u64 (b : Int) 9223372036854775808 = ((b % 9223372036854775808 : Nat) : Int) := by
  have h := u64_andNot_nat b 9223372036854775808 hb (by omega)
  have e : b &&& (18446744073709551615 - 9223372036854775808) = b % 9223372036854775808 := Nat.and_two_pow_sub_one_eq_mod b 63
  rw [e] at h
  exact h
theorem isinf_any (b : Nat) (hb : b < 18446744073709551616) (w : World) : Calls Tryz.prog 188 #[.float .f64 b, .int .i64 0] w fun e w' => e = .returned (.bool (decide (b % 9223372036854775808 = 9218868437227405312))) ∧ w = w' := by
  have ha : Hid (∀ w, Calls Tryz.prog 190 #[.float .f64 b] w fun e w' => e = .returned (.float .f64 (b % 9223372036854775808)) ∧ w = w') := Lib.hid (by
    intro w
    have h1 := fun w => run_f64bits b w
    have h2 := fun b w => run_frombits b w
    have h3 := clr63 b hb
    go_enter Tryz.func190, Tryz.ntmps190
    go_wp2
    go_ret
    exact ⟨rfl, rfl⟩)
  have ho := (ord_inf (b % 9223372036854775808)).resolve_right (by omega)
  generalize b % 9223372036854775808 = q at *
  clear hb
  go_enter Tryz.func188, Tryz.ntmps188
  go_wp2_with fail
  refine (ha.out _).mono ?_
  rintro e w1 ⟨rfl, rfl⟩
  go_wp2_with fail
  go_ret
  exact ⟨rfl, rfl⟩
theorem rep48 (c : Nat) : Lib.repeatL [48] c = List.replicate c 48 := by
  have h := Lib.repeatL_replicate 48 1 c
  rw [Nat.mul_one] at h
  exact h
theorem hexN_pad (n v : Nat) (hn : n ≤ 16) (hv : v < 16 ^ n) : hexN 16 v = List.replicate (16 - n) 48 ++ hexN n v := by
  apply List.ext_getElem
  · simp [hexN_len]; omega
  · intro i h1 h2
    rw [hexN_len] at h1
    by_cases h : i < 16 - n
    · rw [List.getElem_append_left (by simpa using h), List.getElem_replicate]
      have e : v / 16 ^ (16 - 1 - i) = 0 := Nat.div_eq_of_lt (Nat.lt_of_lt_of_le hv (Nat.pow_le_pow_right (by omega) (by omega)))
      simp [hexN, e, hd]
    · rw [List.getElem_append_right (by simpa using (by omega : 16 - n ≤ i))]
      simp only [hexN, List.getElem_map, List.getElem_range, List.length_replicate]
      rw [show n - 1 - (i - (16 - n)) = 16 - 1 - i by omega]
theorem top_of (n v : Nat) (hn : n ≤ 16) (hv : v < 16 ^ n) : (⟨#[120]⟩ : ByteArray) ++ ⟨(Lib.repeatL [48] (16 - n)).toArray⟩ ++ ⟨(hexN n v).toArray⟩ = top v 16 := by
  unfold top
  rw [rep48, List.take_of_length_le (by rw [hexN_len]; omega), hexN_pad n v hn hv]
  apply ByteArray.ext
  simp
/-- num.Text of any number. -/
theorem ntext_any (b : Nat) (hb : b < 18446744073709551616) (w : World) (hc : w.cell? ⟨4, 15, none⟩ = some (.int .u8 4)) (hg : 4 < w.heap.size) :
    Calls Tryz.prog 187 #[.float .f64 b] w fun e w' => e = .returned (.string (textW (bitsW b))) ∧ Below w.heap.size w w' := by
  have hs := fun w => signbit_any b hb w
  have hi := fun w => isinf_any b hb w
  have hz := ord_eq0 b
  have hn := neq_self b
  have hx : Hid (∀ w, Calls Tryz.prog 111 #[.float .f64 b] w fun e w' => e = .returned (.int .u64 (bitsW b)) ∧ w = w') := Lib.hid (bits_any b)
  have hbn : Hid (Fm.neg b = (b / 9223372036854775808 % 2 == 1)) := Lib.hid rfl
  have hbb : Hid (b < 18446744073709551616) := Lib.hid hb
  have hvl : Hid (bitsW b < 18446744073709551616) := Lib.hid (Nm.bitsW_lt b hb)
  by_cases h1 : Fm.isNan b = true
  · have hv : bitsW b = 9221120237041090561 := by unfold bitsW; rw [if_pos h1]; rfl
    have ht : textW (bitsW b) = ⟨#[110, 97, 110]⟩ := by rw [hv]; rfl
    rw [ht]
    rw [h1] at hn
    clear hs hi hz h1 hv ht hb hx
    go_enter Tryz.func187, Tryz.ntmps187
    go_wp2_with fail
    go_ret
    exact ⟨rfl, Below.refl _ _⟩
  · have h1 : Fm.isNan b = false := by simpa using h1
    have hv : bitsW b = b := by unfold bitsW; rw [h1]; rfl
    rw [h1] at hn
    rw [hv] at hx hvl ⊢
    have h1' : Hid (¬ (9218868437227405312 < b % 9223372036854775808)) := Lib.hid (by simp only [Fm.isNan, decide_eq_false_iff_not] at h1; omega)
    clear h1 hv
    have HBN := hbn
    by_cases h2 : b % 9223372036854775808 = 0
    · rw [decide_eq_true h2] at hz
      cases h3 : Fm.neg b
      · have ht : textW b = ⟨#[48]⟩ := by
          have : b = 0 := by
            have := hbn.out; rw [h3] at this
            have := (beq_eq_false_iff_ne.1 this.symm); omega
          rw [this]; rfl
        rw [ht]
        rw [h3] at hs
        clear hi hx h3 hb HBN hbn ht h2
        go_enter Tryz.func187, Tryz.ntmps187
        go_wp2_with (go_at_call 158; refine (hs _).mono ?_; rintro e w' ⟨rfl, rfl⟩)
        go_ret
        exact ⟨rfl, Below.refl _ _⟩
      · have ht : textW b = ⟨#[45, 48]⟩ := by
          have : b = 9223372036854775808 := by
            have := hbn.out; rw [h3] at this
            have := beq_iff_eq.1 this.symm; omega
          rw [this]; rfl
        rw [ht]
        rw [h3] at hs
        clear hi hx h3 hb HBN hbn ht h2
        go_enter Tryz.func187, Tryz.ntmps187
        go_wp2_with (go_at_call 158; refine (hs _).mono ?_; rintro e w' ⟨rfl, rfl⟩)
        go_ret
        exact ⟨rfl, Below.refl _ _⟩
    · rw [decide_eq_false h2] at hz
      by_cases h4 : b % 9223372036854775808 = 9218868437227405312
      · rw [decide_eq_true h4] at hi
        cases h3 : Fm.neg b
        · have ht : textW b = ⟨#[105, 110, 102]⟩ := by
            have : b = 9218868437227405312 := by
              have := hbn.out; rw [h3] at this
              have := (beq_eq_false_iff_ne.1 this.symm); omega
            rw [this]; rfl
          rw [ht]
          rw [h3] at hs
          clear hx h3 hb HBN hbn ht h2 h4
          go_enter Tryz.func187, Tryz.ntmps187
          go_wp2_with (first | (go_at_call 158; refine (hs _).mono ?_; rintro e w' ⟨rfl, rfl⟩) | (go_at_call 188; refine (hi _).mono ?_; rintro e w' ⟨rfl, rfl⟩))
          go_ret
          exact ⟨rfl, Below.refl _ _⟩
        · have ht : textW b = ⟨#[45, 105, 110, 102]⟩ := by
            have : b = 18442240474082181120 := by
              have := hbn.out; rw [h3] at this
              have := beq_iff_eq.1 this.symm; omega
            rw [this]; rfl
          rw [ht]
          rw [h3] at hs
          clear hx h3 hb HBN hbn ht h2 h4
          go_enter Tryz.func187, Tryz.ntmps187
          go_wp2_with (first | (go_at_call 158; refine (hs _).mono ?_; rintro e w' ⟨rfl, rfl⟩) | (go_at_call 188; refine (hi _).mono ?_; rintro e w' ⟨rfl, rfl⟩))
          go_ret
          exact ⟨rfl, Below.refl _ _⟩
      · rw [decide_eq_false h4] at hi
        have ht : textW b = top b 16 := by
          have h5 := h1'.out
          unfold textW
          rw [if_neg (by omega), if_neg (by omega), if_neg (by omega), if_neg (by omega), if_neg (by omega)]
        rw [ht]
        have HF := Lib.hid (fmt16_any b hb w hc hg)
        have HT := Lib.hid (fun n hn hv => (top_of n b hn hv).symm)
        have HR := Lib.hid (fun (c : Nat) (hc : c ≤ 16) (w : World) => repeat_any ⟨#[48]⟩ c w (by omega) (by show 1 * c ≤ _; omega))
        generalize Fm.neg b = s at hs
        clear hb HBN hbn ht h2 h4 hc hg
        go_enter Tryz.func187, Tryz.ntmps187
        cases s
        all_goals
          go_wp2_with (first | (go_at_call 158; refine (hs _).mono ?_; rintro e w' ⟨rfl, rfl⟩) | (go_at_call 188; refine (hi _).mono ?_; rintro e w' ⟨rfl, rfl⟩) | (go_at_call 111; refine (hx.out _).mono ?_; rintro e w' ⟨rfl, rfl⟩))
          refine HF.out.mono ?_
          rintro e w1 ⟨n, hn1, hn2, hn3, hn4, rfl, hB⟩
          obtain ⟨xs, hxs⟩ : ∃ xs : ByteArray, xs = ⟨(hexN n b).toArray⟩ := ⟨_, rfl⟩
          obtain ⟨r, hr⟩ : ∃ r : ByteArray, r = ⟨(Lib.repeatL [48] (16 - n)).toArray⟩ := ⟨_, rfl⟩
          have hsz : xs.size = n := by rw [hxs]; show (hexN n b).toArray.size = n; simp [hexN_len]
          have hrz : r.size = 16 - n := by rw [hr, rep48]; show (List.replicate (16 - n) (48 : UInt8)).toArray.size = _; simp
          have HTT : Hid (top b 16 = ⟨#[120]⟩ ++ r ++ xs) := Lib.hid (by rw [hr, hxs]; exact HT.out n hn2 hn3)
          have HRR : Hid (∀ w, Calls Tryz.prog 189 #[.string ⟨#[48]⟩, .int .i64 (16 - (xs.size : Int))] w fun e w' => e = .returned (.string r) ∧ Below w.heap.size w w') := Lib.hid (fun w => by
            have h := HR.out (16 - n) (by omega) w
            rw [← hr, show ((16 - n : Nat) : Int) = 16 - (xs.size : Int) by omega] at h
            exact h)
          rw [← hxs]
          have hq1 : ¬ (9223372036854775807 < 1 + r.size) := by omega
          have hq2 : ¬ (9223372036854775807 < 1 + r.size + xs.size) := by omega
          have HB1 := Lib.hid hB
          clear hn1 hn2 hn3 hn4 hxs hr hB HR HT HF hsz hrz hs hi hz hn
          go_wp2_with fail
          refine (HRR.out _).mono ?_
          rintro e w2 ⟨rfl, hB2⟩
          have HB2 := Lib.hid (HB1.out.trans (hB2.mono HB1.out.size))
          clear hB2
          go_wp2_with fail
          go_ret
          exact ⟨by rw [HTT.out]; rfl, HB2.out⟩
end Fu
end Go.Proofs.YtpneejlilgepfaaGreatDoor
