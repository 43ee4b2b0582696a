/- Rows of values of one's own; contract of the reference's Clone: a copy in new memory. -/
import Derived.Test.YtpneejlilgepfaaVtL
import Derived.Test.YtpneejlilgepfaaCwF
import Derived.Deep.AppendLies
namespace Go.Proofs.Ytpneejlilgepfaa
open Go.RowKit
set_option linter.unusedVariables false
set_option linter.unusedSimpArgs false
namespace Cn
open Nm (bitsW ret_int ret_bool)
open Vt (VT Rep BoxAt below_drew Cloned put5 KidsAt HeadOk)
open Ev (EV FieldsOk evCells vCells EBox ERep zeroT take_drop cons_drop)
open Cm (rowOf)

/-- Element i of a row of values that own their memory behind base. -/
def VNew (w : World) (base : Nat) (ro : Option Nat) (xs : List Value) (i : Nat) (t : VT) : Prop := ∃ lo hi k n f s A m c, base ≤ lo ∧ hi ≤ w.heap.size ∧ Rep w lo hi t (.agg #[.int .i64 k, .int .i64 n, .float .f64 f, .string s, .slice A m c]) ∧ (∀ r, ro = some r → r < lo ∨ hi ≤ r) ∧
  ∀ j, j < 5 → xs[i * 5 + j]? = (#[Value.int .i64 k, .int .i64 n, .float .f64 f, .string s, .slice A m c])[j]?
def VsAt (w : World) (base : Nat) (A : Option Addr) (cap n : Nat) (ts : List VT) : Prop := ts.length = n ∧ ∃ xs, w.ownsRow base 33 5 (.slice A n cap) n xs ∧ ∀ i (h : i < ts.length), VNew w base (rowOf A) xs i ts[i]

theorem VNew.keep {w w' : World} {base : Nat} {ro : Option Nat} {xs : List Value} {i : Nat} {t : VT} (h : VNew w base ro xs i t) (hz : w.heap.size ≤ w'.heap.size) (ho : ∀ b, b < w.heap.size → some b ≠ ro → w'.heap[b]? = w.heap[b]?) : VNew w' base ro xs i t := by
  obtain ⟨lo, hi, k, n, f, s, A, m, c, h0, h1, h2, h3, h4⟩ := h
  refine ⟨lo, hi, k, n, f, s, A, m, c, h0, Nat.le_trans h1 hz, h2.keep fun b o hb1 hb2 => ?_, h3, h4⟩
  exact World.cell?_of_block (a := ⟨b, o, none⟩) (ho b (by omega) (fun e => by have := h3 b e.symm; omega))

theorem vs_nil (w : World) (base : Nat) : VsAt w base none 0 0 [] := ⟨rfl, [], ⟨rfl, .inl ⟨rfl, rfl⟩⟩, fun i h => absurd h (by simp)⟩

theorem VsAt.setCell {w : World} {base : Nat} {A : Option Addr} {cap n : Nat} {ts : List VT} (h : VsAt w base A cap n ts) {p : Addr} (hp : p.block < base) (v : Value) : VsAt (w.setCell p v) base A cap n ts := by
  obtain ⟨h0, xs, h1, h3⟩ := h
  have hb : ∀ b, base ≤ b → (w.setCell p v).heap[b]? = w.heap[b]? := fun b hb => Below.heap_setCell _ _ _ b (by omega)
  refine ⟨h0, xs, ⟨h1.1, ?_⟩, fun i hi => ?_⟩
  · rcases h1.2 with h | ⟨r, cp, cur, q1, q2, q3, q4⟩
    · exact .inl h
    · exact .inr ⟨r, cp, cur, q1, q2, (hb r q2).trans q3, q4⟩
  · obtain ⟨lo, hi', k, n, f, s, A, m, c, h0, h1, h2, h3, h4⟩ := h3 i hi
    exact ⟨lo, hi', k, n, f, s, A, m, c, h0, by simpa [World.setCell] using h1, h2.setCell (.inl (by omega)) v, h3, h4⟩

theorem VsAt.push {W w' : World} {base r H : Nat} {A : Option Addr} {cap cap' n : Nat} {ts : List VT} {t : VT} {xs : List Value} {lo hi : Nat} {k n' : Int} {f : Nat} {s : ByteArray} {A' : Option Addr} {m c : Nat}
    (hlen : ts.length = n) (hlx : xs.length = n * 5) (hx : ∀ i (h : i < ts.length), VNew W base (rowOf A) xs i ts[i]) (hbl : base ≤ lo) (hv : Rep W lo hi t (.agg #[.int .i64 k, .int .i64 n', .float .f64 f, .string s, .slice A' m c])) (hz : hi ≤ W.heap.size) (hrr : ∀ r, rowOf A = some r → r < lo ∨ hi ≤ r)
    (hown : w'.ownsRow base 33 5 (.slice (some ⟨r, 0, none⟩) (n + 1) cap') (n + 1) (xs ++ #[Value.int .i64 k, .int .i64 n', .float .f64 f, .string s, .slice A' m c].toList)) (hgrow : W.grownBy w' (rowOf A)) (hat : rowOf A = some r ∨ r = H) (hH : W.heap.size ≤ H) :
    VsAt w' base (some ⟨r, 0, none⟩) cap' (n + 1) (ts ++ [t]) := by
  have key : ∀ {lo hi : Nat}, hi ≤ W.heap.size → (∀ r, rowOf A = some r → r < lo ∨ hi ≤ r) → ∀ r2, rowOf (some ⟨r, 0, none⟩) = some r2 → r2 < lo ∨ hi ≤ r2 := by
    intro lo hi h1 h2 r2 hr2
    obtain rfl : r = r2 := Option.some.inj hr2
    rcases hat with h | h
    · exact h2 r h
    · omega
  refine ⟨by simp [hlen], _, hown, fun i hil => ?_⟩
  simp at hil
  by_cases hlt : i < ts.length
  · rw [List.getElem_append_left hlt]
    obtain ⟨lo', hi', vk', vn', vf', vs', A2', m', c', q0, q3, q2, q5, q6⟩ := hx i hlt
    refine ⟨lo', hi', vk', vn', vf', vs', A2', m', c', q0, Nat.le_trans q3 hgrow.size, q2.keep fun b o hb1 hb2 => ?_, key q3 q5, fun j hj => (List.getElem?_append_left (by omega)).trans (q6 j hj)⟩
    exact World.cell?_of_block (a := ⟨b, o, none⟩) (hgrow.block b (by omega) (fun e => by have := q5 b e.symm; omega))
  · obtain rfl : i = ts.length := by omega
    rw [List.getElem_append_right (Nat.le_refl _)]
    simp only [Nat.sub_self, List.getElem_cons_zero]
    refine ⟨lo, hi, k, n', f, s, A', m, c, hbl, Nat.le_trans hz hgrow.size, hv.keep fun b o hb1 hb2 => ?_, key hz hrr, fun j hj => ?_⟩
    · exact World.cell?_of_block (a := ⟨b, o, none⟩) (hgrow.block b (by omega) (fun e => by have := hrr b e.symm; omega))
    · rw [List.getElem?_append_right (by omega), hlx, hlen, Nat.add_sub_cancel_left, Array.getElem?_toList]

/-- What a finished row is. -/
theorem VsAt.kids {w : World} {base : Nat} {A : Option Addr} {cap n : Nat} {ts : List VT} (h : VsAt w base A cap n ts) : KidsAt w base w.heap.size ts A ∧ n ≤ cap ∧ cap ≤ maxLen ∧ (0 < n → ∀ b off, A = some ⟨b, off, none⟩ → ∀ o, w.frozen? ⟨b, o, none⟩ = false) := by
  obtain ⟨rfl, xs, h1, h3⟩ := h
  rcases h1.2 with ⟨hv, h0⟩ | ⟨r, cp, cur, q1, q2, q3, q4, q5, q6, q7⟩
  · injection hv with hA hn hc
    exact ⟨⟨fun hp => absurd hp (by omega)⟩, by omega, by rw [hc]; exact Nat.zero_le _, fun hp => absurd hp (by omega)⟩
  · injection q1 with hA hn hc
    subst hc
    have hr : r < w.heap.size := (Array.getElem?_eq_some_iff.1 q3).1
    refine ⟨⟨fun hp => ⟨r, 0, hA, q2, hr, fun i hi => ?_⟩⟩, q4, q5, fun hp b off hb o => ?_⟩
    · obtain ⟨lo, hi', k, n, f, s, A', m, c, h0, h1', h2, h5, h4⟩ := h3 i hi
      obtain ⟨k', n', f', s', L, A2, cap2, ht, hv, -⟩ := h2.open_
      injection hv with hv
      simp at hv
      obtain ⟨rfl, rfl, rfl, rfl, rfl, rfl, rfl⟩ := hv
      have hcell : ∀ q, q < 5 → w.cell? ⟨r, 0 + i * 5 + q, none⟩ = #[Value.int .i64 k, .int .i64 n, .float .f64 f, .string s, .slice A' L.length c][q]? := fun q hq => by
        rw [← h4 q hq, ← q7, List.getElem?_take_of_lt (by omega), Array.getElem?_toList]
        simp [World.cell?, q3]
      exact ⟨k, n, f, s, L, A', c, ht, by simpa using hcell 0 (by omega), by simpa using hcell 1 (by omega), by simpa using hcell 2 (by omega), by simpa using hcell 3 (by omega), by simpa using hcell 4 (by omega), h2.more h0 h1'⟩
    · rw [hA] at hb
      obtain rfl : r = b := congrArg Addr.block (Option.some.inj hb)
      simp [World.frozen?, q3]

theorem VsAt.lt {w : World} {base : Nat} {A : Option Addr} {cap n : Nat} {ts : List VT} (h : VsAt w base A cap n ts) : ∀ r, rowOf A = some r → r < w.heap.size ∧ base ≤ r := fun r hr => by
  obtain ⟨-, xs, h1, -⟩ := h
  rcases h1.2 with ⟨h2, -⟩ | ⟨r', cp, cur, q1, q0, q3, -⟩
  · rw [← Cm.rowOf_own A n cap, h2] at hr; cases hr
  · rw [← Cm.rowOf_own A n cap, q1] at hr
    obtain rfl : r' = r := Option.some.inj hr
    exact ⟨(Array.getElem?_eq_some_iff.1 q3).1, q0⟩

theorem rclone_finish {w wr : World} {k n : Int} {f : Nat} {s : ByteArray} {l : List VT} {A2 : Option Addr} {cap0 cap2 : Nat} (ho : HeadOk k n f s cap0) (hm : VsAt wr (w.heap.size + 3) A2 cap2 l.length l) (hb : Below w.heap.size w wr) :
    Cloned (.mk k n f s l) w (.returned (.agg #[.int .i64 k, .int .i64 n, .float .f64 f, .string s, .slice A2 l.length cap2])) (put5 wr (w.heap.size + 1) 0 (.int .i64 k) (.int .i64 n) (.float .f64 f) (.string s) (.slice A2 l.length cap2)) := by
  obtain ⟨hk2, hl2, hc2, hfr⟩ := hm.kids
  refine ⟨k, n, f, s, l, A2, cap2, rfl, rfl, ?_, Vt.put5_below hb (by omega), fun hp b off hA o => ?_⟩
  · rw [Vt.put5_size]
    exact (Rep.close ⟨ho.k0, ho.k1, ho.n0, ho.n1, ho.f1, ho.s1, hc2⟩ hl2 (hk2.keep fun b o hb _ => Vt.put5_cell _ _ _ _ _ _ _ _ b o (by omega))).more (by omega) (Nat.le_refl _)
  · obtain ⟨b', off', hA', h1, h2, -⟩ := hk2.at_ hp
    rw [hA] at hA'
    obtain rfl : b = b' := congrArg Addr.block (Option.some.inj hA')
    exact (Cm.frozen_of_block (Vt.put5_other wr (w.heap.size + 1) 0 _ _ _ _ _ b (by omega)) o).trans (hfr hp b off hA o)

set_option maxRecDepth 100000 in
set_option maxHeartbeats 4000000 in
theorem rclone_any (t : VT) : ∀ (w : World) (lo hi : Nat) (v : Value) (_ : Rep w lo hi t v) (_ : hi ≤ w.heap.size) (_ : t.Slim 900),
    Calls Try.prog 15 #[v] w (Cloned t w) := by
  induction t using VT.ind with
  | _ k n f s l ih =>
    intro w lo hi v hR hz hS
    obtain ⟨A, cap, rfl, ho, hl, hk⟩ := hR.head
    obtain ⟨-, hl9, hkS⟩ := Vt.slim_mk.1 hS
    have hc := ho.m1
    have HO := Lib.hid ho
    have IH : Hid (∀ (i : Nat) (hi : i < l.length) (w : World) (lo hi : Nat) (v : Value) (_ : Rep w lo hi l[i] v) (_ : hi ≤ w.heap.size), Calls Try.prog 15 #[v] w (Cloned l[i] w)) :=
      Lib.hid fun i hi w lo hi' v h1 h2 => ih i hi w lo hi' v h1 h2 (hkS i hi)
    clear ih hR ho hkS hS
    have HK := Lib.hid hk; clear hk
    have hl0 : 0 ≤ (l.length : Int) := by omega
    unfold maxLen at hc
    obtain ⟨i0, hi0, hz0, hz1, hz2⟩ := info_parts Vt.Try.infoV
    have I1 := Lib.hid hi0; have I2 := Lib.hid hz0; have I3 := Lib.hid hz1; have I4 := Lib.hid hz2
    clear hi0 hz0 hz1 hz2
    obtain ⟨W0, hW0⟩ : ∃ W0, W0 = ((w.alloc (.cells #[.int .i64 k, .int .i64 n, .float .f64 f, .string s, .slice A l.length cap] 33)).alloc (.cells #[.int .i64 0, .int .i64 0, .float .f64 0, .string ⟨#[]⟩, .slice none 0 0] 33)).alloc (.cells #[.int .i64 k, .int .i64 n, .float .f64 f, .string s, .slice none 0 0] 33) := ⟨_, rfl⟩
    have hx0 : BoxAt W0 w.heap.size k n f s A l.length cap := by
      rw [hW0]; unfold BoxAt
      exact (heap_alloc_old _ _ (by simp; omega)).trans ((heap_alloc_old _ _ (by simp)).trans (heap_alloc_new w _))
    have hx1 : BoxAt W0 (w.heap.size + 1) 0 0 0 ⟨#[]⟩ none 0 0 := by
      rw [hW0]; unfold BoxAt
      refine (heap_alloc_old _ _ (by simp)).trans ?_
      have e := heap_alloc_new (w.alloc (.cells #[.int .i64 k, .int .i64 n, .float .f64 f, .string s, .slice A l.length cap] 33)) (.cells #[.int .i64 0, .int .i64 0, .float .f64 0, .string ⟨#[]⟩, .slice none 0 0] 33)
      rw [World.size_alloc] at e
      exact e
    have hx2 : BoxAt W0 (w.heap.size + 1 + 1) k n f s none 0 0 := by
      rw [hW0]; unfold BoxAt
      have e := heap_alloc_new ((w.alloc (.cells #[.int .i64 k, .int .i64 n, .float .f64 f, .string s, .slice A l.length cap] 33)).alloc (.cells #[.int .i64 0, .int .i64 0, .float .f64 0, .string ⟨#[]⟩, .slice none 0 0] 33)) (.cells #[.int .i64 k, .int .i64 n, .float .f64 f, .string s, .slice none 0 0] 33)
      rw [World.size_alloc, World.size_alloc] at e
      exact e
    have hbw : Below w.heap.size w W0 := by
      rw [hW0]
      exact ((((Below.refl _ _).alloc (Nat.le_refl _) _).alloc (by simp) _).alloc (by simp; omega) _)
    have HX0 := Lib.hid hx0; have HX1 := Lib.hid hx1; have HX2 := Lib.hid hx2; have HBW := Lib.hid hbw
    clear hx0 hx1 hx2 hbw
    replace hW0 := Lib.hid hW0
    go_enter Try.func15, Try.ntmps15
    go_upto_region 3 with fail
    rw [← hW0.out]
    go_wp2_with fail
    go_loopw [4] (fun i wr => ∃ (j : Nat) (A2 : Option Addr) (cap2 : Nat), j ≤ l.length ∧ i = .int .i64 j ∧ BoxAt wr w.heap.size k n f s A l.length cap ∧ BoxAt wr (w.heap.size + 1) 0 0 0 ⟨#[]⟩ none 0 0 ∧ BoxAt wr (w.heap.size + 1 + 1) k n f s A2 j cap2 ∧ VsAt wr (w.heap.size + 3) A2 cap2 j (l.take j) ∧ Below w.heap.size w wr) (fun i _ => l.length - (intOf i).toNat)
    case atStart => exact ⟨0, none, 0, by omega, rfl, HX0.out, HX1.out, HX2.out, by simpa using vs_nil W0 _, HBW.out⟩
    case round =>
      clear HX0 HX1 HX2 HBW
      obtain ⟨j, A2, cap2, hj, rfl, hx0, hx1, hx2, hvs, hbw⟩ := hrel
      have hlt2 := hx2.lt
      obtain ⟨c0, c1, c2, c3, c4⟩ := hx0.cells
      by_cases hlt : j < l.length
      · obtain ⟨b, off, rfl, hb1, hb2, h3⟩ := (HK.out.later (hbw.mono hz)).at_ (by omega)
        obtain ⟨k', n', f', s', L', A', cap', e, g0, g1, g2, g3, g4, hrj⟩ := h3 j hlt
        have HRO := Lib.hid hvs.lt
        have KM : Hid (∀ W', Below wr.heap.size wr W' → Below (w.heap.size + 1) wr W') := Lib.hid fun W' hb => hb.mono (by omega)
        have KS : Hid (∀ W', Below (w.heap.size + 1) wr W' → W'.cell? ⟨w.heap.size, 4, none⟩ = some (.slice (some ⟨b, off, none⟩) l.length cap) ∧ W'.cell? ⟨b, off + j * 5, none⟩ = some (.int .i64 k') ∧ W'.cell? ⟨b, off + j * 5 + 1, none⟩ = some (.int .i64 n') ∧ W'.cell? ⟨b, off + j * 5 + 2, none⟩ = some (.float .f64 f') ∧ W'.cell? ⟨b, off + j * 5 + 3, none⟩ = some (.string s') ∧ W'.cell? ⟨b, off + j * 5 + 4, none⟩ = some (.slice A' L'.length cap')) := Lib.hid fun W' hb => by
          have e1 : ∀ o, W'.cell? ⟨b, o, none⟩ = wr.cell? ⟨b, o, none⟩ := fun o => hb.cell (p := ⟨b, o, none⟩) (by simp only []; omega)
          exact ⟨(hb.cell (p := ⟨w.heap.size, 4, none⟩) (Nat.lt_succ_self _)).trans c4, (e1 _).trans g0, (e1 _).trans g1, (e1 _).trans g2, (e1 _).trans g3, (e1 _).trans g4⟩
        have KO : Hid (∀ W', Below wr.heap.size wr W' → W'.cell? ⟨w.heap.size + 1 + 1, 4, none⟩ = some (.slice A2 j cap2)) := Lib.hid fun W' hb => (BoxAt.cells (hx2.later hb hlt2)).2.2.2.2
        have H9 : Hid (∀ W', Below wr.heap.size wr W' → Calls Try.prog 15 #[.agg #[.int .i64 k', .int .i64 n', .float .f64 f', .string s', .slice A' L'.length cap']] W' (Cloned l[j] W')) := Lib.hid fun W' hb => by
          have hz' := hb.size
          exact IH.out j hlt W' lo hi _ (hrj.later (hb.mono (by omega))) (by omega)
        obtain ⟨hlen, xs, hxo, hxe⟩ := hvs
        have hlx := hxo.1
        have HOWN : Hid (∀ W, Below wr.heap.size wr W → W.ownsRow (w.heap.size + 3) 33 5 (.slice A2 j cap2) j xs) := Lib.hid fun W hW => ⟨hxo.1, by
          rcases hxo.2 with h | ⟨r, cp, cur, q1, q2, q3, q4⟩
          · exact .inl h
          · exact .inr ⟨r, cp, cur, q1, q2, (hW.block r (Array.getElem?_eq_some_iff.1 q3).1).trans q3, q4⟩⟩
        have HXE := Lib.hid hxe
        have HX0 := Lib.hid hx0; have HX1 := Lib.hid hx1; have HX2 := Lib.hid hx2; have HBW := Lib.hid hbw
        clear hxe hxo hx0 hx1 hx2 hbw h3 hrj e g0 g1 g2 g3 g4
        go_upto_region 6 with fail
        clear c0 c1 c2 c3 c4
        refine wp_region_noPanic ?_
        refine wp_region_held_drew (S := fun W' => W'.cell? ⟨w.heap.size, 4, none⟩ = some (.slice (some ⟨b, off, none⟩) l.length cap) ∧ W'.cell? ⟨b, off + j * 5, none⟩ = some (.int .i64 k') ∧ W'.cell? ⟨b, off + j * 5 + 1, none⟩ = some (.int .i64 n') ∧ W'.cell? ⟨b, off + j * 5 + 2, none⟩ = some (.float .f64 f') ∧ W'.cell? ⟨b, off + j * 5 + 3, none⟩ = some (.string s') ∧ W'.cell? ⟨b, off + j * 5 + 4, none⟩ = some (.slice A' L'.length cap')) (by kernel_rfl) ?_ (fun hHeld => ?_)
        · exact KS.out _ (below_drew (Below.refl _ _))
        first
          | (refine take_drop (i := 0) (v := ?_) rfl (by kernel_rfl) (by kernel_rfl) (by kernel_rfl) (fun _ _ _ h => h) (Or.inl ⟨by rfl, ?_⟩) (by assumption) ?_; rotate_left 1; (focus (intro w hSw; (try dsimp only at hSw); go_simp; try with_reducible rfl)); try simp only [Act.put, List.setIfInBounds_toArray, List.set_cons_zero, List.set_cons_succ])
          | (refine take_drop (i := 0) (v := undef) rfl (by kernel_rfl) (by kernel_rfl) (by kernel_rfl) (fun _ _ _ h => h) (Or.inr ⟨by rfl, rfl⟩) (by assumption) ?_; try simp only [Act.put, List.setIfInBounds_toArray, List.set_cons_zero, List.set_cons_succ])
        first
          | (refine take_drop (i := 2) (v := ?_) rfl (by kernel_rfl) (by kernel_rfl) (by kernel_rfl) (fun _ _ _ h => h) (Or.inl ⟨by rfl, ?_⟩) (by assumption) ?_; rotate_left 1; (focus (intro w hSw; (try dsimp only at hSw); go_simp; try with_reducible rfl)); try simp only [Act.put, List.setIfInBounds_toArray, List.set_cons_zero, List.set_cons_succ])
          | (refine take_drop (i := 2) (v := undef) rfl (by kernel_rfl) (by kernel_rfl) (by kernel_rfl) (fun _ _ _ h => h) (Or.inr ⟨by rfl, rfl⟩) (by assumption) ?_; try simp only [Act.put, List.setIfInBounds_toArray, List.set_cons_zero, List.set_cons_succ])
        first
          | (refine take_drop (i := 3) (v := ?_) rfl (by kernel_rfl) (by kernel_rfl) (by kernel_rfl) (fun _ _ _ h => h) (Or.inl ⟨by rfl, ?_⟩) (by assumption) ?_; rotate_left 1; (focus (intro w hSw; (try dsimp only at hSw); go_simp; try with_reducible rfl)); try simp only [Act.put, List.setIfInBounds_toArray, List.set_cons_zero, List.set_cons_succ])
          | (refine take_drop (i := 3) (v := undef) rfl (by kernel_rfl) (by kernel_rfl) (by kernel_rfl) (fun _ _ _ h => h) (Or.inr ⟨by rfl, rfl⟩) (by assumption) ?_; try simp only [Act.put, List.setIfInBounds_toArray, List.set_cons_zero, List.set_cons_succ])
        first
          | (refine take_drop (i := 4) (v := ?_) rfl (by kernel_rfl) (by kernel_rfl) (by kernel_rfl) (fun _ _ _ h => h) (Or.inl ⟨by rfl, ?_⟩) (by assumption) ?_; rotate_left 1; (focus (intro w hSw; (try dsimp only at hSw); go_simp; try with_reducible rfl)); try simp only [Act.put, List.setIfInBounds_toArray, List.set_cons_zero, List.set_cons_succ])
          | (refine take_drop (i := 4) (v := undef) rfl (by kernel_rfl) (by kernel_rfl) (by kernel_rfl) (fun _ _ _ h => h) (Or.inr ⟨by rfl, rfl⟩) (by assumption) ?_; try simp only [Act.put, List.setIfInBounds_toArray, List.set_cons_zero, List.set_cons_succ])
        first
          | (refine take_drop (i := 5) (v := ?_) rfl (by kernel_rfl) (by kernel_rfl) (by kernel_rfl) (fun _ _ _ h => h) (Or.inl ⟨by rfl, ?_⟩) (by assumption) ?_; rotate_left 1; (focus (intro w hSw; (try dsimp only at hSw); go_simp; try with_reducible rfl)); try simp only [Act.put, List.setIfInBounds_toArray, List.set_cons_zero, List.set_cons_succ])
          | (refine take_drop (i := 5) (v := undef) rfl (by kernel_rfl) (by kernel_rfl) (by kernel_rfl) (fun _ _ _ h => h) (Or.inr ⟨by rfl, rfl⟩) (by assumption) ?_; try simp only [Act.put, List.setIfInBounds_toArray, List.set_cons_zero, List.set_cons_succ])
        first
          | (refine take_drop (i := 6) (v := ?_) rfl (by kernel_rfl) (by kernel_rfl) (by kernel_rfl) (fun _ _ _ h => h) (Or.inl ⟨by rfl, ?_⟩) (by assumption) ?_; rotate_left 1; (focus (intro w hSw; (try dsimp only at hSw); go_simp; try with_reducible rfl)); try simp only [Act.put, List.setIfInBounds_toArray, List.set_cons_zero, List.set_cons_succ])
          | (refine take_drop (i := 6) (v := undef) rfl (by kernel_rfl) (by kernel_rfl) (by kernel_rfl) (fun _ _ _ h => h) (Or.inr ⟨by rfl, rfl⟩) (by assumption) ?_; try simp only [Act.put, List.setIfInBounds_toArray, List.set_cons_zero, List.set_cons_succ])
        refine wpAnyH_ready (rs := [1, 7]) (by kernel_rfl) (by simp) ?_
        refine cons_drop rfl (fun K hK => ?_) (cons_drop rfl (fun K hK => ?_) AllReadyH.nil)
        · have cx := KO.out _ (below_drew (Below.refl _ _))
          go_simp
          refine hK.out _ _ (KS.out _ (KM.out _ (below_drew (Below.refl _ _)))) (fun hHeld2 => ?_)
          clear hK K cx
          try simp only [Act.put, List.setIfInBounds_toArray, List.set_cons_zero, List.set_cons_succ]
          refine wpAnyH_ready (rs := [7]) (by kernel_rfl) (by simp) ?_
          refine cons_drop rfl (fun K hK => ?_) AllReadyH.nil
          go_simp
          refine (H9.out _ (below_drew (Below.refl _ _))).mono ?_
          rintro e w5 ⟨k5, n5, f5, s5, L5, A5, cap5, e5, rfl, hr5, hb9, -⟩
          have HB5 : Hid (Below wr.heap.size wr w5) := Lib.hid (Below.trans (below_drew (Below.refl _ _)) hb9)
          have HR5 := Lib.hid hr5
          have E5 := Lib.hid e5
          clear hr5 hb9 e5
          go_wp2_with fail
          refine hK.out _ _ (KS.out _ (KM.out _ HB5.out)) (fun hHeld2 => ?_)
          clear hK K
          try simp only [Act.put, List.setIfInBounds_toArray, List.set_cons_zero, List.set_cons_succ]
          refine wpAnyH_ready (rs := [8]) (by kernel_rfl) (by simp) ?_
          refine cons_drop rfl (fun K hK => ?_) AllReadyH.nil
          go_simp
          obtain ⟨w6, hw6⟩ : ∃ x, x = w5.alloc (.cells #[.int .i64 k5, .int .i64 n5, .float .f64 f5, .string s5, .slice A5 L5.length cap5] 33) := ⟨_, rfl⟩
          rw [← hw6]
          have HB6 : Hid (Below wr.heap.size wr w6) := Lib.hid (by rw [hw6]; exact HB5.out.alloc HB5.out.size _)
          have HN6 := Lib.hid (show w6.heap[w5.heap.size]? = some (.cells #[.int .i64 k5, .int .i64 n5, .float .f64 f5, .string s5, .slice A5 L5.length cap5] 33 (0, 0)) from by rw [hw6]; exact heap_alloc_new w5 _)
          have HR6 : Hid (Rep w6 wr.heap.size w5.heap.size l[j] (.agg #[.int .i64 k5, .int .i64 n5, .float .f64 f5, .string s5, .slice A5 L5.length cap5])) := Lib.hid (by rw [hw6]; exact HR5.out.alloc (Nat.le_refl _) _)
          have hz6 : w6.heap.size = w5.heap.size + 1 := by rw [hw6]; simp
          replace hw6 := Lib.hid hw6
          refine hK.out _ _ (KS.out _ (KM.out _ HB6.out)) (fun hHeld3 => ?_)
          clear hK K
          try simp only [Act.put, List.setIfInBounds_toArray, List.set_cons_zero, List.set_cons_succ]
          refine wpAnyH_ready (rs := [9]) (by kernel_rfl) (by simp) ?_
          refine cons_drop rfl (fun K hK => ?_) AllReadyH.nil
          refine step_append_lies _ rfl _ _ 31 rfl (w.heap.size + 3) 33 i0 _ 5 64 Try.underlying31 I1.out I2.out I3.out I4.out rfl (by decide) (.slice A2 j cap2) j xs rfl (HOWN.out _ HB6.out) ⟨w5.heap.size, 0, none⟩ 1 1 #[Value.int .i64 k5, .int .i64 n5, .float .f64 f5, .string s5, .slice A5 L5.length cap5].toList rfl rfl (World.news_of_block (fr := (0, 0)) HN6.out) (by intro u hu; simp at hu; rcases hu with rfl | rfl | rfl | rfl | rfl <;> rfl) (by decide) (by simp only [maxLen]; omega) (by omega) (by have := HB6.out.size; omega) _ rfl ?_
          intro r2 cap4 w7 hown7 hgrow7 hat7 hrl7
          rw [Cm.rowOf_own] at hgrow7 hat7
          have HP : Hid (VsAt w7 (w.heap.size + 3) (some ⟨r2, 0, none⟩) cap4 (j + 1) (l.take (j + 1))) := Lib.hid (by
            rw [List.take_succ_eq_append_getElem hlt]
            exact VsAt.push (cap := 0) (H := w6.heap.size) hlen hlx (fun i h => (HXE.out i h).keep HB6.out.size (fun b hb _ => HB6.out.block b hb)) (by omega) HR6.out (by omega) (fun r hr => .inl (HRO.out r hr).1) hown7 hgrow7 hat7 (Nat.le_refl _))
          have HB7 : Hid (Below (w.heap.size + 3) wr w7) := Lib.hid ((HB6.out.mono (by omega)).trans ⟨hgrow7.os, hgrow7.tape, hgrow7.output, hgrow7.size, fun b hb => hgrow7.block b (by have := HB6.out.size; omega) (fun e => by have := (HRO.out b e.symm).2; omega)⟩)
          clear hown7 hgrow7 hat7
          refine hK.out _ _ (KS.out _ (HB7.out.mono (by omega))) (fun hHeld4 => ?_)
          clear hK K
          try simp only [Act.put, List.setIfInBounds_toArray, List.set_cons_zero, List.set_cons_succ]
          obtain ⟨d0, d1, d2, d3, d4⟩ := BoxAt.cells (HX2.out.later HB7.out (by omega))
          have df := Vt.box_free (HX2.out.later HB7.out (by omega)) 4
          first
            | (refine take_drop (i := 10) (v := ?_) rfl (by kernel_rfl) (by kernel_rfl) (by kernel_rfl) (fun _ _ _ h => h) (Or.inl ⟨by rfl, ?_⟩) (by assumption) ?_; rotate_left 1; (focus (intro w hSw; (try dsimp only at hSw); go_simp; try with_reducible rfl)); try simp only [Act.put, List.setIfInBounds_toArray, List.set_cons_zero, List.set_cons_succ])
            | (refine take_drop (i := 10) (v := undef) rfl (by kernel_rfl) (by kernel_rfl) (by kernel_rfl) (fun _ _ _ h => h) (Or.inr ⟨by rfl, rfl⟩) (by assumption) ?_; try simp only [Act.put, List.setIfInBounds_toArray, List.set_cons_zero, List.set_cons_succ])
          refine wpAnyH_ready (rs := [11]) (by kernel_rfl) (by simp) ?_
          refine cons_drop rfl (fun K hK => ?_) AllReadyH.nil
          go_simp
          refine hK.out _ _ (KS.out _ ((HB7.out.mono (by omega)).setCell (by simp) _)) (fun hHeld5 => ?_)
          clear hK K
          try simp only [Act.put, List.setIfInBounds_toArray, List.set_cons_zero, List.set_cons_succ]
          refine wpAnyH_done (by kernel_rfl) ?_ _
          refine NoPanic.normal ?_
          clear d0 d1 d2 d3 d4 df
          have hz7 := HB7.out.size
          go_wp2_with fail
          refine ⟨⟨j + 1, some ⟨r2, 0, none⟩, cap4, by omega, by go_num, ?_, ?_, ?_, ?_, ?_⟩, by simp [intOf]; omega⟩
          · exact Vt.box_far (HX0.out.later (HB7.out.mono (by omega)) (Nat.lt_succ_self _)) (by omega) _
          · exact Vt.box_far (HX1.out.later (HB7.out.mono (by omega)) (Nat.lt_succ_self _)) (by omega) _
          · exact Vt.box_set (HX2.out.later HB7.out (by omega))
          · exact HP.out.setCell (by simp only []; omega) _
          · exact (HBW.out.trans (HB7.out.mono (by omega))).setCell (by simp only []; omega) _
        · go_simp
          refine (H9.out _ (below_drew (Below.refl _ _))).mono ?_
          rintro e w5 ⟨k5, n5, f5, s5, L5, A5, cap5, e5, rfl, hr5, hb9, -⟩
          have HB5 : Hid (Below wr.heap.size wr w5) := Lib.hid (Below.trans (below_drew (Below.refl _ _)) hb9)
          have HR5 := Lib.hid hr5
          have E5 := Lib.hid e5
          clear hr5 hb9 e5
          go_wp2_with fail
          refine hK.out _ _ (KS.out _ (KM.out _ HB5.out)) (fun hHeld2 => ?_)
          clear hK K
          try simp only [Act.put, List.setIfInBounds_toArray, List.set_cons_zero, List.set_cons_succ]
          refine wpAnyH_ready (rs := [1, 8]) (by kernel_rfl) (by simp) ?_
          refine cons_drop rfl (fun K hK => ?_) (cons_drop rfl (fun K hK => ?_) AllReadyH.nil)
          · have cx := KO.out _ HB5.out
            go_simp
            refine hK.out _ _ (KS.out _ (KM.out _ HB5.out)) (fun hHeld2 => ?_)
            clear hK K cx
            try simp only [Act.put, List.setIfInBounds_toArray, List.set_cons_zero, List.set_cons_succ]
            refine wpAnyH_ready (rs := [8]) (by kernel_rfl) (by simp) ?_
            refine cons_drop rfl (fun K hK => ?_) AllReadyH.nil
            go_simp
            obtain ⟨w6, hw6⟩ : ∃ x, x = w5.alloc (.cells #[.int .i64 k5, .int .i64 n5, .float .f64 f5, .string s5, .slice A5 L5.length cap5] 33) := ⟨_, rfl⟩
            rw [← hw6]
            have HB6 : Hid (Below wr.heap.size wr w6) := Lib.hid (by rw [hw6]; exact HB5.out.alloc HB5.out.size _)
            have HN6 := Lib.hid (show w6.heap[w5.heap.size]? = some (.cells #[.int .i64 k5, .int .i64 n5, .float .f64 f5, .string s5, .slice A5 L5.length cap5] 33 (0, 0)) from by rw [hw6]; exact heap_alloc_new w5 _)
            have HR6 : Hid (Rep w6 wr.heap.size w5.heap.size l[j] (.agg #[.int .i64 k5, .int .i64 n5, .float .f64 f5, .string s5, .slice A5 L5.length cap5])) := Lib.hid (by rw [hw6]; exact HR5.out.alloc (Nat.le_refl _) _)
            have hz6 : w6.heap.size = w5.heap.size + 1 := by rw [hw6]; simp
            replace hw6 := Lib.hid hw6
            refine hK.out _ _ (KS.out _ (KM.out _ HB6.out)) (fun hHeld3 => ?_)
            clear hK K
            try simp only [Act.put, List.setIfInBounds_toArray, List.set_cons_zero, List.set_cons_succ]
            refine wpAnyH_ready (rs := [9]) (by kernel_rfl) (by simp) ?_
            refine cons_drop rfl (fun K hK => ?_) AllReadyH.nil
            refine step_append_lies _ rfl _ _ 31 rfl (w.heap.size + 3) 33 i0 _ 5 64 Try.underlying31 I1.out I2.out I3.out I4.out rfl (by decide) (.slice A2 j cap2) j xs rfl (HOWN.out _ HB6.out) ⟨w5.heap.size, 0, none⟩ 1 1 #[Value.int .i64 k5, .int .i64 n5, .float .f64 f5, .string s5, .slice A5 L5.length cap5].toList rfl rfl (World.news_of_block (fr := (0, 0)) HN6.out) (by intro u hu; simp at hu; rcases hu with rfl | rfl | rfl | rfl | rfl <;> rfl) (by decide) (by simp only [maxLen]; omega) (by omega) (by have := HB6.out.size; omega) _ rfl ?_
            intro r2 cap4 w7 hown7 hgrow7 hat7 hrl7
            rw [Cm.rowOf_own] at hgrow7 hat7
            have HP : Hid (VsAt w7 (w.heap.size + 3) (some ⟨r2, 0, none⟩) cap4 (j + 1) (l.take (j + 1))) := Lib.hid (by
              rw [List.take_succ_eq_append_getElem hlt]
              exact VsAt.push (cap := 0) (H := w6.heap.size) hlen hlx (fun i h => (HXE.out i h).keep HB6.out.size (fun b hb _ => HB6.out.block b hb)) (by omega) HR6.out (by omega) (fun r hr => .inl (HRO.out r hr).1) hown7 hgrow7 hat7 (Nat.le_refl _))
            have HB7 : Hid (Below (w.heap.size + 3) wr w7) := Lib.hid ((HB6.out.mono (by omega)).trans ⟨hgrow7.os, hgrow7.tape, hgrow7.output, hgrow7.size, fun b hb => hgrow7.block b (by have := HB6.out.size; omega) (fun e => by have := (HRO.out b e.symm).2; omega)⟩)
            clear hown7 hgrow7 hat7
            refine hK.out _ _ (KS.out _ (HB7.out.mono (by omega))) (fun hHeld4 => ?_)
            clear hK K
            try simp only [Act.put, List.setIfInBounds_toArray, List.set_cons_zero, List.set_cons_succ]
            obtain ⟨d0, d1, d2, d3, d4⟩ := BoxAt.cells (HX2.out.later HB7.out (by omega))
            have df := Vt.box_free (HX2.out.later HB7.out (by omega)) 4
            first
              | (refine take_drop (i := 10) (v := ?_) rfl (by kernel_rfl) (by kernel_rfl) (by kernel_rfl) (fun _ _ _ h => h) (Or.inl ⟨by rfl, ?_⟩) (by assumption) ?_; rotate_left 1; (focus (intro w hSw; (try dsimp only at hSw); go_simp; try with_reducible rfl)); try simp only [Act.put, List.setIfInBounds_toArray, List.set_cons_zero, List.set_cons_succ])
              | (refine take_drop (i := 10) (v := undef) rfl (by kernel_rfl) (by kernel_rfl) (by kernel_rfl) (fun _ _ _ h => h) (Or.inr ⟨by rfl, rfl⟩) (by assumption) ?_; try simp only [Act.put, List.setIfInBounds_toArray, List.set_cons_zero, List.set_cons_succ])
            refine wpAnyH_ready (rs := [11]) (by kernel_rfl) (by simp) ?_
            refine cons_drop rfl (fun K hK => ?_) AllReadyH.nil
            go_simp
            refine hK.out _ _ (KS.out _ ((HB7.out.mono (by omega)).setCell (by simp) _)) (fun hHeld5 => ?_)
            clear hK K
            try simp only [Act.put, List.setIfInBounds_toArray, List.set_cons_zero, List.set_cons_succ]
            refine wpAnyH_done (by kernel_rfl) ?_ _
            refine NoPanic.normal ?_
            clear d0 d1 d2 d3 d4 df
            have hz7 := HB7.out.size
            go_wp2_with fail
            refine ⟨⟨j + 1, some ⟨r2, 0, none⟩, cap4, by omega, by go_num, ?_, ?_, ?_, ?_, ?_⟩, by simp [intOf]; omega⟩
            · exact Vt.box_far (HX0.out.later (HB7.out.mono (by omega)) (Nat.lt_succ_self _)) (by omega) _
            · exact Vt.box_far (HX1.out.later (HB7.out.mono (by omega)) (Nat.lt_succ_self _)) (by omega) _
            · exact Vt.box_set (HX2.out.later HB7.out (by omega))
            · exact HP.out.setCell (by simp only []; omega) _
            · exact (HBW.out.trans (HB7.out.mono (by omega))).setCell (by simp only []; omega) _
          · go_simp
            obtain ⟨w6, hw6⟩ : ∃ x, x = w5.alloc (.cells #[.int .i64 k5, .int .i64 n5, .float .f64 f5, .string s5, .slice A5 L5.length cap5] 33) := ⟨_, rfl⟩
            rw [← hw6]
            have HB6 : Hid (Below wr.heap.size wr w6) := Lib.hid (by rw [hw6]; exact HB5.out.alloc HB5.out.size _)
            have HN6 := Lib.hid (show w6.heap[w5.heap.size]? = some (.cells #[.int .i64 k5, .int .i64 n5, .float .f64 f5, .string s5, .slice A5 L5.length cap5] 33 (0, 0)) from by rw [hw6]; exact heap_alloc_new w5 _)
            have HR6 : Hid (Rep w6 wr.heap.size w5.heap.size l[j] (.agg #[.int .i64 k5, .int .i64 n5, .float .f64 f5, .string s5, .slice A5 L5.length cap5])) := Lib.hid (by rw [hw6]; exact HR5.out.alloc (Nat.le_refl _) _)
            have hz6 : w6.heap.size = w5.heap.size + 1 := by rw [hw6]; simp
            replace hw6 := Lib.hid hw6
            refine hK.out _ _ (KS.out _ (KM.out _ HB6.out)) (fun hHeld3 => ?_)
            clear hK K
            try simp only [Act.put, List.setIfInBounds_toArray, List.set_cons_zero, List.set_cons_succ]
            refine wpAnyH_ready (rs := [1]) (by kernel_rfl) (by simp) ?_
            refine cons_drop rfl (fun K hK => ?_) AllReadyH.nil
            have cx := KO.out _ HB6.out
            go_simp
            refine hK.out _ _ (KS.out _ (KM.out _ HB6.out)) (fun hHeld2 => ?_)
            clear hK K cx
            try simp only [Act.put, List.setIfInBounds_toArray, List.set_cons_zero, List.set_cons_succ]
            refine wpAnyH_ready (rs := [9]) (by kernel_rfl) (by simp) ?_
            refine cons_drop rfl (fun K hK => ?_) AllReadyH.nil
            refine step_append_lies _ rfl _ _ 31 rfl (w.heap.size + 3) 33 i0 _ 5 64 Try.underlying31 I1.out I2.out I3.out I4.out rfl (by decide) (.slice A2 j cap2) j xs rfl (HOWN.out _ HB6.out) ⟨w5.heap.size, 0, none⟩ 1 1 #[Value.int .i64 k5, .int .i64 n5, .float .f64 f5, .string s5, .slice A5 L5.length cap5].toList rfl rfl (World.news_of_block (fr := (0, 0)) HN6.out) (by intro u hu; simp at hu; rcases hu with rfl | rfl | rfl | rfl | rfl <;> rfl) (by decide) (by simp only [maxLen]; omega) (by omega) (by have := HB6.out.size; omega) _ rfl ?_
            intro r2 cap4 w7 hown7 hgrow7 hat7 hrl7
            rw [Cm.rowOf_own] at hgrow7 hat7
            have HP : Hid (VsAt w7 (w.heap.size + 3) (some ⟨r2, 0, none⟩) cap4 (j + 1) (l.take (j + 1))) := Lib.hid (by
              rw [List.take_succ_eq_append_getElem hlt]
              exact VsAt.push (cap := 0) (H := w6.heap.size) hlen hlx (fun i h => (HXE.out i h).keep HB6.out.size (fun b hb _ => HB6.out.block b hb)) (by omega) HR6.out (by omega) (fun r hr => .inl (HRO.out r hr).1) hown7 hgrow7 hat7 (Nat.le_refl _))
            have HB7 : Hid (Below (w.heap.size + 3) wr w7) := Lib.hid ((HB6.out.mono (by omega)).trans ⟨hgrow7.os, hgrow7.tape, hgrow7.output, hgrow7.size, fun b hb => hgrow7.block b (by have := HB6.out.size; omega) (fun e => by have := (HRO.out b e.symm).2; omega)⟩)
            clear hown7 hgrow7 hat7
            refine hK.out _ _ (KS.out _ (HB7.out.mono (by omega))) (fun hHeld4 => ?_)
            clear hK K
            try simp only [Act.put, List.setIfInBounds_toArray, List.set_cons_zero, List.set_cons_succ]
            obtain ⟨d0, d1, d2, d3, d4⟩ := BoxAt.cells (HX2.out.later HB7.out (by omega))
            have df := Vt.box_free (HX2.out.later HB7.out (by omega)) 4
            first
              | (refine take_drop (i := 10) (v := ?_) rfl (by kernel_rfl) (by kernel_rfl) (by kernel_rfl) (fun _ _ _ h => h) (Or.inl ⟨by rfl, ?_⟩) (by assumption) ?_; rotate_left 1; (focus (intro w hSw; (try dsimp only at hSw); go_simp; try with_reducible rfl)); try simp only [Act.put, List.setIfInBounds_toArray, List.set_cons_zero, List.set_cons_succ])
              | (refine take_drop (i := 10) (v := undef) rfl (by kernel_rfl) (by kernel_rfl) (by kernel_rfl) (fun _ _ _ h => h) (Or.inr ⟨by rfl, rfl⟩) (by assumption) ?_; try simp only [Act.put, List.setIfInBounds_toArray, List.set_cons_zero, List.set_cons_succ])
            refine wpAnyH_ready (rs := [11]) (by kernel_rfl) (by simp) ?_
            refine cons_drop rfl (fun K hK => ?_) AllReadyH.nil
            go_simp
            refine hK.out _ _ (KS.out _ ((HB7.out.mono (by omega)).setCell (by simp) _)) (fun hHeld5 => ?_)
            clear hK K
            try simp only [Act.put, List.setIfInBounds_toArray, List.set_cons_zero, List.set_cons_succ]
            refine wpAnyH_done (by kernel_rfl) ?_ _
            refine NoPanic.normal ?_
            clear d0 d1 d2 d3 d4 df
            have hz7 := HB7.out.size
            go_wp2_with fail
            refine ⟨⟨j + 1, some ⟨r2, 0, none⟩, cap4, by omega, by go_num, ?_, ?_, ?_, ?_, ?_⟩, by simp [intOf]; omega⟩
            · exact Vt.box_far (HX0.out.later (HB7.out.mono (by omega)) (Nat.lt_succ_self _)) (by omega) _
            · exact Vt.box_far (HX1.out.later (HB7.out.mono (by omega)) (Nat.lt_succ_self _)) (by omega) _
            · exact Vt.box_set (HX2.out.later HB7.out (by omega))
            · exact HP.out.setCell (by simp only []; omega) _
            · exact (HBW.out.trans (HB7.out.mono (by omega))).setCell (by simp only []; omega) _
      · have hj' : j = l.length := by omega
        subst hj'
        rw [List.take_length] at hvs
        obtain ⟨d0, d1, d2, d3, d4⟩ := hx2.cells
        obtain ⟨r0, r1, r2, r3, r4⟩ := hx1.cells
        have f0 := Vt.box_free hx1 0
        have f1 := Vt.box_free hx1 1
        have f2 := Vt.box_free hx1 2
        have f3 := Vt.box_free hx1 3
        have f4 := Vt.box_free hx1 4
        have HMX := Lib.hid hvs; have HB := Lib.hid hbw
        clear hvs hbw hx0 hx1 hx2
        go_wp2_with fail
        refine bodyPost_ret (v := .agg #[.int .i64 k, .int .i64 n, .float .f64 f, .string s, .slice A2 l.length cap2]) (by simp [results, Try.results15, go_sem, r0, r1, r2, r3, r4]) rfl ?_
        exact rclone_finish HO.out HMX.out HB.out
end Cn
end Go.Proofs.Ytpneejlilgepfaa
