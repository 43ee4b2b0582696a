/- Contract of package value's Clone of a tree: the walk. -/
import Derived.Test.YtpneejlilgepfaaVtK
namespace Go.Proofs.Ytpneejlilgepfaa
open Go.RowKit
set_option linter.unusedVariables false
namespace Vt
open Nm (bitsW ret_int ret_bool)

/-- What Clone leaves: a copy in new memory, whose first cells are free. -/
def Cloned (t : VT) (w : World) (e : Ending) (w' : World) : Prop := ∃ k n f s l A cap, t = .mk k n f s l ∧ e = .returned (.agg #[.int .i64 k, .int .i64 n, .float .f64 f, .string s, .slice A l.length cap]) ∧
  Rep w' w.heap.size w'.heap.size t (.agg #[.int .i64 k, .int .i64 n, .float .f64 f, .string s, .slice A l.length cap]) ∧ Below w.heap.size w w' ∧
  (0 < l.length → ∀ b off, A = some ⟨b, off, none⟩ → ∀ o, w'.frozen? ⟨b, o, none⟩ = false)

/-- The start of the copying. -/
theorem mix_start {w w' : World} {lo hi base : Nat} {l : List VT} {A A2 : Option Addr} {cap2 : Nat} (hk : KidsAt w lo hi l A) (hz : hi ≤ base) (ho : w'.ownsRow base 33 5 (.slice A2 l.length cap2) l.length (rowCells w A (l.length * 5))) :
    ∃ C : Nat → Array Value, (∀ i (h : i < l.length), ∃ k n f s L A' cap, l[i] = .mk k n f s L ∧ C i = #[.int .i64 k, .int .i64 n, .float .f64 f, .string s, .slice A' L.length cap] ∧ Rep w lo hi l[i] (.agg (C i))) ∧ MixAt w' base l C A2 0 := by
  rcases Nat.eq_zero_or_pos l.length with h0 | hp
  · exact ⟨fun _ => #[], fun i h => absurd h (by omega), fun h => absurd h (by omega)⟩
  · obtain ⟨b, off, hA, h1, h2, h3⟩ := hk.at_ hp
    subst hA
    have h4 : ∀ i : Nat, ∃ C : Array Value, ∀ (h : i < l.length), (∃ k n f s L A' cap, l[i] = .mk k n f s L ∧ C = #[.int .i64 k, .int .i64 n, .float .f64 f, .string s, .slice A' L.length cap] ∧ Rep w lo hi l[i] (.agg C)) ∧
        ∀ r, r < 5 → w.cell? ⟨b, off + (i * 5 + r), none⟩ = C[r]? := fun i => by
      by_cases h : i < l.length
      · obtain ⟨k, n, f, s, L, A', cap, e, c0, c1, c2, c3, c4, hr⟩ := h3 i h
        refine ⟨_, fun _ => ⟨⟨k, n, f, s, L, A', cap, e, rfl, hr⟩, fun r hr5 => ?_⟩⟩
        rcases (by omega : r = 0 ∨ r = 1 ∨ r = 2 ∨ r = 3 ∨ r = 4) with rfl | rfl | rfl | rfl | rfl
        all_goals simpa [← Nat.add_assoc]
      · exact ⟨#[], fun h' => absurd h' h⟩
    obtain ⟨C, hC⟩ := Classical.axiomOfChoice h4
    refine ⟨C, fun i h => (hC i h).1, fun _ => ?_⟩
    rcases ho.2 with ⟨-, h0⟩ | ⟨g, cap, cur, hv, hb, hh, hn, hm, hs, ht⟩
    · omega
    · injection hv with hA2 _ _
      have hlt : g < w'.heap.size := (Array.getElem?_eq_some_iff.1 hh).1
      have hle : l.length * 5 ≤ cur.size := by rw [hs]; exact Nat.mul_le_mul_right 5 hn
      refine ⟨g, cur, hA2, hb, hlt, hh, hle, fun i hi => ⟨fun hj => absurd hj (by omega), fun _ r hr5 => ?_⟩⟩
      obtain ⟨⟨k, n, f, s, L, A', cap, e, hCi, hr⟩, hc⟩ := hC i hi
      have hq : i * 5 + r < l.length * 5 := by omega
      have e1 : cur[i * 5 + r]? = (rowCells w (some ⟨b, off, none⟩) (l.length * 5))[i * 5 + r]? := by
        rw [← ht, List.getElem?_take_of_lt hq, Array.getElem?_toList]
      rw [e1]
      have e2 := hc r hr5
      have e3 : ∃ u, (C i)[r]? = some u := by rw [hCi]; exact ⟨_, Array.getElem?_eq_getElem (by simpa using hr5)⟩
      obtain ⟨u, hu⟩ := e3
      rw [hu] at e2 ⊢
      unfold rowCells
      simp [List.getElem?_map, List.getElem?_range hq, e2]

theorem mix_cells {w : World} {base : Nat} {l : List VT} {C : Nat → Array Value} {A : Option Addr} {j : Nat} (hj : j < l.length) (h : MixAt w base l C A j) {u0 u1 u2 u3 u4 : Value} (hC : C j = #[u0, u1, u2, u3, u4]) :
    ∃ g, A = some ⟨g, 0, none⟩ ∧ base ≤ g ∧ g < w.heap.size ∧ w.cell? ⟨g, j * 5, none⟩ = some u0 ∧ w.cell? ⟨g, j * 5 + 1, none⟩ = some u1 ∧ w.cell? ⟨g, j * 5 + 2, none⟩ = some u2 ∧ w.cell? ⟨g, j * 5 + 3, none⟩ = some u3 ∧ w.cell? ⟨g, j * 5 + 4, none⟩ = some u4 ∧
      (∀ o, w.frozen? ⟨g, o, none⟩ = false) := by
  obtain ⟨g, cur, hA, h1, h2, h3, h4, h5⟩ := h (by omega)
  have hcell : ∀ r, r < 5 → w.cell? ⟨g, j * 5 + r, none⟩ = #[u0, u1, u2, u3, u4][r]? := fun r hr => by
    rw [← hC, ← (h5 j hj).2 (Nat.le_refl _) r hr]
    simp [World.cell?, h3]
  exact ⟨g, hA, h1, h2, by simpa using hcell 0 (by omega), by simpa using hcell 1 (by omega), by simpa using hcell 2 (by omega), by simpa using hcell 3 (by omega), by simpa using hcell 4 (by omega), fun o => by simp [World.frozen?, h3]⟩

theorem own_form {w : World} {base : Nat} {e : TypeId} {size : Nat} {v : Value} {n : Nat} {xs : List Value} (h : w.ownsRow base e size v n xs) : ∃ A cap, v = .slice A n cap ∧ n ≤ cap ∧ cap ≤ maxLen := by
  rcases h.2 with ⟨rfl, rfl⟩ | ⟨g, cap, cur, rfl, -, -, h1, h2, -⟩
  · exact ⟨none, 0, rfl, Nat.le_refl _, by unfold maxLen; omega⟩
  · exact ⟨_, cap, rfl, h1, h2⟩

theorem mix_set {w : World} {base : Nat} {l : List VT} {C : Nat → Array Value} {A : Option Addr} {j : Nat} (h : MixAt w base l C A j) {b o : Nat} (hb : b < base) (v : Value) : MixAt (w.setCell ⟨b, o, none⟩ v) base l C A j := fun hp => by
  obtain ⟨g, cur, hA, h1, h2, h3, h4, h5⟩ := h hp
  have hz : (w.setCell ⟨b, o, none⟩ v).heap.size = w.heap.size := by simp [World.setCell]
  refine ⟨g, cur, hA, h1, by omega, (Below.heap_setCell w ⟨b, o, none⟩ v g (by simp only []; omega)).trans h3, h4, fun i hi => ⟨fun hj => ?_, (h5 i hi).2⟩⟩
  obtain ⟨D, hD, hc⟩ := (h5 i hi).1 hj
  rw [hz]
  exact ⟨D, hD.setCell (.inl (by simp only []; omega)) v, hc⟩

theorem box_set {w : World} {g : Nat} {k n : Int} {f : Nat} {s : ByteArray} {A A2 : Option Addr} {m c m2 c2 : Nat} (h : BoxAt w g k n f s A m c) : BoxAt (w.setCell ⟨g, 4, none⟩ (.slice A2 m2 c2)) g k n f s A2 m2 c2 := by
  unfold BoxAt at *
  simp [World.setCell, Array.getElem?_modify, h]
theorem box_far {w : World} {g : Nat} {k n : Int} {f : Nat} {s : ByteArray} {A : Option Addr} {m c : Nat} (h : BoxAt w g k n f s A m c) {b o : Nat} (hb : g ≠ b) (v : Value) : BoxAt (w.setCell ⟨b, o, none⟩ v) g k n f s A m c :=
  (Below.heap_setCell w ⟨b, o, none⟩ v g (by simpa using hb)).trans h
theorem box_free {w : World} {g : Nat} {k n : Int} {f : Nat} {s : ByteArray} {A : Option Addr} {m c : Nat} (h : BoxAt w g k n f s A m c) (o : Nat) : w.frozen? ⟨g, o, none⟩ = false := by
  unfold BoxAt at h; simp [World.frozen?, h]

theorem free_row {w : World} {g : Nat} {t : TypeId} {cur : Array Value} (h : w.heap[g]? = some (.cells cur t (0, 0))) (o : Nat) : w.frozen? ⟨g, o, none⟩ = false := by simp [World.frozen?, h]

theorem clone_finish {w wr : World} {k n : Int} {f : Nat} {s : ByteArray} {l : List VT} {C : Nat → Array Value} {A2 : Option Addr} {cap0 cap2 : Nat} (ho : HeadOk k n f s cap0) (hl2 : l.length ≤ cap2) (hc2 : cap2 ≤ maxLen)
    (hm : MixAt wr (w.heap.size + 1 + 1) l C A2 l.length) (hb : Below w.heap.size w wr) :
    Cloned (.mk k n f s l) w (.returned (.agg #[.int .i64 k, .int .i64 n, .float .f64 f, .string s, .slice A2 l.length cap2])) (put5 wr (w.heap.size + 1) 0 (.int .i64 k) (.int .i64 n) (.float .f64 f) (.string s) (.slice A2 l.length cap2)) := by
  have hk2 := mix_done hm
  refine ⟨k, n, f, s, l, A2, cap2, rfl, rfl, ?_, put5_below hb (by omega), fun hp b off hA o => ?_⟩
  · rw [put5_size]
    exact (Rep.close ⟨ho.k0, ho.k1, ho.n0, ho.n1, ho.f1, ho.s1, hc2⟩ hl2 (hk2.keep fun b o hb _ => put5_cell _ _ _ _ _ _ _ _ b o (by omega))).more (by omega) (Nat.le_refl _)
  · obtain ⟨g, cur, hA', h1, h2, h3, -⟩ := hm hp
    rw [hA] at hA'
    obtain rfl : b = g := congrArg Addr.block (Option.some.inj hA')
    exact free_row ((put5_other wr (w.heap.size + 1) 0 _ _ _ _ _ b (by omega)).trans h3) o

set_option maxRecDepth 100000 in
set_option maxHeartbeats 4000000 in
theorem clone_any (t : VT) : ∀ (w : World) (lo hi : Nat) (v : Value) (_ : Rep w lo hi t v) (_ : hi ≤ w.heap.size) (_ : t.Slim 900),
    Calls Try.prog 30 #[v] w (Cloned t w) := by
  induction t using VT.ind with
  | _ k n f s l ih =>
    intro w lo hi v hR hz hS
    obtain ⟨A, cap, rfl, ho, hl, hk⟩ := hR.head
    obtain ⟨-, hl9, hkS⟩ := slim_mk.1 hS
    have hc := ho.m1
    have HO := Lib.hid ho
    have IH : Hid (∀ (i : Nat) (hi : i < l.length) (w : World) (lo hi : Nat) (v : Value) (_ : Rep w lo hi l[i] v) (_ : hi ≤ w.heap.size), Calls Try.prog 30 #[v] w (Cloned l[i] w)) :=
      Lib.hid fun i hi w lo hi' v h1 h2 => ih i hi w lo hi' v h1 h2 (hkS i hi)
    clear ih hR ho hkS hS
    have HK := Lib.hid hk; clear hk
    have hl0 : 0 ≤ (l.length : Int) := by omega
    have SC := Lib.hid (fun w lo hi h1 h2 => sclone_any l A cap hl9 hl hc w lo hi h1 h2)
    unfold maxLen at hc
    have HBX := Lib.hid ((BoxAt.new w k n f s A l.length cap).later ((Below.refl (w.heap.size + 1) _).alloc (by simp) (.cells #[.int .i64 0, .int .i64 0, .float .f64 0, .string ⟨#[]⟩, .slice none 0 0] 33)) (by omega))
    have HB0 := Lib.hid ((box_below w k n f s A l.length cap).alloc (by simp) (.cells #[.int .i64 0, .int .i64 0, .float .f64 0, .string ⟨#[]⟩, .slice none 0 0] 33))
    go_enter Try.func30, Try.ntmps30
    go_wp2_with fail
    refine (SC.out _ lo hi ((HK.out.alloc hz _).alloc (by simp; omega) _) (by simp; omega)).mono ?_
    rintro e w3 ⟨v', rfl, hown, hb3⟩
    obtain ⟨A2, cap2, rfl, hl2, hc2⟩ := own_form hown
    obtain ⟨C, hC, hmix⟩ := mix_start ((HK.out.alloc hz _).alloc (by simp; omega) _) (by simp; omega) hown
    have HC := Lib.hid hC
    clear hC hown
    simp only [World.size_alloc] at hmix
    have hsz3 := hb3.size
    simp only [World.size_alloc] at hsz3
    have hbox := HBX.out.later hb3 (by simp; omega)
    have hres : BoxAt w3 (w.heap.size + 1) 0 0 0 ⟨#[]⟩ none 0 0 := (hb3.block (w.heap.size + 1) (by simp only [World.size_alloc]; omega)).trans (by
      have := BoxAt.new (w.alloc (.cells #[.int .i64 k, .int .i64 n, .float .f64 f, .string s, .slice A l.length cap] 33)) 0 0 0 ⟨#[]⟩ none 0 0
      rw [World.size_alloc] at this
      exact this)
    have hb03 : Below w.heap.size w w3 := HB0.out.trans (hb3.mono (by simp; omega))
    clear hb3 HBX HB0 SC
    obtain ⟨c0, c1, c2, c3, c4⟩ := hbox.cells
    have hfz := box_free hbox 4
    have HM := Lib.hid (mix_set hmix (b := w.heap.size) (o := 4) (by omega) (.slice A2 l.length cap2))
    have HBX := Lib.hid (box_set (A2 := A2) (m2 := l.length) (c2 := cap2) hbox)
    have HRS := Lib.hid (box_far hres (b := w.heap.size) (o := 4) (by omega) (.slice A2 l.length cap2))
    have HBW := Lib.hid (hb03.setCell (p := ⟨w.heap.size, 4, none⟩) (Nat.le_refl _) (.slice A2 l.length cap2))
    clear hmix hbox hres hb03
    unfold maxLen at hc2
    go_wp2_with fail
    go_loopw [12] (fun i wr => ∃ (j : Nat), j ≤ l.length ∧ i = .int .i64 j ∧ BoxAt wr w.heap.size k n f s A2 l.length cap2 ∧ BoxAt wr (w.heap.size + 1) 0 0 0 ⟨#[]⟩ none 0 0 ∧ MixAt wr (w.heap.size + 1 + 1) l C A2 j ∧ Below w.heap.size w wr) (fun i _ => l.length - (intOf i).toNat)
    case atStart => exact ⟨0, by omega, rfl, HBX.out, HRS.out, HM.out, HBW.out⟩
    case round =>
      clear HBX HRS HM HBW c0 c1 c2 c3 c4 hfz hsz3
      obtain ⟨j, hj, rfl, hbox, hres, hmix, hb⟩ := hrel
      have hlt0 := hres.lt
      by_cases hlt : j < l.length
      · obtain ⟨k', n', f', s', L', A', cap', e, hCj, hrj⟩ := HC.out j hlt
        obtain ⟨g, hA2, hg1, hg2, d0, d1, d2, d3, d4, hfg⟩ := mix_cells hlt hmix hCj
        subst hA2
        obtain ⟨c0, c1, c2, c3, c4⟩ := hbox.cells
        have HRJ : Hid (Rep wr lo hi l[j] (.agg #[.int .i64 k', .int .i64 n', .float .f64 f', .string s', .slice A' L'.length cap'])) := Lib.hid (by
          rw [hCj] at hrj
          exact hrj.keep fun b o _ h2 => (hb.cell (p := ⟨b, o, none⟩) (by simp only []; omega)).trans (by simp [World.cell?_alloc_lt, show b < w.heap.size by omega, show b < w.heap.size + 1 by omega]))
        have HBX := Lib.hid hbox; have HRS := Lib.hid hres; have HMX := Lib.hid hmix; have HB := Lib.hid hb; have HFG := Lib.hid hfg
        clear hCj hrj e hbox hres hmix hb hfg
        go_wp2_with fail
        have hq := BoxAt.new wr k' n' f' s' A' L'.length cap'
        have HBQ : Hid (Below wr.heap.size wr (wr.alloc (.cells #[.int .i64 k', .int .i64 n', .float .f64 f', .string s', .slice A' L'.length cap'] 33))) := Lib.hid (box_below ..)
        have hqz : (wr.alloc (.cells #[.int .i64 k', .int .i64 n', .float .f64 f', .string s', .slice A' L'.length cap'] 33)).heap.size = wr.heap.size + 1 := World.size_alloc ..
        generalize wr.alloc (.cells #[.int .i64 k', .int .i64 n', .float .f64 f', .string s', .slice A' L'.length cap'] 33) = wq at *
        have hqz' : wr.heap.size < wq.heap.size := by omega
        have HQZ := Lib.hid hqz; clear hqz
        obtain ⟨q0, q1, q2, q3, q4⟩ := hq.cells
        have c4' : wq.cell? ⟨w.heap.size, 4, none⟩ = some (.slice (some ⟨g, 0, none⟩) l.length cap2) := (HBQ.out.cell (p := ⟨w.heap.size, 4, none⟩) (by simp only []; omega)).trans c4
        clear hq
        have hgq : g < wq.heap.size := by omega
        have H9 : Hid (∀ W', Below wq.heap.size wq W' → Calls Try.prog 30 #[.agg #[.int .i64 k', .int .i64 n', .float .f64 f', .string s', .slice A' L'.length cap']] W' (Cloned l[j] W')) := Lib.hid fun W' hb => by
          have hz' := hb.size
          exact IH.out j hlt W' lo hi _ ((HRJ.out.later (HBQ.out.mono (by omega))).later (hb.mono (by omega))) (by omega)
        have KS : Hid (∀ W', Below wq.heap.size wq W' → W'.cell? ⟨w.heap.size, 4, none⟩ = some (.slice (some ⟨g, 0, none⟩) l.length cap2) ∧ W'.cell? ⟨wr.heap.size, 0, none⟩ = some (.int .i64 k') ∧ W'.cell? ⟨wr.heap.size, 1, none⟩ = some (.int .i64 n') ∧ W'.cell? ⟨wr.heap.size, 2, none⟩ = some (.float .f64 f') ∧ W'.cell? ⟨wr.heap.size, 3, none⟩ = some (.string s') ∧ W'.cell? ⟨wr.heap.size, 4, none⟩ = some (.slice A' L'.length cap')) := Lib.hid fun W' hb => by
          have e1 : ∀ b o, b < wq.heap.size → W'.cell? ⟨b, o, none⟩ = wq.cell? ⟨b, o, none⟩ := fun b o h => hb.cell (p := ⟨b, o, none⟩) h
          exact ⟨(e1 _ _ (by omega)).trans c4', (e1 _ _ hqz').trans q0, (e1 _ _ hqz').trans q1, (e1 _ _ hqz').trans q2, (e1 _ _ hqz').trans q3, (e1 _ _ hqz').trans q4⟩
        have KS2 : Hid (∀ (W5 W' : World), Below wq.heap.size wq W5 → (∀ b p, b ≠ g → W'.cell? ⟨b, p, none⟩ = W5.cell? ⟨b, p, none⟩) → W'.cell? ⟨w.heap.size, 4, none⟩ = some (.slice (some ⟨g, 0, none⟩) l.length cap2) ∧ W'.cell? ⟨wr.heap.size, 0, none⟩ = some (.int .i64 k') ∧ W'.cell? ⟨wr.heap.size, 1, none⟩ = some (.int .i64 n') ∧ W'.cell? ⟨wr.heap.size, 2, none⟩ = some (.float .f64 f') ∧ W'.cell? ⟨wr.heap.size, 3, none⟩ = some (.string s') ∧ W'.cell? ⟨wr.heap.size, 4, none⟩ = some (.slice A' L'.length cap')) := Lib.hid fun W5 W' hb he => by
          obtain ⟨a0, a1, a2, a3, a4, a5⟩ := KS.out W5 hb
          exact ⟨(he _ _ (by omega)).trans a0, (he _ _ (by omega)).trans a1, (he _ _ (by omega)).trans a2, (he _ _ (by omega)).trans a3, (he _ _ (by omega)).trans a4, (he _ _ (by omega)).trans a5⟩
        have KG : Hid (∀ W', Below wq.heap.size wq W' → W'.cell? ⟨g, j * 5, none⟩ = some (.int .i64 k') ∧ W'.cell? ⟨g, j * 5 + 1, none⟩ = some (.int .i64 n') ∧ W'.cell? ⟨g, j * 5 + 2, none⟩ = some (.float .f64 f') ∧ W'.cell? ⟨g, j * 5 + 3, none⟩ = some (.string s') ∧ W'.cell? ⟨g, j * 5 + 4, none⟩ = some (.slice A' L'.length cap') ∧
            W'.frozen? ⟨g, j * 5, none⟩ = false ∧ W'.frozen? ⟨g, j * 5 + 1, none⟩ = false ∧ W'.frozen? ⟨g, j * 5 + 2, none⟩ = false ∧ W'.frozen? ⟨g, j * 5 + 3, none⟩ = false ∧ W'.frozen? ⟨g, j * 5 + 4, none⟩ = false) := Lib.hid fun W' hb => by
          have e1 : ∀ o, W'.cell? ⟨g, o, none⟩ = wq.cell? ⟨g, o, none⟩ := fun o => hb.cell (p := ⟨g, o, none⟩) hgq
          have e2 : ∀ o, W'.frozen? ⟨g, o, none⟩ = false := fun o => (hb.frozen (p := ⟨g, o, none⟩) hgq).trans ((HBQ.out.frozen (p := ⟨g, o, none⟩) hg2).trans (HFG.out o))
          have e3 : ∀ o, wq.cell? ⟨g, o, none⟩ = wr.cell? ⟨g, o, none⟩ := fun o => HBQ.out.cell (p := ⟨g, o, none⟩) hg2
          exact ⟨((e1 _).trans (e3 _)).trans d0, ((e1 _).trans (e3 _)).trans d1, ((e1 _).trans (e3 _)).trans d2, ((e1 _).trans (e3 _)).trans d3, ((e1 _).trans (e3 _)).trans d4, e2 _, e2 _, e2 _, e2 _, e2 _⟩
        clear d0 d1 d2 d3 d4 q0 q1 q2 q3 q4 c0 c1 c2 c3 c4 c4'
        go_region_held3 (fun W' => W'.cell? ⟨w.heap.size, 4, none⟩ = some (.slice (some ⟨g, 0, none⟩) l.length cap2) ∧ W'.cell? ⟨wr.heap.size, 0, none⟩ = some (.int .i64 k') ∧ W'.cell? ⟨wr.heap.size, 1, none⟩ = some (.int .i64 n') ∧ W'.cell? ⟨wr.heap.size, 2, none⟩ = some (.float .f64 f') ∧ W'.cell? ⟨wr.heap.size, 3, none⟩ = some (.string s') ∧ W'.cell? ⟨wr.heap.size, 4, none⟩ = some (.slice A' L'.length cap'))
          (first
            | (exact KS.out _ (below_drew (Below.refl _ _)))
            | (exact KS.out _ (Below.trans (below_drew (Below.refl _ _)) hb9))
            | (exact KS2.out w5 _ (Below.trans (below_drew (Below.refl _ _)) hb9) (fun b p h => put5_cell w5 g (j * 5) _ _ _ _ _ b p h)))
          ((go_at_call 30; refine (H9.out _ (below_drew (Below.refl _ _))).mono ?_; rintro e w5 ⟨k5, n5, f5, s5, L5, A5, cap5, e5, rfl, hr5, hb9, -⟩; obtain ⟨g0, g1, g2, g3, g4, f0, f1, f2, f3, f4⟩ := KG.out w5 (Below.trans (below_drew (Below.refl _ _)) hb9); have E5 := Lib.hid e5; clear e5))
        have hbq5 : Below wq.heap.size wq w5 := Below.trans (below_drew (Below.refl _ _)) hb9
        have hb5r : Below wr.heap.size wr w5 := HBQ.out.trans (hbq5.mono (by omega))
        clear hbq5
        have hz5 := hb5r.size
        have HR5 : Hid (Rep w5 (g + 1) w5.heap.size l[j] (.agg #[.int .i64 k5, .int .i64 n5, .float .f64 f5, .string s5, .slice A5 L5.length cap5])) := Lib.hid (hr5.more (by show g + 1 ≤ wq.heap.size; omega) (Nat.le_refl _))
        have HM5 := Lib.hid (mix_step hlt (mix_later HMX.out hb5r) rfl HR5.out)
        have HX5 := Lib.hid (show BoxAt (put5 w5 g (j * 5) (.int .i64 k5) (.int .i64 n5) (.float .f64 f5) (.string s5) (.slice A5 L5.length cap5)) w.heap.size k n f s (some ⟨g, 0, none⟩) l.length cap2 from (put5_other _ _ _ _ _ _ _ _ _ (by omega)).trans (HBX.out.later hb5r (by omega)))
        have HS5 := Lib.hid (show BoxAt (put5 w5 g (j * 5) (.int .i64 k5) (.int .i64 n5) (.float .f64 f5) (.string s5) (.slice A5 L5.length cap5)) (w.heap.size + 1) 0 0 0 ⟨#[]⟩ none 0 0 from (put5_other _ _ _ _ _ _ _ _ _ (by omega)).trans (HRS.out.later hb5r (by omega)))
        have HB5 := Lib.hid (put5_below (d0 := .int .i64 k5) (d1 := .int .i64 n5) (d2 := .float .f64 f5) (d3 := .string s5) (d4 := .slice A5 L5.length cap5) (o := j * 5) (HB.out.trans (hb5r.mono (by omega))) (show w.heap.size ≤ g by omega))
        clear hb5r hr5 hb9 KS KS2 KG H9 HMX HBX HRS HB HR5 HFG HBQ HRJ E5
        go_split_ands
        unfold put5 at HM5 HX5 HS5 HB5
        generalize ((((w5.setCell ⟨g, j * 5, none⟩ (.int .i64 k5)).setCell ⟨g, j * 5 + 1, none⟩ (.int .i64 n5)).setCell ⟨g, j * 5 + 2, none⟩ (.float .f64 f5)).setCell ⟨g, j * 5 + 3, none⟩ (.string s5)).setCell ⟨g, j * 5 + 4, none⟩ (.slice A5 L5.length cap5) = w6 at *
        clear g0 g1 g2 g3 g4 f0 f1 f2 f3 f4
        go_wp2_with fail
        go_roundw
        case rel => exact ⟨j + 1, by omega, by go_num, HX5.out, HS5.out, HM5.out, HB5.out⟩
        case measure => simp [intOf]; omega
      · have hj' : j = l.length := by omega
        subst hj'
        obtain ⟨c0, c1, c2, c3, c4⟩ := hbox.cells
        obtain ⟨r0, r1, r2, r3, r4⟩ := hres.cells
        have f0 := box_free hres 0
        have f1 := box_free hres 1
        have f2 := box_free hres 2
        have f3 := box_free hres 3
        have f4 := box_free hres 4
        have HMX := Lib.hid hmix; have HB := Lib.hid hb; have HRS := Lib.hid hres
        clear hmix hb hbox hres
        go_wp2_with fail
        refine bodyPost_ret (v := .agg #[.int .i64 k, .int .i64 n, .float .f64 f, .string s, .slice A2 l.length cap2]) (by simp [results, Try.results30, go_sem, r0, r1, r2, r3, r4]) rfl ?_
        exact clone_finish HO.out hl2 (by unfold maxLen; exact hc2) HMX.out HB.out
end Vt
end Go.Proofs.Ytpneejlilgepfaa
