/- The text of a list; the text of any valid small value. -/
/- Forms of events: event.Bytes of any valid small event; no form is the beginning of another. -/
import Derived.Test.YtpneejlilgepfaaGreatDoorMbat
import Derived.Lib.ItoaLen
import Derived.Test.YtpneejlilgepfaaGreatDoorMbap
import Derived.Test.YtpneejlilgepfaaGreatDoorMbas
import Derived.Test.YtpneejlilgepfaaGreatDoorMbak
namespace Go.Proofs.YtpneejlilgepfaaGreatDoor
open Go.RowKit Go.Shelf
set_option linter.unusedVariables false
set_option linter.unusedSimpArgs false
namespace Vf
open _root_.Go.Proofs.YtpneejlilgepfaaGreatDoor.Nm (bitsW bits_any ret_int ret_bool)
open Bt (BOwn BIn ubytes sb SOwn join_any run_append_str)
open Pf (zz hexL hexL_cons stext)
open Vt (VT Rep BoxAt below_drew KidsAt HeadOk kindV of_any)
open Ev (take_drop cons_drop)
open Fu (hd hd_lt textW)

/-! ### How long a text gets -/
theorem weightL_sumG (g : VT → Nat) (l : List VT) : ∀ (n m : Int) (C : Int), 0 ≤ C → Vt.weightL l n m ≤ m → (∀ (i : Nat) (hi : i < l.length) (m' : Int), m' ≤ m → l[i].weight m' ≤ m' → ((g l[i]) : Int) ≤ C * l[i].weight m') → 0 ≤ n → C * n + ((l.map g).sum : Int) ≤ C * Vt.weightL l n m := by
  induction l with
  | nil => intro n m C hC h hk hn; rw [Vt.weightL_nil]; simp
  | cons t l ih =>
    intro n m C hC h hk hn
    rw [Vt.weightL_cons] at h ⊢
    by_cases hnm : n ≤ m
    · rw [if_pos hnm] at h ⊢
      have hw := Vt.weight_ge t (m - n)
      have hge := Vt.weightL_ge' l (n + t.weight (m - n)) m
      have h1 := hk 0 (by simp) (m - n) (by omega) (by simp only [List.getElem_cons_zero]; omega)
      simp only [List.getElem_cons_zero] at h1
      have h2 := ih (n + t.weight (m - n)) m C hC h (fun i hi m' hm' hw' => hk (i + 1) (by simpa using hi) m' hm' hw') (by omega)
      simp only [List.map_cons, List.sum_cons]
      rw [Int.mul_add] at h2
      push_cast
      omega
    · rw [if_neg hnm] at h
      omega
def tlen (t : VT) : Nat := (Pf.VT.text t).length + 1
theorem join_le (l : List VT) : (Lib.join (l.map Pf.VT.text) [32]).length ≤ (l.map tlen).sum := by
  cases l with
  | nil => simp [Lib.join_nil]
  | cons t l =>
    rw [List.map_cons, Lib.join_cons, List.length_append]
    have : ∀ l : List VT, (Lib.joinTail [32] (l.map Pf.VT.text)).length = (l.map tlen).sum := fun l => by
      induction l with
      | nil => rfl
      | cons t l ih =>
        rw [List.map_cons, show Lib.joinTail [32] (Pf.VT.text t :: l.map Pf.VT.text) = (32 :: Pf.VT.text t) ++ Lib.joinTail [32] (l.map Pf.VT.text) from by simp [Lib.joinTail], List.length_append, ih, List.map_cons, List.sum_cons, List.length_cons]
        rfl
    rw [this, List.map_cons, List.sum_cons]
    unfold tlen; omega
theorem textW_len (v : Nat) : (textW v).data.toList.length ≤ 17 := by
  have : (textW v).size ≤ 17 := by
    unfold textW
    split
    · decide
    · split
      · decide
      · split
        · decide
        · split
          · decide
          · split
            · decide
            · rw [Fu.top_size _ _ (by omega)]; omega
  exact this
theorem hexL_len (l : List Nat) : (hexL l).length = 2 * l.length := by
  induction l with
  | nil => rfl
  | cons c l ih => rw [hexL_cons]; simp only [List.length_cons]; omega
theorem text_len_of_weight (t : VT) : Pf.VT.fine t → ∀ m : Int, m ≤ 900 → t.weight m ≤ m → (tlen t : Int) ≤ 24 * t.weight m := by
  induction t using VT.ind with
  | _ k n f s l ih =>
    intro hfine m hm h
    obtain ⟨⟨n0, n1, -, -, -⟩, hfk⟩ := Pf.fine_mk.1 hfine
    rw [Vt.weight_mk] at h ⊢
    have hge := Vt.weightL_ge' l (1 + min (s.size : Int) 1000) m
    have hs := weightL_sumG tlen l (1 + min (s.size : Int) 1000) m 24 (by omega) h (fun i hi m' hm' hw' => ih i hi (hfk _ (List.getElem_mem hi)) m' (by omega) hw') (by omega)
    have hss : (s.size : Int) ≤ 900 := by omega
    have h1 := Lib.itoa_length_le n n0 n1
    have h2 := textW_len (bitsW f)
    have h3 := hexL_len (sb s)
    have h4 := Bt.sb_len s
    have h5 := join_le l
    have hnn : (0 : Int) ≤ ((l.map tlen).sum : Int) := Int.natCast_nonneg _
    have e : ((Pf.VT.text (.mk k n f s l)).length : Int) ≤ 21 + 2 * s.size + (l.map tlen).sum := by
      rw [Pf.text_mk]
      split
      · omega
      · split
        · rw [List.length_cons]; push_cast; omega
        · split
          · unfold stext; rw [List.length_cons, List.length_append, List.length_singleton]; push_cast; omega
          · split
            · rw [List.length_cons, List.length_append, List.length_singleton]; push_cast; omega
            · simp; omega
    unfold tlen
    push_cast
    omega
theorem text_len_few {t : VT} (hf : Pf.VT.fine t) (h : t.few = true) : (Pf.VT.text t).length ≤ 21600 := by
  unfold VT.few at h
  rw [Bool.and_eq_true, decide_eq_true_iff] at h
  have := text_len_of_weight t hf 900 (by omega) h.1
  unfold tlen at this
  omega

/-! ### Walks -/
/-- A value's text as a string. -/
def textB (t : VT) : ByteArray := ⟨(Pf.VT.text t).toArray⟩

theorem step_append_str {ops : Array Oper} {o : Oper} {a : Act} {K : Act → World → Prop} {Q : Exit → Act → World → Prop} {E : Prop} (W : World) (hgd : o.guard = none) (s y : Operand)
    (ho : o.op = .call { callee := .builtin .append, args := #[s, y], argTypes := #[74, 74] }) (base : Nat) (v : Value) (g c : Nat) (l : List ByteArray) (x : ByteArray) (hv : a.eval s = v) (hy : a.eval y = .slice (some ⟨g, 0, none⟩) 1 c) (hx : W.cell? ⟨g, 0, none⟩ = some (.string x)) (hown : SOwn W base v l) (hlen : l.length ≤ 1000000) (hbase : base ≤ W.heap.size)
    (h : ∀ v' W', SOwn W' base v' (l ++ [x]) → W.grownBy W' v.ownBlock → Below base W W' → K (a.put o.dst v') W') : if Region.wanted o (yielded ops a.tmps) = true then Oper.wp Tryz.prog o a W K Q else E := by
  have hw : Region.wanted o (yielded ops a.tmps) = true := by simp [Region.wanted, hgd]
  rw [if_pos hw]
  obtain ⟨v', W', hr, h1, h2⟩ := run_append_str o.type g c hx hown hlen hbase
  exact Lib.wp_append_run W s y _ _ ho v _ hv hy v' W' hr (h v' W' h1 h2 ((Below.refl base W).grown h2 hbase hown.row_ge))

set_option maxRecDepth 100000 in
theorem join_none (A : Option Addr) (cap : Nat) (w : World) : Calls Tryz.prog 49 #[.slice A 0 cap, .string ⟨#[32]⟩] w fun e w' => e = .returned (.string ⟨#[]⟩) ∧ Below w.heap.size w w' := by
  go_enter Tryz.func49, Tryz.ntmps49
  go_wp2_with fail
  go_ret
  exact ⟨rfl, Below.refl _ _⟩

/-- A value whose kind's method of text is known. -/
def TxOk (t : VT) : Prop := ∃ T M, kindV t.k = .iface T (.agg #[]) ∧ (∀ n w, (method (n + 1) T (.agg #[]) "clockwork/value.text").run Tryz.prog w = .ok (M, .agg #[]) w) ∧ (∀ args w, (callFunc M args).run Tryz.prog w = .ok (.enter M args) w) ∧
  ∀ (W : World) (lo hi : Nat) (v : Value), Rep W lo hi t v → hi ≤ W.heap.size → TB W → Calls Tryz.prog M #[.agg #[], v] W (KT W (Pf.VT.text t))

theorem sown_nil (w : World) (base : Nat) : SOwn w base (.slice none 0 0) [] := ⟨rfl, .inl ⟨rfl, rfl⟩⟩
theorem sown_lt {w : World} {base : Nat} {v : Value} {l : List ByteArray} (h : SOwn w base v l) : ∀ k, v.ownBlock = some k → k < w.heap.size := by
  intro k hk
  rcases h.2 with ⟨rfl, -⟩ | ⟨g, cap, cur, rfl, q2, q3, -⟩
  · cases hk
  · cases hk; exact (Array.getElem?_eq_some_iff.1 q3).1

set_option maxRecDepth 100000 in
set_option maxHeartbeats 2000000 in
theorem list_text (k n : Int) (f : Nat) (s : ByteArray) (l : List VT) (A : Option Addr) (cap : Nat) (hl : l.length ≤ cap) (hl9 : l.length ≤ 1100) (hcap : cap ≤ maxLen) (w : World) (lo hi : Nat) (hk : KidsAt w lo hi l A) (hz : hi ≤ w.heap.size) (ht : TB w) (hlen : (Lib.join (l.map Pf.VT.text) [32]).length ≤ 500000)
    (ih : ∀ i (h : i < l.length), TxOk l[i]) :
    Calls Tryz.prog 202 #[.agg #[], .agg #[.int .i64 k, .int .i64 n, .float .f64 f, .string s, .slice A l.length cap]] w (KT w (91 :: (Lib.join (l.map Pf.VT.text) [32] ++ [93]))) := by
  simp only [maxLen] at hcap
  obtain ⟨W0, hW0⟩ : ∃ W0, W0 = (w.alloc (.cells #[] 149)).alloc (.cells #[.int .i64 k, .int .i64 n, .float .f64 f, .string s, .slice A l.length cap] 41) := ⟨_, rfl⟩
  have HB0 : Hid (Below w.heap.size w W0) := Lib.hid (by rw [hW0]; exact ((Below.refl _ _).alloc (Nat.le_refl _) _).alloc (by simp) _)
  have hz0 : w.heap.size + 1 < W0.heap.size := by rw [hW0]; simp
  have hx0 : BoxAt W0 (w.heap.size + 1) k n f s A l.length cap := by
    rw [hW0]
    have e := heap_alloc_new (w.alloc (.cells #[] 149)) (.cells #[.int .i64 k, .int .i64 n, .float .f64 f, .string s, .slice A l.length cap] 41)
    rw [World.size_alloc] at e
    exact e
  obtain ⟨c0, c1, c2, c3, c4⟩ := hx0.cells
  have HK := Lib.hid (hk.later (HB0.out.mono hz))
  have HTB0 := Lib.hid (ht.later HB0.out)
  have IH := Lib.hid ih
  have HLEN := Lib.hid hlen
  have hhi : hi ≤ W0.heap.size := Nat.le_trans hz HB0.out.size
  replace hW0 := Lib.hid hW0
  clear hx0 hk ih hlen ht
  go_enter Tryz.func202, Tryz.ntmps202
  go_upto_region 1 with fail
  rw [← hW0.out]
  go_wp2_with fail
  clear c0 c1 c2 c3 c4
  go_loopw [5, 11] (fun out i wr => ∃ (j : Nat) (vo : Value), j ≤ l.length ∧ i = .int .i64 j ∧ vo = out ∧ SOwn wr W0.heap.size vo ((l.take j).map textB) ∧ Below W0.heap.size W0 wr) (fun _ i _ => l.length - (intOf i).toNat)
  case atStart => exact ⟨0, _, by omega, rfl, rfl, by simpa using sown_nil W0 _, Below.refl _ _⟩
  case round =>
    obtain ⟨j, vo, hj, rfl, rfl, hown, hb⟩ := hrel
    have HO0 := Lib.hid hown; have HB := Lib.hid hb
    clear hown hb
    by_cases hlt : j < l.length
    · obtain ⟨b, off, rfl, hb1, hb2, h3⟩ := (HK.out.later (HB.out.mono hhi)).at_ (by omega)
      obtain ⟨k', n', f', s', L', A', cap', e, g0, g1, g2, g3, g4, hrj⟩ := h3 j hlt
      obtain ⟨TT, MM, hkv, hM, hcall, hT⟩ := IH.out j hlt
      obtain ⟨W1, hW1⟩ : ∃ W1, W1 = wr.alloc (.cells #[.int .i64 k', .int .i64 n', .float .f64 f', .string s', .slice A' L'.length cap'] 41) := ⟨_, rfl⟩
      have hba : Below wr.heap.size wr W1 := by rw [hW1]; exact (Below.refl _ _).alloc (Nat.le_refl _) _
      have hx1 : BoxAt W1 wr.heap.size k' n' f' s' A' L'.length cap' := by rw [hW1]; exact BoxAt.new ..
      have hze : wr.heap.size < W1.heap.size := by rw [hW1]; simp
      have hhr : hi ≤ wr.heap.size := Nat.le_trans hhi HB.out.size
      have hkk : k' = l[j].k := by rw [e]
      have HT : Hid (∀ W, Below W1.heap.size W1 W → Calls Tryz.prog MM #[.agg #[], .agg #[.int .i64 k', .int .i64 n', .float .f64 f', .string s', .slice A' L'.length cap']] W (KT W (Pf.VT.text l[j]))) := Lib.hid fun W hW => hT W lo hi _ ((hrj.later (hba.mono hhr)).later (hW.mono (Nat.le_trans hhr hba.size))) (Nat.le_trans hhr (Nat.le_trans hba.size hW.size)) (((HTB0.out.later HB.out).later hba).later hW)
      have HO : Hid (∀ W, Calls Tryz.prog 91 #[.int .i64 k'] W fun e w' => e = .returned (.iface TT (.agg #[])) ∧ W = w') := Lib.hid fun W => by
        have h9 := of_any k' W
        rw [hkk, hkv] at h9
        rw [hkk]
        exact h9
      have HOA := Lib.hid (HO0.out.later hba)
      have HBA := Lib.hid (HB.out.trans (hba.mono HB.out.size))
      have HNE : Hid (vo.ownBlock ≠ some wr.heap.size) := Lib.hid (fun e => by have := sown_lt HO0.out _ e; omega)
      have KS : Hid (∀ W' : World, W'.heap[wr.heap.size]? = W1.heap[wr.heap.size]? → (W'.cell? ⟨wr.heap.size, 0, none⟩ = some (.int .i64 k') ∧ W'.cell? ⟨wr.heap.size, 1, none⟩ = some (.int .i64 n') ∧ W'.cell? ⟨wr.heap.size, 2, none⟩ = some (.float .f64 f') ∧ W'.cell? ⟨wr.heap.size, 3, none⟩ = some (.string s') ∧ W'.cell? ⟨wr.heap.size, 4, none⟩ = some (.slice A' L'.length cap'))) := Lib.hid fun W' hW => BoxAt.cells (show BoxAt W' wr.heap.size k' n' f' s' A' L'.length cap' from hW.trans hx1)
      have HTB : Hid (textB l[j] = ⟨(Pf.VT.text l[j]).toArray⟩) := Lib.hid rfl
      replace hW1 := Lib.hid hW1
      clear h3 hrj e hba hx1 hT hkv hkk
      go_upto_region 5 with fail
      rw [← hW1.out]
      clear g0 g1 g2 g3 g4
      refine wp_region_noPanic ?_
      refine wp_region_held_drew (S := (fun W' : World => W'.cell? ⟨wr.heap.size, 0, none⟩ = some (.int .i64 k') ∧ W'.cell? ⟨wr.heap.size, 1, none⟩ = some (.int .i64 n') ∧ W'.cell? ⟨wr.heap.size, 2, none⟩ = some (.float .f64 f') ∧ W'.cell? ⟨wr.heap.size, 3, none⟩ = some (.string s') ∧ W'.cell? ⟨wr.heap.size, 4, none⟩ = some (.slice A' L'.length cap'))) (by kernel_rfl) ?_ (fun hHeld => ?_)
      · exact KS.out _ rfl
      first
        | (refine take_drop (i := 0) (v := ?_) rfl (by kernel_rfl) (by kernel_rfl) (by kernel_rfl) (fun _ _ _ h => h) (Or.inl ⟨by rfl, ?_⟩) (by assumption) ?_; rotate_left 1; (focus (intro w hSw; (try dsimp only at hSw); go_simp; try with_reducible rfl)); try simp only [Act.put, List.setIfInBounds_toArray, List.set_cons_zero, List.set_cons_succ])
        | (refine take_drop (i := 0) (v := undef) rfl (by kernel_rfl) (by kernel_rfl) (by kernel_rfl) (fun _ _ _ h => h) (Or.inr ⟨by rfl, rfl⟩) (by assumption) ?_; try simp only [Act.put, List.setIfInBounds_toArray, List.set_cons_zero, List.set_cons_succ])
      first
        | (refine take_drop (i := 1) (v := ?_) rfl (by kernel_rfl) (by kernel_rfl) (by kernel_rfl) (fun _ _ _ h => h) (Or.inl ⟨by rfl, ?_⟩) (by assumption) ?_; rotate_left 1; (focus (intro w hSw; (try dsimp only at hSw); go_simp; try with_reducible rfl)); try simp only [Act.put, List.setIfInBounds_toArray, List.set_cons_zero, List.set_cons_succ])
        | (refine take_drop (i := 1) (v := undef) rfl (by kernel_rfl) (by kernel_rfl) (by kernel_rfl) (fun _ _ _ h => h) (Or.inr ⟨by rfl, rfl⟩) (by assumption) ?_; try simp only [Act.put, List.setIfInBounds_toArray, List.set_cons_zero, List.set_cons_succ])
      first
        | (refine take_drop (i := 2) (v := ?_) rfl (by kernel_rfl) (by kernel_rfl) (by kernel_rfl) (fun _ _ _ h => h) (Or.inl ⟨by rfl, ?_⟩) (by assumption) ?_; rotate_left 1; (focus (intro w hSw; (try dsimp only at hSw); go_simp; try with_reducible rfl)); try simp only [Act.put, List.setIfInBounds_toArray, List.set_cons_zero, List.set_cons_succ])
        | (refine take_drop (i := 2) (v := undef) rfl (by kernel_rfl) (by kernel_rfl) (by kernel_rfl) (fun _ _ _ h => h) (Or.inr ⟨by rfl, rfl⟩) (by assumption) ?_; try simp only [Act.put, List.setIfInBounds_toArray, List.set_cons_zero, List.set_cons_succ])
      first
        | (refine take_drop (i := 4) (v := ?_) rfl (by kernel_rfl) (by kernel_rfl) (by kernel_rfl) (fun _ _ _ h => h) (Or.inl ⟨by rfl, ?_⟩) (by assumption) ?_; rotate_left 1; (focus (intro w hSw; (try dsimp only at hSw); go_simp; try with_reducible rfl)); try simp only [Act.put, List.setIfInBounds_toArray, List.set_cons_zero, List.set_cons_succ])
        | (refine take_drop (i := 4) (v := undef) rfl (by kernel_rfl) (by kernel_rfl) (by kernel_rfl) (fun _ _ _ h => h) (Or.inr ⟨by rfl, rfl⟩) (by assumption) ?_; try simp only [Act.put, List.setIfInBounds_toArray, List.set_cons_zero, List.set_cons_succ])
      refine wpAnyH_ready (rs := [3]) (by kernel_rfl) (by simp) ?_
      refine cons_drop rfl (fun K hK => ?_) AllReadyH.nil
      go_simp
      refine (HO.out _).mono ?_
      rintro e w2 ⟨rfl, rfl⟩
      go_wp2_with fail
      refine hK.out _ _ (KS.out _ (rfl)) (fun hHeld2 => ?_)
      clear hK K
      try simp only [Act.put, List.setIfInBounds_toArray, List.set_cons_zero, List.set_cons_succ]
      refine wpAnyH_ready (rs := [5]) (by kernel_rfl) (by simp) ?_
      refine cons_drop rfl (fun K hK => ?_) AllReadyH.nil
      go_simp
      refine (HT.out _ (below_drew (Below.refl _ _))).mono ?_
      rintro e w3 ⟨rfl, hb3⟩
      have hbx3 : Below W1.heap.size W1 w3 := (below_drew (Below.refl _ _)).trans hb3
      have HB3 := Lib.hid hbx3
      clear hb3 hbx3
      go_wp2_with fail
      refine hK.out _ _ (KS.out _ (HB3.out.block _ hze)) (fun hHeld2 => ?_)
      clear hK K
      try simp only [Act.put, List.setIfInBounds_toArray, List.set_cons_zero, List.set_cons_succ]
      refine wpAnyH_ready (rs := [6]) (by kernel_rfl) (by simp) ?_
      refine cons_drop rfl (fun K hK => ?_) AllReadyH.nil
      go_simp
      obtain ⟨w4, hw4⟩ : ∃ x, x = w3.alloc (.cells #[.string (textB l[j])] 9) := ⟨_, rfl⟩
      rw [← HTB.out, ← hw4]
      have hcell : w4.cell? ⟨w3.heap.size, 0, none⟩ = some (.string (textB l[j])) := by rw [hw4]; have e := heap_alloc_new w3 (.cells #[.string (textB l[j])] 9); simp only [World.cell?, e]; rfl
      have hb4 : Below w3.heap.size w3 w4 := by rw [hw4]; exact (Below.refl _ _).alloc (Nat.le_refl _) _
      have HB4 := Lib.hid (HB3.out.trans (hb4.mono HB3.out.size))
      have HO4 := Lib.hid ((HOA.out.later HB4.out))
      have HCE := Lib.hid hcell
      clear hw4 hcell hb4
      refine hK.out _ _ (KS.out _ (HB4.out.block _ hze)) (fun hHeld2 => ?_)
      clear hK K
      try simp only [Act.put, List.setIfInBounds_toArray, List.set_cons_zero, List.set_cons_succ]
      refine wpAnyH_ready (rs := [7]) (by kernel_rfl) (by simp) ?_
      refine cons_drop rfl (fun K hK => ?_) AllReadyH.nil
      refine step_append_str _ rfl _ _ rfl W0.heap.size _ w3.heap.size 1 _ (textB l[j]) rfl rfl HCE.out HO4.out (by rw [List.length_map, List.length_take]; omega) (Nat.le_trans HBA.out.size HB4.out.size) ?_
      intro v5 w5 hown5 hg5 hb5
      have HO5 := Lib.hid hown5
      have HB5 := Lib.hid ((HBA.out.trans (HB4.out.mono HBA.out.size)).trans hb5)
      have HZ5 : Hid (w5.heap[wr.heap.size]? = W1.heap[wr.heap.size]?) := Lib.hid ((hg5.block _ (Nat.lt_of_lt_of_le hze HB4.out.size) (fun e => HNE.out e.symm)).trans (HB4.out.block _ hze))
      clear hown5 hg5 hb5
      refine hK.out _ _ (KS.out _ (HZ5.out)) (fun hHeld2 => ?_)
      clear hK K
      try simp only [Act.put, List.setIfInBounds_toArray, List.set_cons_zero, List.set_cons_succ]
      first
        | (refine take_drop (i := 8) (v := ?_) rfl (by kernel_rfl) (by kernel_rfl) (by kernel_rfl) (fun _ _ _ h => h) (Or.inl ⟨by rfl, ?_⟩) (by assumption) ?_; rotate_left 1; (focus (intro w hSw; (try dsimp only at hSw); go_simp; try with_reducible rfl)); try simp only [Act.put, List.setIfInBounds_toArray, List.set_cons_zero, List.set_cons_succ])
        | (refine take_drop (i := 8) (v := undef) rfl (by kernel_rfl) (by kernel_rfl) (by kernel_rfl) (fun _ _ _ h => h) (Or.inr ⟨by rfl, rfl⟩) (by assumption) ?_; try simp only [Act.put, List.setIfInBounds_toArray, List.set_cons_zero, List.set_cons_succ])
      refine wpAnyH_done (by kernel_rfl) ?_ _
      refine NoPanic.normal ?_
      go_wp2_with fail
      exact ⟨⟨j + 1, v5, by omega, by go_num, rfl, by rw [List.take_succ_eq_append_getElem hlt, List.map_append]; exact HO5.out, HB5.out⟩, by simp [intOf]; omega⟩
    · have hj' : j = l.length := by omega
      subst hj'
      obtain ⟨tx, htx⟩ : ∃ tx : ByteArray, tx = ⟨(Lib.join (l.map Pf.VT.text) [32]).toArray⟩ := ⟨_, rfl⟩
      have htz : tx.size ≤ 500000 := by rw [htx]; exact HLEN.out
      have h := HO0.out
      rw [List.take_length] at h
      have HJ : Hid (Calls Tryz.prog 49 #[vo, .string ⟨#[32]⟩] wr fun e w' => e = .returned (.string tx) ∧ Below wr.heap.size wr w') := Lib.hid (by
        cases l with
        | nil =>
          rcases h.2 with ⟨h1, -⟩ | ⟨g, cap, cur, h1, q2, q3, q4, q5, q6, q7⟩
          · rw [h1, htx]; exact join_none _ _ wr
          · rw [h1, htx]; exact join_none _ _ wr
        | cons t l =>
          rw [htx]
          have e : ((t :: l).map textB).map (·.data.toList) = (t :: l).map Pf.VT.text := by
            rw [List.map_map]; rfl
          have h9 := join_any _ _ _ wr h (by simp) (by rw [List.length_map]; omega) (by rw [e]; have := HLEN.out; omega)
          rw [e] at h9
          exact h9)
      replace htx := Lib.hid htx
      clear h
      go_wp2_with fail
      refine HJ.out.mono ?_
      rintro x w2 ⟨rfl, hb2⟩
      have HB2 := Lib.hid (HB0.out.trans ((HB.out.trans (hb2.mono HB.out.size)).mono HB0.out.size))
      clear hb2
      go_wp2_with fail
      go_ret
      have hfin : ((⟨#[91]⟩ : ByteArray) ++ tx) ++ ⟨#[93]⟩ = ⟨(91 :: (Lib.join (l.map Pf.VT.text) [32] ++ [93])).toArray⟩ := by
        apply Fu.bytes_ext
        rw [htx.out]
        simp
      exact ⟨congrArg (fun b => Ending.returned (Value.string b)) hfin, HB2.out⟩
end Vf
end Go.Proofs.YtpneejlilgepfaaGreatDoor
namespace Go.Proofs.YtpneejlilgepfaaGreatDoor
open Go.RowKit
set_option linter.unusedVariables false
set_option linter.unusedSimpArgs false
namespace Vf
open _root_.Go.Proofs.YtpneejlilgepfaaGreatDoor.Nm (bitsW ret_int ret_bool)
open Bt (BOwn BIn ubytes sb uint_any sel ebytes_walk)
open Pf (zz zz_lt be8 sform sform_split ub_split form_split size_zero)
open Vt (VT Rep BoxAt below_drew KidsAt HeadOk)
open Ev (EV FieldsOk evCells vCells EBox ERep zeroT fieldsOf nameOf of_in evalid_any goodL pickB)
open Cm (evSame)

/-- Which fields an event's kind has. -/
def hasF (e : EV) (j : Nat) : Bool := (fieldsOf e.k.toNat).contains j
/-- The form of a valid event. -/
def eform (e : EV) : List Nat := [1] ++ ubytes 10 e.k.toNat ++ sel [hasF e 0, hasF e 1, hasF e 2, hasF e 3, hasF e 4, hasF e 5] [ubytes 10 e.id, ubytes 10 e.n.toNat, ubytes 10 e.at', sform e.name, sform e.text, Pf.VT.form e.v] 6

/-- What is valid. -/
structure VE (e : EV) : Prop where
  k1 : 1 ≤ e.k
  k2 : e.k ≤ 11
  i0 : hasF e 0 = false → e.id = 0
  i1 : hasF e 0 = true → 0 < e.id
  n0 : hasF e 1 = false → e.n = 0
  n1 : 0 ≤ e.n
  n2 : e.n ≤ 2147483647
  n3 : hasF e 1 = true → 1 ≤ e.n
  a0 : hasF e 2 = false → e.at' = 0
  a1 : e.at' ≤ 9223372036854775807
  s0 : hasF e 3 = false → e.name = ⟨#[]⟩
  s1 : e.name.size ≤ 1000
  s2 : hasF e 3 = true → e.name.toList.isEmpty = false
  t0 : hasF e 4 = false → e.text = ⟨#[]⟩
  t1 : e.text.size ≤ 1000
  v0 : hasF e 5 = false → e.v.same zeroT = true
  v1 : e.v.valid 8 = true

theorem toList_nil {s : ByteArray} (h : s.toList.isEmpty = true) : s = ⟨#[]⟩ := by
  rw [Vt.toList_data] at h
  cases s with | mk d => simp at h; rw [h]
theorem zero_val : zeroT.valid 8 = true := by unfold zeroT; rw [Vt.valid_mk]; simp; decide
theorem ve_of {e : EV} (h : e.valid = true) : VE e := by
  unfold EV.valid goodL at h
  simp only [Bool.and_eq_true, decide_eq_true_iff, List.all_cons, List.all_nil, Bool.and_true] at h
  obtain ⟨⟨k1, k2⟩, h0, h1, h2, h3, h4, h5⟩ := h
  have pick : ∀ {b f z : Bool}, pickB b f z = true → (b = true → f = true) ∧ (b = false → z = true) := fun {b f z} hh => by
    unfold pickB at hh
    cases b with
    | true => rw [if_pos rfl] at hh; exact ⟨fun _ => hh, fun h => Bool.noConfusion h⟩
    | false => rw [if_neg (by simp)] at hh; exact ⟨fun h => Bool.noConfusion h, fun _ => hh⟩
  obtain ⟨p0, q0⟩ := pick h0
  obtain ⟨p1, q1⟩ := pick h1
  obtain ⟨p2, q2⟩ := pick h2
  obtain ⟨p3, q3⟩ := pick h3
  obtain ⟨p4, q4⟩ := pick h4
  obtain ⟨p5, q5⟩ := pick h5
  have e1 : ∀ b : Bool, b = true ∨ b = false := fun b => by cases b <;> simp
  have fn : ∀ h : hasF e 1 = false, e.n = 0 := fun h => by have := q1 h; simpa using this
  have tn : ∀ h : hasF e 1 = true, 1 ≤ e.n ∧ e.n ≤ 2147483647 := fun h => by have := p1 h; simpa using this
  have fs : ∀ h : hasF e 3 = false, e.name = ⟨#[]⟩ := fun h => toList_nil (q3 h)
  have ts : ∀ h : hasF e 3 = true, e.name.toList.isEmpty = false ∧ e.name.size ≤ 1000 := fun h => by
    have := p3 h
    simp only [Bool.and_eq_true, Bool.not_eq_true', decide_eq_true_iff] at this
    exact this
  have ft : ∀ h : hasF e 4 = false, e.text = ⟨#[]⟩ := fun h => toList_nil (q4 h)
  refine ⟨k1, k2, fun h => by have := q0 h; simpa using this, fun h => by have := p0 h; simpa using this, fn, ?_, ?_, fun h => (tn h).1, fun h => by have := q2 h; simpa using this, ?_, fs, ?_, fun h => (ts h).1, ft, ?_, fun h => q5 h, ?_⟩
  · rcases e1 (hasF e 1) with h | h
    · have := tn h; omega
    · rw [fn h]; omega
  · rcases e1 (hasF e 1) with h | h
    · exact (tn h).2
    · rw [fn h]; omega
  · rcases e1 (hasF e 2) with h | h
    · have := p2 h; simpa using this
    · have : e.at' = 0 := by have := q2 h; simpa using this
      omega
  · rcases e1 (hasF e 3) with h | h
    · exact (ts h).2
    · rw [fs h]; decide
  · rcases e1 (hasF e 4) with h | h
    · have := p4 h; simpa using this
    · rw [ft h]; decide
  · rcases e1 (hasF e 5) with h | h
    · exact p5 h
    · rw [Vt.same_valid e.v zeroT 8 (q5 h)]; exact zero_val

theorem ebytes_any (e : EV) (hval : e.valid = true) (hf : FieldsOk e) (hfew : e.v.few = true) (lo hi : Nat) (vk vn : Int) (vf : Nat) (vs : ByteArray) (A : Option Addr) (m c : Nat) (w : World) (hv : Rep w lo hi e.v (vCells vk vn vf vs A m c)) (hz : hi ≤ w.heap.size) :
    Calls Tryz.prog 25 #[.agg (evCells e vk vn vf vs A m c)] w fun r w' => ∃ v, r = .returned (.tuple #[v, .bool true]) ∧ BOwn w' w.heap.size v (eform e) ∧ Below w.heap.size w w' := by
  have V := ve_of hval
  have hev := fun W (hW : Below w.heap.size w W) => evalid_any e W lo hi _ ⟨hf, vk, vn, vf, vs, A, m, c, rfl, hv.later (hW.mono hz)⟩ (Nat.le_trans hz hW.size)
  obtain ⟨kn, hkn⟩ : ∃ kn : Nat, e.k = kn := ⟨e.k.toNat, by have := V.k1; omega⟩
  obtain ⟨nn, hnn⟩ : ∃ nn : Nat, e.n = nn := ⟨e.n.toNat, by have := V.n1; omega⟩
  have k1 := V.k1; have k2 := V.k2; have n2 := V.n2
  have hkt : e.k.toNat = kn := by omega
  have hnt : e.n.toNat = nn := by omega
  unfold eform hasF
  rw [hkt, hnt]
  unfold evCells at hev ⊢
  rw [hkn, hnn] at hev ⊢
  exact ebytes_walk kn e.id nn e.at' e.name e.text (by omega) hf.i1 (by omega) hf.a1 V.s1 V.t1 vk vn vf vs A m c (nameOf kn) ((fieldsOf kn).contains 0) ((fieldsOf kn).contains 1) ((fieldsOf kn).contains 2) ((fieldsOf kn).contains 3) ((fieldsOf kn).contains 4) ((fieldsOf kn).contains 5) (Pf.VT.form e.v) (by have := form_len_few hfew; omega) w
    (fun W hW => (hev W hW).mono fun r w' h => by rw [hval] at h; exact h)
    (fun W => of_in kn (by omega) (by omega) W)
    (fun W hW => vbytes_any e.v hfew lo hi vk vn vf vs A m c W (hv.later (hW.mono hz)) (Nat.le_trans hz hW.size) V.v1)

theorem sel6 (b0 b1 b2 b3 b4 b5 : Bool) (p0 p1 p2 p3 p4 p5 : List Nat) : sel [b0, b1, b2, b3, b4, b5] [p0, p1, p2, p3, p4, p5] 6 = (if b0 then p0 else []) ++ ((if b1 then p1 else []) ++ ((if b2 then p2 else []) ++ ((if b3 then p3 else []) ++ ((if b4 then p4 else []) ++ (if b5 then p5 else []))))) := by simp [sel]
theorem opt_split {α : Type} {b : Bool} {p p' r r' : List α} {X : Prop} (hs : b = true → p ++ r = p' ++ r' → X ∧ r = r') (h : (if b then p else []) ++ r = (if b then p' else []) ++ r') : (b = true → X) ∧ r = r' := by
  cases b with
  | true =>
    simp only [if_true] at h
    obtain ⟨h1, h2⟩ := hs rfl h
    exact ⟨fun _ => h1, h2⟩
  | false => exact ⟨fun h => Bool.noConfusion h, by simpa using h⟩

theorem eform_split {a b : EV} (ha : VE a) (hb : VE b) (fa : FieldsOk a) (fb : FieldsOk b) (ga : Pf.VT.fine a.v) (gb : Pf.VT.fine b.v) {r r' : List Nat} (h : eform a ++ r = eform b ++ r') : evSame a b = true ∧ r = r' := by
  unfold eform at h
  rw [sel6, sel6] at h
  simp only [List.append_assoc, List.cons_append, List.nil_append, List.cons.injEq, true_and] at h
  have ka1 := ha.k1; have ka2 := ha.k2; have kb1 := hb.k1; have kb2 := hb.k2
  obtain ⟨hk, h⟩ := ub_split (by omega) (by omega) h
  have hkk : a.k = b.k := by omega
  have hF : ∀ j, hasF b j = hasF a j := fun j => by unfold hasF; rw [hkk]
  simp only [hF] at h
  have na1 := ha.n1; have na2 := ha.n2; have nb1 := hb.n1; have nb2 := hb.n2
  obtain ⟨e0, h⟩ := opt_split (X := a.id = b.id) (fun _ hh => ub_split fa.i1 fb.i1 hh) h
  obtain ⟨e1, h⟩ := opt_split (X := a.n.toNat = b.n.toNat) (fun _ hh => ub_split (by omega) (by omega) hh) h
  obtain ⟨e2, h⟩ := opt_split (X := a.at' = b.at') (fun _ hh => ub_split fa.a1 fb.a1 hh) h
  have s1 := ha.s1; have s2 := hb.s1; have t1 := ha.t1; have t2 := hb.t1
  obtain ⟨e3, h⟩ := opt_split (X := a.name = b.name) (fun _ hh => sform_split (by omega) (by omega) hh) h
  obtain ⟨e4, h⟩ := opt_split (X := a.text = b.text) (fun _ hh => sform_split (by omega) (by omega) hh) h
  obtain ⟨e5, h⟩ := opt_split (X := a.v.same b.v = true) (fun _ hh => form_split a.v b.v 8 8 r r' ha.v1 hb.v1 ga gb hh) h
  refine ⟨?_, h⟩
  have c : ∀ b : Bool, b = true ∨ b = false := fun b => by cases b <;> simp
  have d0 : a.id = b.id := by
    rcases c (hasF a 0) with q | q
    · exact e0 q
    · rw [ha.i0 q, hb.i0 ((hF 0).trans q)]
  have d1 : a.n = b.n := by
    rcases c (hasF a 1) with q | q
    · have := e1 q; omega
    · rw [ha.n0 q, hb.n0 ((hF 1).trans q)]
  have d2 : a.at' = b.at' := by
    rcases c (hasF a 2) with q | q
    · exact e2 q
    · rw [ha.a0 q, hb.a0 ((hF 2).trans q)]
  have d3 : a.name = b.name := by
    rcases c (hasF a 3) with q | q
    · exact e3 q
    · rw [ha.s0 q, hb.s0 ((hF 3).trans q)]
  have d4 : a.text = b.text := by
    rcases c (hasF a 4) with q | q
    · exact e4 q
    · rw [ha.t0 q, hb.t0 ((hF 4).trans q)]
  have d5 : a.v.same b.v = true := by
    rcases c (hasF a 5) with q | q
    · exact e5 q
    · exact Vt.same_trans _ _ _ (ha.v0 q) (Vt.same_symm _ _ (hb.v0 ((hF 5).trans q)))
  simp [evSame, hkk, d0, d1, d2, d3, d4, d5]

theorem evSame_parts {a b : EV} (h : evSame a b = true) : a.k = b.k ∧ a.id = b.id ∧ a.n = b.n ∧ a.at' = b.at' ∧ a.name = b.name ∧ a.text = b.text ∧ a.v.same b.v = true := by
  simp only [evSame, Bool.and_eq_true, beq_iff_eq, decide_eq_true_iff] at h
  obtain ⟨⟨⟨⟨⟨⟨h1, h2⟩, h3⟩, h4⟩, h5⟩, h6⟩, h7⟩ := h
  exact ⟨h1, h2, h3, h4, h5, h6, h7⟩
theorem eform_same {a b : EV} (h : evSame a b = true) : eform a = eform b := by
  obtain ⟨h1, h2, h3, h4, h5, h6, h7⟩ := evSame_parts h
  unfold eform hasF
  rw [h1, h2, h3, h4, h5, h6, Pf.form_same _ _ h7]
theorem eform_iff {a b : EV} (ha : VE a) (hb : VE b) (fa : FieldsOk a) (fb : FieldsOk b) (ga : Pf.VT.fine a.v) (gb : Pf.VT.fine b.v) : decide (eform a = eform b) = evSame a b := by
  by_cases h : evSame a b = true
  · rw [h, decide_eq_true (eform_same h)]
  · rw [Bool.eq_false_iff.2 h]
    exact decide_eq_false fun e => h (eform_split ha hb fa fb ga gb (r := []) (r' := []) (by rw [e])).1
end Vf
end Go.Proofs.YtpneejlilgepfaaGreatDoor
