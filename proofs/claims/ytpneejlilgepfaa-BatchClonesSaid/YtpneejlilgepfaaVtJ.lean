/- Contract of slices.Clone of a list of values. -/
import Derived.Test.YtpneejlilgepfaaVtI
import Derived.Laws.OwnMore
namespace Go.Proofs.Ytpneejlilgepfaa
open Go.RowKit
set_option linter.unusedVariables false
namespace Vt
open Nm (bitsW ret_int ret_bool)

theorem Try.infoV : (Try.prog.info? 33).map (fun i => (i.zero, i.size, i.bytes)) = some (some (.agg #[.int .i64 0, .int .i64 0, .float .f64 0, .string ⟨#[]⟩, .slice none 0 0]), 5, 64) := by kernel_rfl

/-- The cells of a row of a memory. -/
def rowCells (w : World) (A : Option Addr) (m : Nat) : List Value :=
  match A with
  | some ⟨b, off, _⟩ => (List.range m).map fun j => (w.cell? ⟨b, off + j, none⟩).getD undef
  | none => []

theorem kid_cell {w : World} {lo hi : Nat} {l : List VT} {b off : Nat} (hk : KidsAt w lo hi l (some ⟨b, off, none⟩)) (j : Nat) (hj : j < l.length * 5) :
    ∃ u, w.cell? ⟨b, off + j, none⟩ = some u ∧ u.oneCell' = true := by
  obtain ⟨b', off', hA, -, -, h3⟩ := hk.at_ (by omega)
  injection hA with hA
  injection hA with hb ho _
  subst hb; subst ho
  obtain ⟨k, n, f, s, L, A', cap, e, c0, c1, c2, c3, c4, -⟩ := h3 (j / 5) (by omega)
  rcases (by omega : j = j / 5 * 5 ∨ j = j / 5 * 5 + 1 ∨ j = j / 5 * 5 + 2 ∨ j = j / 5 * 5 + 3 ∨ j = j / 5 * 5 + 4) with q | q | q | q | q
  · exact ⟨_, by rw [q]; exact c0, rfl⟩
  · exact ⟨_, by rw [q, ← Nat.add_assoc]; exact c1, rfl⟩
  · exact ⟨_, by rw [q, ← Nat.add_assoc]; exact c2, rfl⟩
  · exact ⟨_, by rw [q, ← Nat.add_assoc]; exact c3, rfl⟩
  · exact ⟨_, by rw [q, ← Nat.add_assoc]; exact c4, rfl⟩

theorem row_one {w : World} {lo hi : Nat} {l : List VT} {b off : Nat} (hk : KidsAt w lo hi l (some ⟨b, off, none⟩)) :
    ∀ u ∈ rowCells w (some ⟨b, off, none⟩) (l.length * 5), u.oneCell' = true := by
  intro u hu
  unfold rowCells at hu
  rw [List.mem_map] at hu
  obtain ⟨j, hj, rfl⟩ := hu
  obtain ⟨u, h1, h2⟩ := kid_cell hk j (by simpa using hj)
  rw [h1]; exact h2

theorem row_at {w : World} {lo hi : Nat} {l : List VT} {b off : Nat} (hk : KidsAt w lo hi l (some ⟨b, off, none⟩)) :
    ∀ j u, (rowCells w (some ⟨b, off, none⟩) (l.length * 5))[j]? = some u → w.cell? ⟨b, off + j, none⟩ = some u := by
  intro j u hu
  unfold rowCells at hu
  simp only [List.getElem?_map, Option.map_eq_some_iff] at hu
  obtain ⟨i, hi, rfl⟩ := hu
  rw [List.getElem?_eq_some_iff] at hi
  obtain ⟨h1, h2⟩ := hi
  simp at h1 h2
  subst h2
  obtain ⟨u, h3, -⟩ := kid_cell hk j h1
  rw [h3]; rfl

theorem add_plain' (b off j : Nat) : (⟨b, off, none⟩ : Addr).add j = ⟨b, off + j, none⟩ := Go.WideShapes.add_plain ..

theorem block_of_add' (a : Addr) (n : Nat) : (a.add n).block = a.block := by unfold Addr.add; split <;> rfl

set_option maxRecDepth 100000 in
set_option maxHeartbeats 1000000 in
theorem sclone_any (l : List VT) (A : Option Addr) (cap : Nat) (hl : l.length ≤ 900) (hcap : l.length ≤ cap) (hc : cap ≤ maxLen) (w : World) (lo hi : Nat) (hk : KidsAt w lo hi l A) (hz : hi ≤ w.heap.size) :
    Calls Try.prog 41 #[.slice A l.length cap] w fun e w' =>
      ∃ v', e = .returned v' ∧ w'.ownsRow w.heap.size 33 5 v' l.length (rowCells w A (l.length * 5)) ∧ Below w.heap.size w w' := by
  unfold maxLen at hc
  have HK := Lib.hid hk; clear hk
  cases A with
  | none =>
    have h0 : l.length = 0 := by
      rcases Nat.eq_zero_or_pos l.length with h | h
      · exact h
      · obtain ⟨b, off, h1, -⟩ := HK.out.at_ h
        cases h1
    have HR : Hid (rowCells w none (l.length * 5) = []) := Lib.hid rfl
    rw [HR.out, h0]
    clear h0 HK HR hcap hl
    have hnil := fun w => Lib.run_eql_slice_nil (P := Try.prog) w 31 33 none 0 cap 0 0 Try.underlying31
    go_enter Try.func41, Try.ntmps41
    go_wp2_with fail
    go_ret
    exact ⟨_, rfl, World.ownsRow_nil _ _ _ _, Below.refl _ _⟩
  | some ad =>
    have hone : ∀ u ∈ rowCells w (some ad) (l.length * 5), u.oneCell' = true := by
      rcases Nat.eq_zero_or_pos l.length with h | h
      · rw [h]; obtain ⟨b, off, sp⟩ := ad; intro u hu; simp [rowCells] at hu
      · obtain ⟨b, off, h1, -⟩ := HK.out.at_ h
        injection h1 with h1; subst h1
        exact row_one HK.out
    have hat : ∀ j u, (rowCells w (some ad) (l.length * 5))[j]? = some u → w.cell? (ad.add j) = some u ∧ ad.block < w.heap.size := by
      rcases Nat.eq_zero_or_pos l.length with h | h
      · rw [h]; obtain ⟨b, off, sp⟩ := ad; intro j u hu; simp [rowCells] at hu
      · obtain ⟨b, off, h1, -, h2, -⟩ := HK.out.at_ h
        injection h1 with h1; subst h1
        intro j u hu
        exact ⟨by rw [add_plain']; exact row_at HK.out j u hu, by simp only []; omega⟩
    have hlen : (rowCells w (some ad) (l.length * 5)).length = l.length * 5 := by obtain ⟨b, off, sp⟩ := ad; simp [rowCells]
    generalize rowCells w (some ad) (l.length * 5) = xs at *
    obtain ⟨i0, hi, hz0, hz1, hz2⟩ := info_parts Try.infoV
    have H1 := Lib.hid hone; have H2 := Lib.hid hat; have H3 := Lib.hid hlen
    clear hone hat hlen HK
    have I1 := Lib.hid hi; have I2 := Lib.hid hz0; have I3 := Lib.hid hz1; have I4 := Lib.hid hz2
    clear hi hz0 hz1 hz2
    generalize l.length = m at *
    have HOWN : Hid ((w.alloc (.cells #[] 33)).ownsRow w.heap.size 33 5 (.slice (some ⟨w.heap.size, 0, none⟩) 0 0) 0 []) :=
      Lib.hid ⟨rfl, .inr ⟨w.heap.size, 0, #[], rfl, Nat.le_refl _, heap_alloc_new w _, Nat.le_refl _, by unfold maxLen; omega, rfl, rfl⟩⟩
    have hnil := fun w => Lib.run_eql_slice_nil (P := Try.prog) w 31 33 (some ad) m cap 0 0 Try.underlying31
    go_enter Try.func41, Try.ntmps41
    go_wp2_with (at_builtin; refine wpList_append_own _ rfl _ _ 31 rfl w.heap.size 33 i0 _ 5 64 Try.underlying31 I1.out I2.out I3.out I4.out rfl (by decide) _ 0 [] rfl HOWN.out ad m cap xs rfl H3.out ?c2 H1.out ?c4 ?c5 ?c6 ?_)
    case c2 =>
      intro j u hu
      obtain ⟨h1, h2⟩ := H2.out j u hu
      exact (World.cell?_alloc_lt w _ (ad.add j) (by rw [block_of_add']; exact h2)).trans h1
    case c4 => unfold maxLen; omega
    case c5 => omega
    case c6 => simp
    intro v' w1 hown hgrow _
    have HB : Hid (Below w.heap.size w w1) := Lib.hid (((Below.refl _ _).alloc (Nat.le_refl _) _).grown hgrow (by simp) (fun g hg => by injection hg with hg; rw [← hg]; exact Nat.le_refl _))
    try simp only [Nat.zero_add, List.nil_append] at hown
    have HO := Lib.hid hown
    clear hown hgrow HOWN H1 H2 H3 hnil
    go_wp2_with fail
    go_ret
    exact ⟨_, rfl, HO.out, HB.out⟩
end Vt
end Go.Proofs.Ytpneejlilgepfaa
