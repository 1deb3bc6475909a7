/- A part of the proof: an abstract machine for the walks, and what the walked functions compute. -/
import Derived.Test.YtdgmjbgjahmoaaaCg
import Derived.Test.YtdgmjbgjahmoaaaHz
set_option linter.unusedVariables false
set_option linter.unusedSimpArgs false
set_option linter.unusedSimpArgs false
set_option linter.unusedVariables false
set_option maxHeartbeats 4000000
set_option maxRecDepth 100000
namespace Go.Proofs.Ytdgmjbgjahmoaaa
open Go.Am Go.Proofs Go.Hv
open Classical
attribute [local irreducible] AW CallP CallB CallY
theorem closed_live {h : Hp} {o : Ow} {j : Nat} {c : Cl} (hj : (closedS h o).cells[j]? = some c) (hl : c.live = true) : h.cells[j]? = some c := by
 simp only [closedS] at hj
 rw [clrC_get] at hj
 split at hj
 ·cases hj; cases hl
 ·exact hj
theorem closed_out {h : Hp} {o : Ow} {j : Nat} (hj : j ∉ o.cs) : (closedS h o).cells[j]? = h.cells[j]? := by
 simp only [closedS]
 rw [clrC_get, if_neg (fun hh => hj hh.1)]
theorem closed_outA {h : Hp} {o : Ow} {j : Nat} (hj : j ∉ o.ags) : (closedS h o).arenas[j]? = h.arenas[j]? := by
 simp only [closedS]
 rw [clrA_get, if_neg (fun hh => hj hh.1)]
theorem agr_closed {h : Hp} {o : Ow} {dl dm : List Nat} {k : Nat} (hk : h.cells.length ≤ k) (h1 : ∀ j, j ∈ dl → j ∉ o.cs) (h2 : ∀ j, j ∈ dm → j ∉ o.ags) : Agr h (closedS h o) Ow.nil k dl dm :=
 ⟨Ow.nil_ok _, by simp only [closedS, clrC_len]; omega, fun j c hj hl _ => closed_live hj hl, fun j hj => ⟨closed_out (h1 j hj), by simp [Ow.nil]⟩, fun j hj => ⟨closed_outA (h2 j hj), by simp [Ow.nil]⟩⟩
theorem agr_self {h : Hp} {dl dm : List Nat} {k : Nat} (hk : h.cells.length ≤ k) : Agr h h Ow.nil k dl dm :=
 ⟨Ow.nil_ok _, by omega, fun j c hj _ _ => hj, fun j hj => ⟨rfl, by simp [Ow.nil]⟩, fun j hj => ⟨rfl, by simp [Ow.nil]⟩⟩
theorem closed_cells (h : Hp) (o : Ow) : (closedS h o).cells.length = h.cells.length := by simp only [closedS, clrC_len]
theorem closed_comm (h : Hp) (a b : Ow) : closedS (closedS h a) b = closedS (closedS h b) a := by
 unfold closedS
 congr 1
 ·apply List.ext_getElem?
  intro j
  simp only [clrC_get, clrC_len]
  by_cases h1 : j ∈ a.cs <;> by_cases h2 : j ∈ b.cs <;> simp [h1, h2]
 ·apply List.ext_getElem?
  intro j
  simp only [clrA_get, clrA_len]
  by_cases h1 : j ∈ a.ags <;> by_cases h2 : j ∈ b.ags <;> simp [h1, h2]
theorem dropS_of {D : List Dt} {h : Hp} {v : Vl} {o : Ow} (ho : walkS h v = some o) (hx : o.ids.any (unkB (dl D)) = false) : dropS D h v = (closedS h o, o.ids.foldl (stepF (drs D)) Fa.nil, 0) := by
 unfold dropS
 rw [ho]
 simp only
 rw [if_neg (by simp [hx]), dropAll_ids ho]
theorem drop_ok {D : List Dt} {h : Hp} {v : Vl} (hd : (dropS D h v).2.2 = 0) : ∃ o, walkS h v = some o ∧ o.ids.any (unkB (dl D)) = false ∧ dropS D h v = (closedS h o, o.ids.foldl (stepF (drs D)) Fa.nil, 0) := by
 unfold dropS at hd
 split at hd
 ·cases hd
 ·rename_i o ho
  split at hd
  ·cases hd
  ·rename_i hx
   have hx : o.ids.any (unkB (dl D)) = false := by simpa using hx
   exact ⟨o, ho, hx, dropS_of ho hx⟩
theorem foldF_cnt (d : List Int) : ∀ (l : List Int) (f : Fa), f.pan = false → ((l.foldl (stepF d) f).pan = false → (l.foldl (stepF d) f).cnt = f.cnt + l.length) ∧ ((l.foldl (stepF d) f).pan = true → f.cnt + 1 ≤ (l.foldl (stepF d) f).cnt ∧ (l.foldl (stepF d) f).cnt ≤ f.cnt + l.length)
 | [], f, h => ⟨fun _ => rfl, fun hp => (by rw [List.foldl_nil, h] at hp; cases hp)⟩
 | x :: l, f, h => by
  rw [List.foldl_cons, show stepF d f x = f.add (d.getD x.toNat 0) from if_neg (by simp [h])]
  have hc : (f.add (d.getD x.toNat 0)).cnt = f.cnt + 1 := rfl
  cases hp : (f.add (d.getD x.toNat 0)).pan
  ·obtain ⟨g1, g2⟩ := foldF_cnt d l _ hp
   rw [List.length_cons]
   exact ⟨fun hh => by rw [g1 hh, hc]; omega, fun hh => by have := g2 hh; omega⟩
  ·rw [foldF_pan _ _ _ hp, List.length_cons]
   exact ⟨fun hh => (by rw [hp] at hh; cases hh), fun _ => by omega⟩
end Go.Proofs.Ytdgmjbgjahmoaaa
