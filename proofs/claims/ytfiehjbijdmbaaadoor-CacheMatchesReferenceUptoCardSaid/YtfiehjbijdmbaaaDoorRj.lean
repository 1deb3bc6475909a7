/- A part of the proof: an abstract machine for the walks, and what the walked functions compute. -/
import Derived.Test.YtfiehjbijdmbaaaDoorRh
set_option linter.unusedVariables false
set_option linter.unusedSimpArgs false
set_option linter.unusedSimpArgs false
set_option linter.unusedVariables false
namespace Go.Proofs.YtfiehjbijdmbaaaDoor
open Go.Am Go.Proofs Go.Ca
theorem putR_ok {l : List Fl} {k : Int} {b : List UInt8} (h : ¬ 400 ≤ (others l k).length) : putR l k b = (others l k ++ [fileOf k b], 0) := if_neg h
theorem putR_no {l : List Fl} {k : Int} {b : List UInt8} (h : 400 ≤ (others l k).length) : putR l k b = ([], 19) := if_pos h
theorem get_put {l : List Fl} {k : Int} {b : List UInt8} (hk : I64 k) (hb : b.length ≤ 2 ^ 30) : getR (others l k ++ [fileOf k b]) k = (b, 0) := by
 rw [getR_F, lastF_put, if_pos rfl, getF, open_file b hk hb]
 simp
theorem get_put_other {l : List Fl} {k k' : Int} {b : List UInt8} (h : k' ≠ k) : getR (others l k ++ [fileOf k b]) k' = getR l k' := by
 rw [getR_F, getR_F, lastF_put, if_neg (fun e => h (nm_inj e))]
theorem get_same {a b : List Fl} (h : ∀ s, lastF a s = lastF b s) (k : Int) : getR a k = getR b k := by rw [getR_F, getR_F, h]
theorem trim_len (l : List Fl) (n : Int) : ((trimR l n).length : Int) = max 0 (min n l.length) := by
 rw [trimR, List.length_drop]; omega
theorem trim_eq (l : List Fl) (n : Int) : l.drop (l.length - (trimR l n).length) = trimR l n := by
 rw [trimR, List.length_drop]
 congr 1
 omega
theorem trim_get (l : List Fl) (n k : Int) : (getR (trimR l n) k).2 = 20 ∨ getR l k = getR (trimR l n) k := by
 rw [getR_F, getR_F]
 have h : lastF l (nm k) = (lastF (trimR l n) (nm k)).or (lastF (l.take (l.length - (min (l.length : Int) (max 0 n)).toNat)) (nm k)) := by
  rw [← lastF_app, trimR, List.take_append_drop]
 cases hh : lastF (trimR l n) (nm k) with
 | none => exact .inl rfl
 | some f => right; rw [h, hh]; rfl
theorem soundB_iff {l : List Fl} {i : Nat} {k : Int} : soundB l i = some k ↔ (∃ f, lastN l k l.length = some i ∧ l[i]? = some f ∧ (openR f.bs).1 = k ∧ (openR f.bs).2.2 = 0) ∨ (l[i]? = none ∧ soundB l i = some k) := by
 cases hf : l[i]? with
 | none => simp
 | some f =>
  have hg : l.getD i default = f := by rw [List.getD_eq_getElem?_getD, hf]; rfl
  unfold soundB
  simp only [hg]
  constructor
  ·intro h
   split at h
   ·rename_i hh
    cases h
    exact .inl ⟨f, hh.2.2, rfl, rfl, hh.1⟩
   ·cases h
  ·rintro (⟨g, h1, h2, h3, h4⟩ | ⟨h1, _⟩)
   ·cases h2
    have := (lastN_lt h1).2.2
    rw [hg] at this
    rw [if_pos ⟨h4, by rw [h3]; exact this, by rw [h3]; exact h1⟩, h3]
   ·cases h1
theorem get_ok {l : List Fl} {k : Int} : (getR l k).2 = 0 ↔ ∃ i f, lastN l k l.length = some i ∧ l[i]? = some f ∧ (openR f.bs).1 = k ∧ (openR f.bs).2.2 = 0 := by
 rw [getR_F, lastF_N]
 cases hi : lastN l k l.length with
 | none => simp [getF]
 | some i =>
  obtain ⟨_, hlt, _⟩ := lastN_lt hi
  obtain ⟨f, hf⟩ := get?_of hlt
  simp only [Option.bind_some, hf, getF]
  constructor
  ·intro h
   by_cases h1 : (openR f.bs).1 = k
   ·rw [if_neg (fun e => e h1)] at h
    exact ⟨i, f, rfl, hf, h1, h⟩
   ·rw [if_pos h1] at h
    exact absurd h (by decide)
  ·rintro ⟨j, g, h1, h2, h3, h4⟩
   cases h1
   rw [hf] at h2
   cases h2
   rw [if_neg (fun e => e h3)]
   exact h4
theorem sound_mem {l : List Fl} {k : Int} (h : k ∈ soundR l) : (getR l k).2 = 0 ∧ I64 k := by
 rw [soundR, List.mem_filterMap] at h
 obtain ⟨i, hi, h⟩ := h
 rw [List.mem_range] at hi
 rcases soundB_iff.1 h with ⟨f, h1, h2, h3, h4⟩ | ⟨h1, _⟩
 ·exact ⟨get_ok.2 ⟨i, f, h1, h2, h3, h4⟩, by rw [← h3]; exact open_range _⟩
 ·rw [List.getElem?_eq_none_iff] at h1; omega
theorem sound_at {l : List Fl} {k : Int} {i : Nat} (hi : i < l.length) : (soundB l i = some k) ↔ (getR l k).2 = 0 ∧ lastN l k l.length = some i := by
 constructor
 ·intro h
  rcases soundB_iff.1 h with ⟨f, h1, h2, h3, h4⟩ | ⟨h1, _⟩
  ·exact ⟨get_ok.2 ⟨i, f, h1, h2, h3, h4⟩, h1⟩
  ·rw [List.getElem?_eq_none_iff] at h1; omega
 ·rintro ⟨h, hh⟩
  obtain ⟨j, f, h1, h2, h3, h4⟩ := get_ok.1 h
  rw [hh] at h1
  cases h1
  exact soundB_iff.2 (.inl ⟨f, hh, h2, h3, h4⟩)
theorem count_filterMap {α β : Type} [BEq β] [LawfulBEq β] (f : α → Option β) (k : β) : ∀ l : List α, (l.filterMap f).count k = l.countP fun x => f x == some k
 | [] => rfl
 | x :: l => by
  rw [List.countP_cons, ← count_filterMap f k l]
  cases h : f x with
  | none => rw [List.filterMap_cons_none h]; simp
  | some y =>
   rw [List.filterMap_cons_some h, List.count_cons]
   by_cases hy : y = k <;> simp [hy]
theorem countP_at (n i : Nat) : (List.range n).countP (fun j => decide (j = i)) = if i < n then 1 else 0 := by
 induction n with
 | zero => rfl
 | succ n ih =>
  rw [List.range_succ, List.countP_append, ih]
  by_cases h : n = i
  ·subst h; simp
  ·by_cases h2 : i < n
   ·simp [h, h2, show i < n + 1 by omega]
   ·simp [h, h2, show ¬ i < n + 1 by omega]
theorem sound_count (l : List Fl) (k : Int) : (soundR l).count k = if (getR l k).2 = 0 then 1 else 0 := by
 rw [soundR, count_filterMap]
 by_cases h : (getR l k).2 = 0
 ·rw [if_pos h]
  obtain ⟨i, f, h1, h2, h3, h4⟩ := get_ok.1 h
  have hi : i < l.length := (List.getElem?_eq_some_iff.1 h2).1
  rw [List.countP_congr (q := fun j => decide (j = i)), countP_at, if_pos hi]
  intro j hj
  rw [List.mem_range] at hj
  have := sound_at (k := k) hj
  simp only [beq_iff_eq, this, decide_eq_true_eq, h1, h, true_and, Option.some.injEq]
  exact eq_comm
 ·rw [if_neg h, List.countP_eq_zero]
  intro j hj
  rw [List.mem_range] at hj
  simp [sound_at (k := k) hj, h]
theorem others_others (l : List Fl) (a b : Int) : (others (others l a) b).length ≤ l.length := Nat.le_trans (others_len _ _) (others_len _ _)
theorem others_put {l : List Fl} {a b : Int} {x : List UInt8} : others (others l a ++ [fileOf a x]) b = others (others l a) b ++ if a = b then [] else [fileOf a x] := by
 rw [others, List.filter_append]
 by_cases h : a = b
 ·have : (fileOf a x).nm = nm b := by rw [← h]; rfl
  rw [if_pos h]; simp [this, others]
 ·have : ¬ (fileOf a x).nm = nm b := fun e => h (nm_inj e)
  rw [if_neg h]; simp [this, others]
theorem put_twice (l : List Fl) (a : Int) (x : List UInt8) : others (others l a ++ [fileOf a x]) a = others l a := by
 rw [others_put, if_pos rfl, List.append_nil, others, others, List.filter_filter]
 congr 1
 funext f
 simp
theorem put_order {l : List Fl} {a b : Int} {x y : List UInt8} (h : a ≠ b) (k : Int) :
    getR (others (others l a ++ [fileOf a x]) b ++ [fileOf b y]) k = getR (others (others l b ++ [fileOf b y]) a ++ [fileOf a x]) k := by
  apply get_same
  intro s
  have hn : nm a ≠ nm b := fun e => h (nm_inj e)
  rw [lastF_put, lastF_put, lastF_put, lastF_put]
  by_cases h1 : s = nm b
  · rw [if_pos h1, if_neg (fun e => hn (e.symm.trans h1)), if_pos h1]
  · rw [if_neg h1, if_neg h1]
theorem nm_size {k : Int} (hk : I64 k) : (nm k).size ≤ 2 ^ 30 := by
 have := Lib.itoa_length_le k hk.1 hk.2
 rw [nm, tx_size, nmL, List.length_cons]; omega
theorem fb_put {l : List Fl} {k : Int} {b : List UInt8} (hB : FB l) (hl : l.length ≤ 2 ^ 20) (hk : I64 k) (hb : b.length ≤ 2 ^ 20) : FB (others l k ++ [fileOf k b]) := by
 have hol := others_len l k
 refine ⟨by simp; omega, fun f hf => ?_, fun f hf => ?_⟩
 ·rcases List.mem_append.1 hf with h | h
  ·exact hB.bs f (List.mem_filter.1 h).1
  ·rw [List.mem_singleton.1 h, file_len]; omega
 ·rcases List.mem_append.1 hf with h | h
  ·exact hB.nm f (List.mem_filter.1 h).1
  ·rw [List.mem_singleton.1 h]; exact nm_size hk
end Go.Proofs.YtfiehjbijdmbaaaDoor
