/- A part of the proof: an abstract machine for the walks, and what the walked functions compute. -/
import Derived.Test.YtihfjibkmhclfaaDoorPd
import Derived.Test.YtihfjibkmhclfaaDoorMu
import Derived.Test.YtihfjibkmhclfaaDoorPb
set_option linter.unusedVariables false
set_option linter.unusedSimpArgs false
set_option linter.unusedSimpArgs false
set_option linter.unusedVariables false
set_option maxHeartbeats 4000000
set_option maxRecDepth 100000
namespace Go.Proofs.YtihfjibkmhclfaaDoor
open Nat (reduceAdd reduceMul reduceEqDiff reduceLT reduceLeDiff reduceSub reduceDiv)
open Int (reduceBNe reduceLE reduceEq)
open Go.Am Go.Proofs Go.Lx
open Classical
attribute [local irreducible] AW CallP CallB
def clsA (f : Nat → Int) : List AV := (List.range 256).map fun i => AV.i (f i)
@[go_sem] theorem clsA_len (f : Nat → Int) : (clsA f).length = 256 := by simp [clsA]
theorem clsA_rep : List.replicate 256 (AV.int .i64 0) = clsA fun _ => 0 := by
 rw [clsA, List.map_const', List.length_range]
theorem clsA_get {f : Nat → Int} {i : Nat} (h : i < 256) : (clsA f)[i]? = some (AV.i (f i)) := by simp [clsA, h]
@[go_sem] theorem clsA_take (f : Nat → Int) : (clsA f).take 256 = clsA f := List.take_of_length_le (by rw [clsA_len]; exact Nat.le_refl _)
@[go_sem] theorem clsA_drop (f : Nat → Int) : (clsA f).drop 256 = [] := List.drop_eq_nil_of_le (by rw [clsA_len]; exact Nat.le_refl _)
theorem clsA_ext {f g : Nat → Int} (h : ∀ i, i < 256 → f i = g i) : clsA f = clsA g := by
 unfold clsA
 apply List.map_congr_left
 intro i hi
 rw [List.mem_range] at hi
 rw [h i hi]
theorem clsA_set (f : Nat → Int) (j : Nat) (v : Int) : (clsA f).set j (AV.i v) = clsA fun i => if i = j then v else f i := by
 apply List.ext_getElem?
 intro i
 rw [List.getElem?_set]
 have hl : (clsA f).length = 256 := clsA_len f
 by_cases hi : i < 256
 ·rw [clsA_get hi, clsA_get hi]
  by_cases hij : j = i
  ·subst hij; rw [if_pos rfl, if_pos (by omega), if_pos rfl]
  ·rw [if_neg hij, if_neg (Ne.symm hij)]
 ·have hn : ∀ f, (clsA f)[i]? = none := fun f => List.getElem?_eq_none (by rw [clsA_len]; omega)
  rw [hn, hn]
  by_cases hij : j = i
  ·subst hij; rw [if_pos rfl, if_neg (by omega)]
  ·rw [if_neg hij]
theorem clsA_spl (f : Nat → Int) (a : Nat) (v : Int) (h : a < 256) : (clsA f).take a ++ [AV.int .i64 v] ++ (clsA f).drop (a + 1) = clsA fun i => if i = a then v else f i := by
 rw [← clsA_set, List.set_eq_take_append_cons_drop, if_pos (by rw [clsA_len]; exact h)]
 simp
theorem clsA_0 : il (List.replicate 256 0) = clsA fun _ => 0 := by
 rw [il, List.map_replicate]; exact clsA_rep
theorem clsA_clo (f : Nat → Int) : AV.cloL (clsA f) = true := cloLeq _ fun x hx => by obtain ⟨p, _, rfl⟩ := List.mem_map.1 hx; rfl
@[go_sem] theorem clsA_ren (m : Nat → Nat) (f : Nat → Int) : AV.renL m (clsA f) = clsA f := cloL_renL (clsA_clo f)
@[go_sem] theorem clsA_ids (p : Nat → Prop) (f : Nat → Int) : AV.idsL p (clsA f) = True := eq_true (cloL_idsL (clsA_clo f))
theorem snapL_i (h : Nat → Option AObj) : ∀ l : List Int, AV.snapL h (l.map AV.i) = l.map AV.i
 | [] => by simp [AV.snapL]
 | x :: l => by rw [List.map_cons, AV.snapL, snapL_i h l, AV.i, AV.snap] <;> simp
theorem snapOkL_i (h : Nat → Option AObj) : ∀ l : List Int, AV.snapOkL h (l.map AV.i)
 | [] => by simp [AV.snapOkL]
 | x :: l => by rw [List.map_cons, AV.snapOkL]; exact ⟨by rw [AV.i, AV.snapOk] <;> simp, snapOkL_i h l⟩
theorem clsA_il (f : Nat → Int) : clsA f = ((List.range 256).map f).map AV.i := by rw [List.map_map]; rfl
@[go_sem] theorem clsA_snap (h : Nat → Option AObj) (f : Nat → Int) : AV.snapL h (clsA f) = clsA f := by rw [clsA_il, snapL_i]
@[go_sem] theorem clsA_snapOk (h : Nat → Option AObj) (f : Nat → Int) : AV.snapOkL h (clsA f) = True := eq_true (by rw [clsA_il]; exact snapOkL_i h _)
def fA (c i : Nat) : Int := if (97 ≤ i ∧ i < 97 + c) ∨ (65 ≤ i ∧ i < 65 + c) then 1 else 0
def fB (c i : Nat) : Int := if 48 ≤ i ∧ i < 48 + c then 2 else fA 26 i
def blk : List UInt8 := [32, 9, 13, 10]
def fC (n i : Nat) : Int := if ∃ j, j < n ∧ (blk[j]?.map UInt8.toNat) = some i then 4 else if i = 95 then 3 else fB 10 i
def cls (i : Nat) : Int := fC 4 i
theorem fA_step (c i : Nat) : (if i = 0 + (65 + c) * 1 then 1 else if i = 0 + (97 + c) * 1 then 1 else fA c i) = fA (c + 1) i := by
 unfold fA
 by_cases h1 : i = 65 + c
 ·rw [if_pos (by omega), if_pos (by omega)]
 ·rw [if_neg (by omega)]
  by_cases h2 : i = 97 + c
  ·rw [if_pos (by omega), if_pos (by omega)]
  ·rw [if_neg (by omega)]
   by_cases h3 : (97 ≤ i ∧ i < 97 + c) ∨ (65 ≤ i ∧ i < 65 + c)
   ·rw [if_pos h3, if_pos (by omega)]
   ·rw [if_neg h3, if_neg (by omega)]
theorem fB_step (c i : Nat) : (if i = 0 + (48 + c) * 1 then 2 else fB c i) = fB (c + 1) i := by
 unfold fB
 by_cases h2 : i = 48 + c
 ·rw [if_pos (by omega), if_pos (by omega)]
 ·rw [if_neg (by omega)]
  by_cases h3 : 48 ≤ i ∧ i < 48 + c
  ·rw [if_pos h3, if_pos (by omega)]
  ·rw [if_neg h3, if_neg (by omega)]
theorem classes_call : PCall Tryd.prog 17 [] (.agg (clsA cls)) := by
 refine PCall.intro Tryd.func17 rfl isf17 (by simp [Tryd.f17]) (by simp [AV.cloL, AV.clo]) fun E Q hE hN hQ => K_start ?_
 repeat' (first | apply nx | refine Kq_exit_ne (by decide) ?_ | rw [wrap64 (by omega) (by omega)] | ((first | refine hK _ ?_ | refine hKp _ _ ?_); clear hK hKp K Kp; try clear hanc anc) | ((with_reducible refine And.intro ?_ ?_); (focus (first | trivial | omega | (simp only [Fits]; omega) | assumption | (rw [hanc]; rfl)))) | ((first | refine K_regA hE fun K Kp hK hKp => ?_ | refine K_drwA false mixed hE fun K Kp hK hKp anc hanc => ?_); simp only [go_sem]) | ((first | refine onG_split_t (fun hg => ?_) (fun hg => ?_) | refine onG_split_f (fun hg => ?_) (fun hg => ?_)) <;> simp only [go_sem, hg]) | (refine K_condA (fun hc => ?_) (fun hc => ?_) <;> try (exact absurd hc (by decide))) | (refine K_ret ?_; refine (hQ _ ⟨_, by (try simp only [go_sem, ↓reduceIte, Nat.reduceEqDiff]); rfl, by simp [go_sem], ?_, by first | rfl | assumption⟩).1))
 refine K_loop (X := Nat) (fun c => c ≤ 26) (fun c => mkSt [(0, .ptr 0 0), (5, .i c)] [(0, .cells (clsA (fA c)))] 1) (fun c => 26 - c) 0 (Nat.zero_le _) (fun i => i) ?_ ?_
 ·have e : il (List.replicate 256 0) = clsA (fA 0) := by rw [clsA_0]; exact clsA_ext fun i hi => by unfold fA; rw [if_neg (by omega)]
  rw [e]
  exact ent_mk (by simp [go_sem]) (by simp [go_sem]) (by simp) (by simp [hN])
 intro c hc0
 by_cases hlt : c < 26
 ·have q : decide ((c : Int) < 26) = true := decide_eq_true (by omega)
  have u1 : IntKind.i64.wrap (97 + (c : Int)) = ((97 + c : Nat) : Int) := by rw [wrap64 (by omega) (by omega)]; omega
  have u2 : IntKind.i64.wrap (65 + (c : Int)) = ((65 + c : Nat) : Int) := by rw [wrap64 (by omega) (by omega)]; omega
  have u3 : IntKind.i64.wrap ((c : Int) + 1) = ((c + 1 : Nat) : Int) := by rw [wrap64 (by omega) (by omega)]; omega
  have b1 : 0 + (97 + c) * 1 ≤ 255 := by omega
  have b2 : 0 + (65 + c) * 1 ≤ 255 := by omega
  have s1 := clsA_spl (fA c) (0 + (97 + c) * 1) 1 (by omega)
  have s2 := clsA_spl (fun i => if i = 0 + (97 + c) * 1 then 1 else fA c i) (0 + (65 + c) * 1) 1 (by omega)
  have e : clsA (fun i => if i = 0 + (65 + c) * 1 then 1 else if i = 0 + (97 + c) * 1 then 1 else fA c i) = clsA (fA (c + 1)) := clsA_ext fun i _ => fA_step c i
  rw [e] at s2
  repeat' (first | apply nx | refine Kq_exit_ne (by decide) ?_ | rw [wrap64 (by omega) (by omega)] | ((first | refine hK _ ?_ | refine hKp _ _ ?_); clear hK hKp K Kp; try clear hanc anc) | ((with_reducible refine And.intro ?_ ?_); (focus (first | trivial | omega | (simp only [Fits]; omega) | assumption | (rw [hanc]; rfl)))) | ((first | refine K_regA hE fun K Kp hK hKp => ?_ | refine K_drwA false mixed hE fun K Kp hK hKp anc hanc => ?_); simp only [go_sem, q, u1, u2, u3, b1, b2, s1, s2]) | ((first | refine onG_split_t (fun hg => ?_) (fun hg => ?_) | refine onG_split_f (fun hg => ?_) (fun hg => ?_)) <;> simp only [go_sem, q, u1, u2, u3, b1, b2, s1, s2, hg]) | (refine K_condA (fun hc => ?_) (fun hc => ?_) <;> try (exact absurd hc (by decide))) | (refine K_ret ?_; refine (hQ _ ⟨_, by (try simp only [go_sem, ↓reduceIte, Nat.reduceEqDiff]); rfl, by simp [go_sem], ?_, by first | rfl | assumption⟩).1))
  exact ⟨c + 1, by omega, by omega, fun i => i, by refine ent_mk (by simp [go_sem]) (by simp [go_sem]) (by simp) (by simp [hN])⟩
 obtain rfl : c = 26 := by omega
 have q : decide (((26 : Nat) : Int) < 26) = false := by decide
 repeat' (first | apply nx | refine Kq_exit_ne (by decide) ?_ | rw [wrap64 (by omega) (by omega)] | ((first | refine hK _ ?_ | refine hKp _ _ ?_); clear hK hKp K Kp; try clear hanc anc) | ((with_reducible refine And.intro ?_ ?_); (focus (first | trivial | omega | (simp only [Fits]; omega) | assumption | (rw [hanc]; rfl)))) | ((first | refine K_regA hE fun K Kp hK hKp => ?_ | refine K_drwA false mixed hE fun K Kp hK hKp anc hanc => ?_); simp only [go_sem, q]) | ((first | refine onG_split_t (fun hg => ?_) (fun hg => ?_) | refine onG_split_f (fun hg => ?_) (fun hg => ?_)) <;> simp only [go_sem, q, hg]) | (refine K_condA (fun hc => ?_) (fun hc => ?_) <;> try (exact absurd hc (by decide))) | (refine K_ret ?_; refine (hQ _ ⟨_, by (try simp only [go_sem, ↓reduceIte, Nat.reduceEqDiff]); rfl, by simp [go_sem], ?_, by first | rfl | assumption⟩).1))
 refine K_loop (X := Nat) (fun c => c ≤ 10) (fun c => mkSt [(0, .ptr 0 0), (15, .i c)] [(0, .cells (clsA (fB c)))] 1) (fun c => 10 - c) 0 (Nat.zero_le _) (fun i => i) ?_ ?_
 ·have e : clsA (fA 26) = clsA (fB 0) := clsA_ext fun i hi => by unfold fB; rw [if_neg (by omega)]
  exact ent_mk (by simp [go_sem]) (by simp [go_sem, e]) (by simp) (by simp [hN])
 intro c hc0
 by_cases hlt : c < 10
 ·have q : decide ((c : Int) < 10) = true := decide_eq_true (by omega)
  have u1 : IntKind.i64.wrap (48 + (c : Int)) = ((48 + c : Nat) : Int) := by rw [wrap64 (by omega) (by omega)]; omega
  have u3 : IntKind.i64.wrap ((c : Int) + 1) = ((c + 1 : Nat) : Int) := by rw [wrap64 (by omega) (by omega)]; omega
  have b1 : 0 + (48 + c) * 1 ≤ 255 := by omega
  have s1 := clsA_spl (fB c) (0 + (48 + c) * 1) 2 (by omega)
  have e : clsA (fun i => if i = 0 + (48 + c) * 1 then 2 else fB c i) = clsA (fB (c + 1)) := clsA_ext fun i _ => fB_step c i
  rw [e] at s1
  repeat' (first | apply nx | refine Kq_exit_ne (by decide) ?_ | rw [wrap64 (by omega) (by omega)] | ((first | refine hK _ ?_ | refine hKp _ _ ?_); clear hK hKp K Kp; try clear hanc anc) | ((with_reducible refine And.intro ?_ ?_); (focus (first | trivial | omega | (simp only [Fits]; omega) | assumption | (rw [hanc]; rfl)))) | ((first | refine K_regA hE fun K Kp hK hKp => ?_ | refine K_drwA false mixed hE fun K Kp hK hKp anc hanc => ?_); simp only [go_sem, q, u1, u3, b1, s1]) | ((first | refine onG_split_t (fun hg => ?_) (fun hg => ?_) | refine onG_split_f (fun hg => ?_) (fun hg => ?_)) <;> simp only [go_sem, q, u1, u3, b1, s1, hg]) | (refine K_condA (fun hc => ?_) (fun hc => ?_) <;> try (exact absurd hc (by decide))) | (refine K_ret ?_; refine (hQ _ ⟨_, by (try simp only [go_sem, ↓reduceIte, Nat.reduceEqDiff]); rfl, by simp [go_sem], ?_, by first | rfl | assumption⟩).1))
  exact ⟨c + 1, by omega, by omega, fun i => i, by refine ent_mk (by simp [go_sem]) (by simp [go_sem]) (by simp) (by simp [hN])⟩
 obtain rfl : c = 10 := by omega
 have q : decide (((10 : Nat) : Int) < 10) = false := by decide
 have s1 := clsA_spl (fB 10) 95 3 (by omega)
 have e : clsA (fun i => if i = 95 then 3 else fB 10 i) = clsA (fC 0) := clsA_ext fun i _ => by
  unfold fC
  have : ¬ ∃ j, j < 0 ∧ (blk[j]?.map UInt8.toNat) = some i := fun ⟨j, h, _⟩ => by omega
  rw [if_neg this]
 rw [e] at s1
 repeat' (first | apply nx | refine Kq_exit_ne (by decide) ?_ | rw [wrap64 (by omega) (by omega)] | ((first | refine hK _ ?_ | refine hKp _ _ ?_); clear hK hKp K Kp; try clear hanc anc) | ((with_reducible refine And.intro ?_ ?_); (focus (first | trivial | omega | (simp only [Fits]; omega) | assumption | (rw [hanc]; rfl)))) | ((fail_if_success refine K_stop 11 ?_); (first | refine K_regA hE fun K Kp hK hKp => ?_ | refine K_drwA true mixed hE fun K Kp hK hKp anc hanc => ?_ | refine K_drwA false mixed hE fun K Kp hK hKp anc hanc => ?_); simp only [go_sem, q, s1]) | ((first | refine onG_split_t (fun hg => ?_) (fun hg => ?_) | refine onG_split_f (fun hg => ?_) (fun hg => ?_)) <;> simp only [go_sem, q, s1, hg]) | (refine K_condA (fun hc => ?_) (fun hc => ?_) <;> try (exact absurd hc (by decide))))
 repeat (first | refine K_seq ?_ | refine K_blk ?_ | refine AW_skip ?_ | refine Kq_norm_code ?_ | refine Kq_norm_blk ?_)
 refine K_regA hE fun K Kp hK hKp => ?_
 simp only [go_sem, s1]
 refine ⟨by decide, ?_⟩
 refine hK _ ?_; clear hK hKp K Kp; try clear hanc anc
 repeat (first | refine Kq_norm_code ?_ | refine Kq_norm_blk ?_ | refine Kq_norm_lp ?_)
 refine K_seq ?_
 have hH : ∀ n id o, mkHp [(0, .cells (clsA (fC n)))] id = some o → id < 1 ∧ o.ids (· < 1) := fun n id o h => mkHp_allP (p := fun id o => id < 1 ∧ o.ids (· < 1)) (by simp [AObj.ids, go_sem]) id o h
 refine AW_rangeStr (mkFr [(0, .ptr 0 0)]) (fun n => mkHp [(0, .cells (clsA (fC n)))]) 1 ⟨blk.toArray⟩ Tryd.underlying9 (by rw [hN]; decide) ?_ ?_ hH ?_ (by decide) (by rw [hE]; decide) ?_ ?_ ?_ ?_
 ·intro i h
  have h4 : i < 4 := h
  have hall : ∀ c, c ∈ blk → c.toNat < 128 := by decide
  exact hall (blk[i]'h4) (List.getElem_mem _)
 ·intro t x h
  have := mkFr_mem' h
  simp only [List.mem_cons, List.not_mem_nil, or_false, Prod.mk.injEq] at this
  obtain ⟨_, rfl⟩ := this
  show 0 < 1
  decide
 ·intro id hid
  obtain rfl : id = 0 := by omega
  exact ⟨_, rfl⟩
 ·intro t ht
  simp only [List.mem_cons, List.not_mem_nil, or_false] at ht
  rcases ht with rfl | rfl | rfl | rfl | rfl <;> rfl
 ·refine ⟨fun t x h => ?_, fun id o h => ?_⟩
  ·have := mkFr_mem' h
   simp only [List.mem_cons, List.not_mem_nil, or_false, Prod.mk.injEq] at this
   obtain ⟨rfl, rfl⟩ := this
   simp [upd]
  ·exact mkHp_allP (p := fun id o => updo (updo (mkHp []) 0 (some (AObj.cells (clsA (fB 10))))) 0 (some (AObj.cells (clsA (fC 0)))) id = some o) (by simp [updo]) id o h
 ·intro i h E' hE1 hE2
  have hE0 : E'.nt = Tryd.f17.ntmps := hE1.trans hE
  have h4 : i < 4 := h
  obtain ⟨b, hb⟩ := get?_of (show i < blk.length from h4)
  have hbv : ((⟨blk.toArray⟩ : ByteArray)[i]'h).toNat = b.toNat := by
   have : blk[i] = b := by
    have := List.getElem?_eq_getElem (show i < blk.length from h4)
    rw [hb] at this
    exact (Option.some.inj this).symm
   rw [← this]
   rfl
  rw [hbv]
  have hb9 := b.toNat_lt
  have s1 := clsA_spl (fC i) (0 + b.toNat * 1) 4 (by omega)
  have e : clsA (fun j => if j = 0 + b.toNat * 1 then 4 else fC i j) = clsA (fC (i + 1)) := clsA_ext fun j _ => by
   unfold fC
   by_cases hj : j = b.toNat
   ·rw [if_pos (by omega), if_pos ⟨i, by omega, by rw [hb, hj]; rfl⟩]
   ·rw [if_neg (by omega)]
    have : (∃ k, k < i ∧ (blk[k]?.map UInt8.toNat) = some j) ↔ (∃ k, k < i + 1 ∧ (blk[k]?.map UInt8.toNat) = some j) := by
     constructor
     ·rintro ⟨k, h1, h2⟩; exact ⟨k, by omega, h2⟩
     ·rintro ⟨k, h1, h2⟩
      refine ⟨k, ?_, h2⟩
      rcases Nat.lt_or_ge k i with h | h
      ·exact h
      ·obtain rfl : k = i := by omega
       rw [hb] at h2
       exact absurd (Option.some.inj h2).symm hj
    by_cases hx : ∃ k, k < i ∧ (blk[k]?.map UInt8.toNat) = some j
    ·rw [if_pos hx, if_pos (this.1 hx)]
    ·rw [if_neg hx, if_neg (fun h => hx (this.2 h))]
  rw [e] at s1
  have b1 : 0 + b.toNat * 1 ≤ 255 := by omega
  have hE := hE0
  have hN := hE2
  unfold roundSt
  refine K_start ?_
  repeat' (first | apply nx | refine Kq_exit_ne (by decide) ?_ | rw [wrap64 (by omega) (by omega)] | ((first | refine hK _ ?_ | refine hKp _ _ ?_); clear hK hKp K Kp; try clear hanc anc) | ((with_reducible refine And.intro ?_ ?_); (focus (first | trivial | omega | (simp only [Fits]; omega) | assumption | (rw [hanc]; rfl)))) | ((first | refine K_regA hE fun K Kp hK hKp => ?_ | refine K_drwA true mixed hE fun K Kp hK hKp anc hanc => ?_ | refine K_drwA false mixed hE fun K Kp hK hKp anc hanc => ?_); simp only [go_sem, s1, b1]) | ((first | refine onG_split_t (fun hg => ?_) (fun hg => ?_) | refine onG_split_f (fun hg => ?_) (fun hg => ?_)) <;> simp only [go_sem, s1, b1, hg]) | (refine K_condA (fun hc => ?_) (fun hc => ?_) <;> try (exact absurd hc (by decide))))
  refine Kq_norm_nil ⟨rfl, fun i => i, ?_⟩
  show Ent _ _ _ (mkSt [(23, .ptr 1 0), (0, .ptr 0 0)] [(0, .cells (clsA (fC (i + 1))))] 2)
  exact ent_mk (by simp [go_sem]) (by simp [go_sem]) (by simp) (by simp)
 ·show Kq Tryd.prog E _ Q AEx.norm ⟨_, mkHp [(0, .cells (clsA cls))], 1⟩
  have htk : ∀ f, ((clsA f).drop 0).take 256 = clsA f := fun f => by rw [List.drop_zero, clsA_take]
  repeat' (first | apply nx | refine Kq_exit_ne (by decide) ?_ | rw [wrap64 (by omega) (by omega)] | ((first | refine hK _ ?_ | refine hKp _ _ ?_); clear hK hKp K Kp; try clear hanc anc) | ((with_reducible refine And.intro ?_ ?_); (focus (first | trivial | omega | (simp only [Fits]; omega) | assumption | (rw [hanc]; rfl)))) | ((first | refine K_regA hE fun K Kp hK hKp => ?_ | refine K_drwA true mixed hE fun K Kp hK hKp anc hanc => ?_ | refine K_drwA false mixed hE fun K Kp hK hKp anc hanc => ?_); simp only [go_sem, htk, List.drop_zero, List.take_zero, List.nil_append, List.append_nil]) | ((first | refine onG_split_t (fun hg => ?_) (fun hg => ?_) | refine onG_split_f (fun hg => ?_) (fun hg => ?_)) <;> simp only [go_sem, htk, List.drop_zero, List.take_zero, List.nil_append, List.append_nil, hg]) | (refine K_condA (fun hc => ?_) (fun hc => ?_) <;> try (exact absurd hc (by decide))))
  refine K_ret (hQ _ ⟨.agg (clsA cls), (by simp [resA, rvA, Tryd.f17, go_sem, updo, htk]; rfl), (by simp [AV.snapOk, AV.snapOkL, go_sem, updo, htk]), (by simp [AV.snap, AV.snapL, go_sem, updo, htk]), (by first | rfl | simp [AV.clo, AV.cloL, go_sem, updo, htk])⟩).1
def symF (s : ByteArray) : Option AV := if ∃ y, y ∈ syms ∧ s = tx y then some (.bool true) else none
def symN (n : Nat) (s : ByteArray) : Option AV := if ∃ y, y ∈ fldL.take n ∧ s = tx y then some (.bool true) else none
theorem symN_all : symN 21 = symF := by
 funext s
 unfold symN symF
 have h1 : ∀ y, y ∈ fldL.take 21 → y ∈ syms := by decide
 have h2 : ∀ y, y ∈ syms → y ∈ fldL.take 21 := by decide
 by_cases h : ∃ y, y ∈ syms ∧ s = tx y
 ·obtain ⟨y, hy, e⟩ := h
  rw [if_pos ⟨y, h2 y hy, e⟩, if_pos ⟨y, hy, e⟩]
 ·rw [if_neg h, if_neg (fun ⟨y, hy, e⟩ => h ⟨y, h1 y hy, e⟩)]
end Go.Proofs.YtihfjibkmhclfaaDoor

set_option linter.unusedSimpArgs false
set_option linter.unusedVariables false
set_option maxHeartbeats 4000000
set_option maxRecDepth 100000
namespace Go.Proofs.YtihfjibkmhclfaaDoor
open Nat (reduceAdd reduceMul reduceEqDiff reduceLT reduceLeDiff reduceSub reduceDiv)
open Int (reduceBNe reduceLE reduceEq)
open Go.Am Go.Proofs Go.Lx
open Classical
attribute [local irreducible] AW CallP CallB
theorem index_call (s : ByteArray) (c : UInt8) : PCall Tryd.prog 30 [.str s, .int .u8 (c.toNat : Int)] (.i (Lib.indexByte s.data.toList c)) := by
 have hc0 := index0_call s c
 refine PCall.intro Tryd.func30 rfl isf30 (by simp [Tryd.f30]) (by simp [AV.cloL, AV.clo]) fun E Q hE hN hQ => K_start ?_
 repeat' (first | apply nx | refine Kq_exit_ne (by decide) ?_ | rw [wrap64 (by omega) (by omega)] | ((first | refine hK _ ?_ | refine hKp _ _ ?_); clear hK hKp K Kp; try clear hanc anc) | ((with_reducible refine And.intro ?_ ?_); (focus (first | trivial | omega | (simp only [Fits]; omega) | assumption | (rw [hanc]; rfl)))) | ((first | refine K_regA hE fun K Kp hK hKp => ?_ | refine K_drwA false mixed hE fun K Kp hK hKp anc hanc => ?_ | ((first | apply CallP_mk | apply CallB_mk); (focus (simp only [go_sem] <;> rfl)); (focus (exact hc0)); (focus (first | (simp [go_sem]; done) | (simp [go_sem, CloRow, AV.cells, AV.clo]; done))); (focus (first | exact .inl rfl | (right; simp [go_sem]))))); simp only [go_sem]) | ((first | refine onG_split_t (fun hg => ?_) (fun hg => ?_) | refine onG_split_f (fun hg => ?_) (fun hg => ?_)) <;> simp only [go_sem, hg]) | (refine K_condA (fun hc => ?_) (fun hc => ?_) <;> try (exact absurd hc (by decide))) | (refine K_ret ?_; refine (hQ _ ⟨_, by (try simp only [go_sem, ↓reduceIte, Nat.reduceEqDiff]); rfl, by simp [go_sem], ?_, by first | rfl | assumption⟩).1))
 simp [AV.snap]
theorem symN_succ {n : Nat} {y : List UInt8} (h : fldL[n]? = some y) : (fun s => if s = tx y then some (.bool true) else symN n s) = symN (n + 1) := by
 funext s
 unfold symN
 have e : fldL.take (n + 1) = fldL.take n ++ [y] := by rw [List.take_add_one, h]; rfl
 rw [e]
 by_cases hs : s = tx y
 ·rw [if_pos hs, if_pos ⟨y, by simp, hs⟩]
 ·rw [if_neg hs]
  by_cases hx : ∃ z, z ∈ fldL.take n ∧ s = tx z
  ·obtain ⟨z, hz, e⟩ := hx
   rw [if_pos ⟨z, hz, e⟩, if_pos ⟨z, by simp [hz], e⟩]
  ·rw [if_neg hx, if_neg]
   rintro ⟨z, hz, e⟩
   rcases List.mem_append.1 hz with hz | hz
   ·exact hx ⟨z, hz, e⟩
   ·rw [List.mem_singleton.1 hz] at e; exact hs e
theorem symN_0 : symN 0 = fun _ => none := by
 funext s
 unfold symN
 rw [if_neg]
 rintro ⟨z, hz, _⟩
 cases hz
theorem fldL_len : fldL.length = 21 := rfl
theorem symbols_call : ACall Tryd.prog 18 [] (fun _ => none) 0 0 (fun r hp' => r = .mp 0 ∧ ∃ es, hp' = mkHp [(0, .map es)] ∧ MapS es symF ∧ EsClo es ∧ EsZ es) (fun _ _ => False) := by
 have hc0 := fields_call
 refine ACall.of_bodyR Tryd.func18 isf18 rfl (by simp [Tryd.f18]) fun E Q hE hN hQ hQp => K_start ?_
 repeat' (first | apply nx | refine Kq_exit_ne (by decide) ?_ | rw [wrap64 (by omega) (by omega)] | ((first | refine hK _ ?_ | refine hKp _ _ ?_); clear hK hKp K Kp; try clear hanc anc) | ((with_reducible refine And.intro ?_ ?_); (focus (first | trivial | omega | (simp only [Fits]; omega) | assumption | (rw [hanc]; rfl)))) | ((first | refine K_regA hE fun K Kp hK hKp => ?_ | refine K_drwA true mixed hE fun K Kp hK hKp anc hanc => ?_ | refine K_drwA false mixed hE fun K Kp hK hKp anc hanc => ?_ | ((first | apply CallP_mk | apply CallB_mk); (focus (simp only [go_sem] <;> rfl)); (focus (exact hc0)); (focus (first | (simp [go_sem]; done) | (simp [go_sem, CloRow, AV.cells, AV.clo]; done))); (focus (first | exact .inl rfl | (right; simp [go_sem]))))); simp only [go_sem]) | ((first | refine onG_split_t (fun hg => ?_) (fun hg => ?_) | refine onG_split_f (fun hg => ?_) (fun hg => ?_)) <;> simp only [go_sem, hg]) | (refine K_condA (fun hc => ?_) (fun hc => ?_) <;> try (exact absurd hc (by decide))))
 refine K_loop (X := Nat × List (AV × AV)) (fun z => z.1 ≤ 21 ∧ MapS z.2 (symN z.1) ∧ EsClo z.2 ∧ EsZ z.2) (fun z => mkSt [(1, .mp 0), (5, .sl (sl fldL)), (6, .i 21), (7, .i z.1)] [(0, .map z.2)] 1) (fun z => 21 - z.1) (0, []) ⟨Nat.zero_le _, by rw [symN_0]; exact MapS.nil, EsClo.nil, EsZ.nil⟩ (fun i => 1048576) (by refine ent_mk (by simp [go_sem, fldL_len]) (by simp [go_sem, fldL_len]) (by simp) (by simp [hN])) ?_
 rintro ⟨i, es⟩ ⟨hi, hm, hes, hez⟩
 simp only at hi hm hes hez
 by_cases hlt : i < 21
 ·obtain ⟨y, hy⟩ := get?_of (show i < fldL.length from hlt)
  have hmf := hm (tx y)
  have hes' := EsClo.putT hes (tx y) (x := .bool true) rfl (symN i (tx y))
  have hez' := EsZ.putT hez (tx y) (x := .bool true) rfl (symN i (tx y))
  have hm' := MapS.put hm (tx y) (.bool true)
  rw [symN_succ hy] at hm'
  generalize symN i (tx y) = r at hmf hes' hez' hm'
  have q : decide ((i : Int) < 21) = true := decide_eq_true (by omega)
  have v1 : IntKind.i64.wrap ((i : Int) + 1) = ((i + 1 : Nat) : Int) := by rw [wrap64 (by omega) (by omega)]; omega
  repeat' (first | apply nx | refine Kq_exit_ne (by decide) ?_ | rw [wrap64 (by omega) (by omega)] | ((first | refine hK _ ?_ | refine hKp _ _ ?_); clear hK hKp K Kp; try clear hanc anc) | ((with_reducible refine And.intro ?_ ?_); (focus (first | trivial | omega | (simp only [Fits]; omega) | assumption | (rw [hanc]; rfl)))) | ((first | refine K_regA hE fun K Kp hK hKp => ?_ | refine K_drwA true mixed hE fun K Kp hK hKp anc hanc => ?_ | refine K_drwA false mixed hE fun K Kp hK hKp anc hanc => ?_); simp only [go_sem, q, hy, hmf, v1]) | ((first | refine onG_split_t (fun hg => ?_) (fun hg => ?_) | refine onG_split_f (fun hg => ?_) (fun hg => ?_)) <;> simp only [go_sem, q, hy, hmf, v1, hg]) | (refine K_condA (fun hc => ?_) (fun hc => ?_) <;> try (exact absurd hc (by decide))))
  generalize putT (tx y) (.bool true) es r = es' at *
  exact ⟨(i + 1, es'), ⟨by simp only; omega, hm', hes', hez'⟩, by simp only; omega, fun i => i, ent_mk (by simp [go_sem]) (by simp [go_sem, hes'.ren]; exact hes'.ids2 _) (by simp) (by simp [hN])⟩
 ·obtain rfl : i = 21 := by omega
  have q : decide (((21 : Nat) : Int) < 21) = false := by decide
  rw [symN_all] at hm
  repeat' (first | apply nx | refine Kq_exit_ne (by decide) ?_ | rw [wrap64 (by omega) (by omega)] | ((first | refine hK _ ?_ | refine hKp _ _ ?_); clear hK hKp K Kp; try clear hanc anc) | ((with_reducible refine And.intro ?_ ?_); (focus (first | trivial | omega | (simp only [Fits]; omega) | assumption | (rw [hanc]; rfl)))) | ((first | refine K_regA hE fun K Kp hK hKp => ?_ | refine K_drwA true mixed hE fun K Kp hK hKp anc hanc => ?_ | refine K_drwA false mixed hE fun K Kp hK hKp anc hanc => ?_); simp only [go_sem, q]) | ((first | refine onG_split_t (fun hg => ?_) (fun hg => ?_) | refine onG_split_f (fun hg => ?_) (fun hg => ?_)) <;> simp only [go_sem, q, hg]) | (refine K_condA (fun hc => ?_) (fun hc => ?_) <;> try (exact absurd hc (by decide))))
  refine K_ret (hQ _ ⟨.mp 0, fun i => i, _, 1, resA_tmp (by simp only [go_sem]), (by simp [AV.ids, AV.idsL]), ?_, rfl, es, rfl, hm, hes, hez⟩).1
  show Ent _ _ _ (mkSt [] [(0, .map es)] 1)
  refine ent_mk (by simp [go_sem]) (by simp [go_sem, hes.ren]; exact hes.ids2 _) (by simp) (by simp [hN])
end Go.Proofs.YtihfjibkmhclfaaDoor

set_option linter.unusedSimpArgs false
set_option linter.unusedVariables false
set_option maxHeartbeats 4000000
set_option maxRecDepth 100000
namespace Go.Proofs.YtihfjibkmhclfaaDoor
open Go.Am Go.Proofs Go.Lx
open Classical
attribute [local irreducible] AW CallP CallB
theorem cls_eq (c : UInt8) : cls c.toNat = if isLet c then 1 else if isDig c then 2 else if c = 95 then 3 else if isBlank c then 4 else 0 := by
 have hb : (∃ j, j < 4 ∧ (blk[j]?.map UInt8.toNat) = some c.toNat) ↔ isBlank c = true := by
  have e : ∀ d : UInt8, (d.toNat = c.toNat) ↔ c = d := fun d => ⟨fun h => (UInt8.toNat_inj.1 h).symm, fun h => by rw [h]⟩
  constructor
  ·rintro ⟨j, hj, h⟩
   match j, hj, h with
   | 0, _, h => have := (e 32).1 (Option.some.inj h); subst this; rfl
   | 1, _, h => have := (e 9).1 (Option.some.inj h); subst this; rfl
   | 2, _, h => have := (e 13).1 (Option.some.inj h); subst this; rfl
   | 3, _, h => have := (e 10).1 (Option.some.inj h); subst this; rfl
  ·intro h
   simp only [isBlank, Bool.or_eq_true, beq_iff_eq] at h
   rcases h with ((h | h) | h) | h
   ·exact ⟨0, by decide, by rw [h]; rfl⟩
   ·exact ⟨1, by decide, by rw [h]; rfl⟩
   ·exact ⟨2, by decide, by rw [h]; rfl⟩
   ·exact ⟨3, by decide, by rw [h]; rfl⟩
 have h95 : c.toNat = 95 ↔ c = 95 := ⟨fun h => UInt8.toNat_inj.1 h, fun h => by rw [h]; rfl⟩
 unfold cls fC
 simp only [hb, h95]
 by_cases b : isBlank c = true
 ·rw [if_pos b]
  simp only [isBlank, Bool.or_eq_true, beq_iff_eq] at b
  rcases b with ((h | h) | h) | h <;> subst h <;> rfl
 ·rw [if_neg b, if_neg b]
  by_cases u : c = 95
  ·subst u; rfl
  ·rw [if_neg u, if_neg u]
   unfold fB fA isLet isDig
   simp only [Bool.or_eq_true, Bool.and_eq_true, decide_eq_true_eq]
   by_cases d : 48 ≤ c.toNat ∧ c.toNat < 48 + 10
   ·rw [if_pos d, if_neg (by omega), if_pos (by omega)]
   ·rw [if_neg d]
    by_cases x : (97 ≤ c.toNat ∧ c.toNat < 97 + 26) ∨ (65 ≤ c.toNat ∧ c.toNat < 65 + 26)
    ·rw [if_pos x, if_pos (by omega)]
    ·rw [if_neg x, if_neg (by omega), if_neg (by omega)]
def inC (cs : List Int) (c : UInt8) : Bool := cs.any fun k => cls c.toNat == k
theorem inC_blank : inC [4] = isBlank := by
 funext c
 unfold inC
 rw [cls_eq]
 simp only [List.any_cons, List.any_nil, Bool.or_false]
 by_cases h : isBlank c = true
 ·have : isLet c = false ∧ isDig c = false ∧ c ≠ 95 := by
   simp only [isBlank, Bool.or_eq_true, beq_iff_eq] at h
   rcases h with ((h | h) | h) | h <;> subst h <;> decide
  simp [h, this]
 ·simp only [h]
  repeat' split
  all_goals simp_all
theorem inC_name : inC [1, 2, 3] = isName := by
 funext c
 unfold inC isName
 rw [cls_eq]
 simp only [List.any_cons, List.any_nil, Bool.or_false]
 by_cases h1 : isLet c = true
 ·simp [h1]
 ·by_cases h2 : isDig c = true
  ·simp [h1, h2]
  ·by_cases h3 : c = 95
   ·subst h3; decide
   ·by_cases h4 : isBlank c = true
    ·simp [h1, h2, h3, h4]
    ·simp [h1, h2, h3, h4]
theorem inC_dig : inC [2] = isDig := by
 funext c
 unfold inC
 rw [cls_eq]
 simp only [List.any_cons, List.any_nil, Bool.or_false]
 by_cases h1 : isLet c = true
 ·have : isDig c = false := by
   simp only [isLet, Bool.or_eq_true, Bool.and_eq_true, decide_eq_true_eq] at h1
   simp only [isDig, Bool.and_eq_false_iff, decide_eq_false_iff_not]
   omega
  simp [h1, this]
 ·by_cases h2 : isDig c = true
  ·simp [h1, h2]
  ·by_cases h3 : c = 95
   ·subst h3; decide
   ·by_cases h4 : isBlank c = true
    ·simp [h1, h2, h3, h4]
    ·simp [h1, h2, h3, h4]
def lxc (l : List UInt8) (m : Nat) : List AV := .str (tx l) :: (clsA cls ++ [.mp m])
@[go_sem] theorem lxc_len (l : List UInt8) (m : Nat) : (lxc l m).length = 258 := by simp [lxc, clsA_len]
@[go_sem] theorem lxc_0 (l : List UInt8) (m : Nat) : (lxc l m)[0]? = some (.str (tx l)) := rfl
theorem lxc_1 (l : List UInt8) (m : Nat) {i : Nat} (h : i < 256) : (lxc l m)[1 + i * 1]? = some (.i (cls i)) := by
 rw [lxc, Nat.mul_one, Nat.add_comm, List.getElem?_cons_succ, List.getElem?_append_left (by rw [clsA_len]; exact h), clsA_get h]
@[go_sem] theorem lxc_257 (l : List UInt8) (m : Nat) : (lxc l m)[257]? = some (.mp m) := by
 rw [lxc, List.getElem?_cons_succ, List.getElem?_append_right (by rw [clsA_len]; decide), clsA_len]; rfl
theorem idsL_app (p : Nat → Prop) (b : List AV) : ∀ a, AV.idsL p (a ++ b) = (AV.idsL p a ∧ AV.idsL p b)
 | [] => by simp [AV.idsL]
 | x :: a => by rw [List.cons_append, AV.idsL, AV.idsL, idsL_app p b a, and_assoc]
theorem renL_app (q : Nat → Nat) (b : List AV) : ∀ a, AV.renL q (a ++ b) = AV.renL q a ++ AV.renL q b
 | [] => by simp [AV.renL]
 | x :: a => by rw [List.cons_append, AV.renL, AV.renL, renL_app q b a, List.cons_append]
theorem lxc_ids (p : Nat → Prop) (l : List UInt8) (m : Nat) : AV.idsL p (lxc l m) = p m := by
 rw [lxc]
 simp [AV.idsL, AV.ids, idsL_app, clsA_ids]
theorem lxc_ren (q : Nat → Nat) (l : List UInt8) (m : Nat) : AV.renL q (lxc l m) = lxc l (q m) := by
 rw [lxc, lxc]
 simp [AV.renL, AV.ren, renL_app, clsA_ren]
def lxHp (l : List UInt8) (es : List (AV × AV)) : Nat → Option AObj := mkHp [(0, .cells (lxc l 1)), (1, .map es)]
theorem lxHp_wf {es : List (AV × AV)} (h : EsClo es) (l : List UInt8) : WF (lxHp l es) 2 := by
 refine WF.of_list (by decide) ?_ ?_
 ·intro p hp
  simp only [List.mem_cons, List.not_mem_nil, or_false] at hp
  rcases hp with rfl | rfl
  ·exact ⟨Nat.zero_lt_two, by rw [AObj.ids, lxc_ids]; decide⟩
  ·exact ⟨Nat.one_lt_two, by rw [AObj.ids]; exact h.ids _⟩
 ·intro id hid
  rcases (by omega : id = 0 ∨ id = 1) with rfl | rfl <;> simp [mkHp, updo]
theorem ent_lx {l : List UInt8} {es : List (AV × AV)} (hes : EsClo es) {fr0 : Nat → Option AV} {nx0 np : Nat} {fr : List (Nat × AV)} (h : ∀ p, p ∈ fr → fr0 p.1 = some p.2 ∧ p.2.ids (· < 1000000)) (hn : np ≤ 1000000) :
    Ent np (fun i => i) ⟨fr0, lxHp l es, nx0⟩ ⟨mkFr fr, lxHp l es, 1000000⟩ := by
  have hw := lxHp_wf hes l
  exact ent_idG h (fun id o ho => ⟨ho, by have := (hw.1 id o ho).1; show id < 1000000; omega, objids_mono _ (fun i hi => by omega) (hw.1 id o ho).2⟩) hn
theorem run_hc (l : List UInt8) (es : List (AV × AV)) (hes : EsClo es) (a : Nat) (cs : List Int) (ha : a ≤ l.length) (hl : l.length ≤ 2 ^ 40) (hcs : cs.length ≤ 10) (hcr : ∀ k, k ∈ cs → 0 ≤ k ∧ k < 10) :
    HC Tryd.prog 29 [.ptr 0 0, .i a, .sl (il cs)] (lxHp l es) 2 (.i (a + run (inC cs) (l.drop a) : Nat)) := by
  have hw := lxHp_wf hes l
  have e0 : lxHp l es 0 = some (.cells (lxc l 1)) := rfl
  have hrl := run_le (inC cs) (l.drop a)
  rw [List.length_drop] at hrl
  generalize hn : run (inC cs) (l.drop a) = n at *
  refine HC.intro hw rfl Tryd.func29 rfl isf29 (by simp [Tryd.f29]) fun E Q hE hN hQ => K_start ?_
  repeat' (first | apply nx | refine Kq_exit_ne (by decide) ?_ | rw [wrap64 (by omega) (by omega)] | ((first | refine hK _ ?_ | refine hKp _ _ ?_); clear hK hKp K Kp; try clear hanc anc) | ((with_reducible refine And.intro ?_ ?_); (focus (first | trivial | omega | (simp only [Fits]; omega) | assumption | (rw [hanc]; rfl)))) | ((first | refine K_regA hE fun K Kp hK hKp => ?_ | refine K_drwA true mixed hE fun K Kp hK hKp anc hanc => ?_ | refine K_drwA false mixed hE fun K Kp hK hKp anc hanc => ?_); simp only [go_sem]) | ((first | refine onG_split_t (fun hg => ?_) (fun hg => ?_) | refine onG_split_f (fun hg => ?_) (fun hg => ?_)) <;> simp only [go_sem, hg]) | (refine K_condA (fun hc => ?_) (fun hc => ?_) <;> try (exact absurd hc (by decide))))
  refine K_loop (X := Nat) (fun i => a ≤ i ∧ i ≤ l.length ∧ a + n = i + run (inC cs) (l.drop i)) (fun i => ⟨mkFr [(0, .ptr 0 0), (1, .i i), (2, .sl (il cs))], lxHp l es, 1000000⟩) (fun i => l.length - i) a ⟨Nat.le_refl _, by omega, by rw [hn]⟩ (fun i => i) ?_ ?_
  · exact ent_lx hes (by simp [go_sem, AV.ids]) (by rw [hN]; decide)
  rintro i ⟨hai, hi, ht⟩
  have fin : run (inC cs) (l.drop i) = 0 → a + n = i := fun h => by rw [h] at ht; omega
  by_cases hlt : i < l.length
  · obtain ⟨d, hd0⟩ := get?_of hlt
    have hra := run_at (p := inC cs) hd0
    repeat' (first | apply nx | refine Kq_exit_ne (by decide) ?_ | rw [wrap64 (by omega) (by omega)] | ((first | refine hK _ ?_ | refine hKp _ _ ?_); clear hK hKp K Kp; try clear hanc anc) | ((with_reducible refine And.intro ?_ ?_); (focus (first | trivial | omega | (simp only [Fits]; omega) | assumption | (rw [hanc]; rfl)))) | ((fail_if_success refine K_stop 5 ?_); (first | refine K_regA hE fun K Kp hK hKp => ?_ | refine K_drwA true mixed hE fun K Kp hK hKp anc hanc => ?_ | refine K_drwA false mixed hE fun K Kp hK hKp anc hanc => ?_); simp only [go_sem, e0, lt_dec hlt]) | ((first | refine onG_split_t (fun hg => ?_) (fun hg => ?_) | refine onG_split_f (fun hg => ?_) (fun hg => ?_)) <;> simp only [go_sem, e0, lt_dec hlt, hg]) | (refine K_condA (fun hc => ?_) (fun hc => ?_) <;> try (exact absurd hc (by decide))))
    refine K_loop (X := Nat) (fun j => j ≤ cs.length) (fun j => ⟨mkFr [(0, .ptr 0 0), (1, .i i), (2, .sl (il cs)), (7, .bool (inC (cs.take j) d)), (19, .sl (il cs)), (20, .i cs.length), (21, .i j)], lxHp l es, 1000000⟩) (fun j => cs.length - j) 0 (Nat.zero_le _) (fun i => i) ?_ ?_
    · exact ent_lx hes (by simp [go_sem, AV.ids, inC]) (by rw [hN]; decide)
    intro j hj
    by_cases hjl : j < cs.length
    · obtain ⟨k, hk⟩ := get?_of hjl
      have hx : inC (cs.take (j + 1)) d = (inC (cs.take j) d || (cls d.toNat == k)) := by
        unfold inC
        rw [List.take_add_one, hk, List.any_append]
        simp
      have v1 : IntKind.i64.wrap ((j : Int) + 1) = ((j + 1 : Nat) : Int) := by rw [wrap64 (by omega) (by omega)]; omega
      have d1 := lxc_1 l 1 d.toNat_lt
      have b1 : d.toNat ≤ 255 := by have := d.toNat_lt; omega
      generalize inC (cs.take j) d = b at *
      cases b
      · repeat' (first | apply nx | refine Kq_exit_ne (by decide) ?_ | rw [wrap64 (by omega) (by omega)] | ((first | refine hK _ ?_ | refine hKp _ _ ?_); clear hK hKp K Kp; try clear hanc anc) | ((with_reducible refine And.intro ?_ ?_); (focus (first | trivial | omega | (simp only [Fits]; omega) | assumption | (rw [hanc]; rfl)))) | ((first | refine K_regA hE fun K Kp hK hKp => ?_ | refine K_drwA true mixed hE fun K Kp hK hKp anc hanc => ?_ | refine K_drwA false mixed hE fun K Kp hK hKp anc hanc => ?_); simp only [go_sem, e0, lt_dec hjl, hk, hd0, v1, d1, b1]) | ((first | refine onG_split_t (fun hg => ?_) (fun hg => ?_) | refine onG_split_f (fun hg => ?_) (fun hg => ?_)) <;> simp only [go_sem, e0, lt_dec hjl, hk, hd0, v1, d1, b1, hg]) | (refine K_condA (fun hc => ?_) (fun hc => ?_) <;> try (exact absurd hc (by decide))))
        rw [Bool.false_or] at hx
        exact ⟨j + 1, by omega, by omega, fun i => i, ent_lx hes (by simp [go_sem, AV.ids, hx]) (by rw [hN]; decide)⟩
      · repeat' (first | apply nx | refine Kq_exit_ne (by decide) ?_ | rw [wrap64 (by omega) (by omega)] | ((first | refine hK _ ?_ | refine hKp _ _ ?_); clear hK hKp K Kp; try clear hanc anc) | ((with_reducible refine And.intro ?_ ?_); (focus (first | trivial | omega | (simp only [Fits]; omega) | assumption | (rw [hanc]; rfl)))) | ((first | refine K_regA hE fun K Kp hK hKp => ?_ | refine K_drwA true mixed hE fun K Kp hK hKp anc hanc => ?_ | refine K_drwA false mixed hE fun K Kp hK hKp anc hanc => ?_); simp only [go_sem, e0, lt_dec hjl, hk, hd0, v1, d1, b1]) | ((first | refine onG_split_t (fun hg => ?_) (fun hg => ?_) | refine onG_split_f (fun hg => ?_) (fun hg => ?_)) <;> simp only [go_sem, e0, lt_dec hjl, hk, hd0, v1, d1, b1, hg]) | (refine K_condA (fun hc => ?_) (fun hc => ?_) <;> try (exact absurd hc (by decide))))
        rw [Bool.true_or] at hx
        exact ⟨j + 1, by omega, by omega, fun i => i, ent_lx hes (by simp [go_sem, AV.ids, hx]) (by rw [hN]; decide)⟩
    · obtain rfl : j = cs.length := by omega
      rw [List.take_length]
      have v1 : IntKind.i64.wrap ((i : Int) + 1) = ((i + 1 : Nat) : Int) := by rw [wrap64 (by omega) (by omega)]; omega
      cases hb : inC cs d
      · rw [hb, if_neg (by simp)] at hra
        rw [fin hra] at hQ
        repeat' (first | apply nx | refine Kq_exit_ne (by decide) ?_ | rw [wrap64 (by omega) (by omega)] | ((first | refine hK _ ?_ | refine hKp _ _ ?_); clear hK hKp K Kp; try clear hanc anc) | ((with_reducible refine And.intro ?_ ?_); (focus (first | trivial | omega | (simp only [Fits]; omega) | assumption | (rw [hanc]; rfl)))) | ((first | refine K_regA hE fun K Kp hK hKp => ?_ | refine K_drwA true mixed hE fun K Kp hK hKp anc hanc => ?_ | refine K_drwA false mixed hE fun K Kp hK hKp anc hanc => ?_); simp only [go_sem, e0, ge_dec]) | ((first | refine onG_split_t (fun hg => ?_) (fun hg => ?_) | refine onG_split_f (fun hg => ?_) (fun hg => ?_)) <;> simp only [go_sem, e0, ge_dec, hg]) | (refine K_condA (fun hc => ?_) (fun hc => ?_) <;> try (exact absurd hc (by decide))))
        exact K_ret (hQ _ (by simp only [go_sem]; rfl) (fun id ob h => h)).1
      · rw [hb, if_pos rfl] at hra
        repeat' (first | apply nx | refine Kq_exit_ne (by decide) ?_ | rw [wrap64 (by omega) (by omega)] | ((first | refine hK _ ?_ | refine hKp _ _ ?_); clear hK hKp K Kp; try clear hanc anc) | ((with_reducible refine And.intro ?_ ?_); (focus (first | trivial | omega | (simp only [Fits]; omega) | assumption | (rw [hanc]; rfl)))) | ((first | refine K_regA hE fun K Kp hK hKp => ?_ | refine K_drwA true mixed hE fun K Kp hK hKp anc hanc => ?_ | refine K_drwA false mixed hE fun K Kp hK hKp anc hanc => ?_); simp only [go_sem, e0, ge_dec, v1]) | ((first | refine onG_split_t (fun hg => ?_) (fun hg => ?_) | refine onG_split_f (fun hg => ?_) (fun hg => ?_)) <;> simp only [go_sem, e0, ge_dec, v1, hg]) | (refine K_condA (fun hc => ?_) (fun hc => ?_) <;> try (exact absurd hc (by decide))))
        exact ⟨i + 1, ⟨by omega, by omega, by rw [ht, hra]; omega⟩, by omega, fun i => i, ent_lx hes (by simp [go_sem, AV.ids]) (by rw [hN]; decide)⟩
  · obtain rfl : i = l.length := by omega
    rw [fin (by simp [run])] at hQ
    repeat' (first | apply nx | refine Kq_exit_ne (by decide) ?_ | rw [wrap64 (by omega) (by omega)] | ((first | refine hK _ ?_ | refine hKp _ _ ?_); clear hK hKp K Kp; try clear hanc anc) | ((with_reducible refine And.intro ?_ ?_); (focus (first | trivial | omega | (simp only [Fits]; omega) | assumption | (rw [hanc]; rfl)))) | ((first | refine K_regA hE fun K Kp hK hKp => ?_ | refine K_drwA true mixed hE fun K Kp hK hKp anc hanc => ?_ | refine K_drwA false mixed hE fun K Kp hK hKp anc hanc => ?_); simp only [go_sem, e0, ge_dec]) | ((first | refine onG_split_t (fun hg => ?_) (fun hg => ?_) | refine onG_split_f (fun hg => ?_) (fun hg => ?_)) <;> simp only [go_sem, e0, ge_dec, hg]) | (refine K_condA (fun hc => ?_) (fun hc => ?_) <;> try (exact absurd hc (by decide))))
    exact K_ret (hQ _ (by simp only [go_sem]; rfl) (fun id ob h => h)).1
end Go.Proofs.YtihfjibkmhclfaaDoor
