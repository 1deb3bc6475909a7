/- A part of the proof: an abstract machine for the walks, and what the walked functions compute. -/
import Derived.Test.YtlhhahocjfgmdaaPj
set_option linter.unusedVariables false
set_option linter.unusedSimpArgs false
set_option linter.unusedSimpArgs false
set_option linter.unusedVariables false
set_option maxHeartbeats 4000000
set_option maxRecDepth 100000
namespace Go.Proofs.Ytlhhahocjfgmdaa
open Nat (reduceAdd reduceMul reduceEqDiff reduceLT reduceLeDiff reduceSub reduceDiv)
open Int (reduceBNe reduceLE reduceEq)
open Go.Am Go.Proofs Go.Hv Go.Mv
open Classical
attribute [local irreducible] AW CallP CallB CallY
inductive Rch (d : List Dd) (s : Int) : Int → Prop
 | refl : Rch d s s
 | step {i : Int} {x : Dd} {v : Dv} {t : Ty} : Rch d s i → at? d i = some x → v ∈ x.vs → t ∈ v.fs → Rch d s (tgt t)
def TchP (d : List Dd) (c : List Bool) (t : Ty) : Prop := ∃ i : Nat, Rch d (tgt t) i ∧ c[i]? = some true
mutual
theorem tgt_rng {n : Int} : ∀ (t : Ty) (k : Int), stB n t k = true → tgt t = -1 ∨ (0 ≤ tgt t ∧ tgt t < n)
 | .mk kd i a, k, h => by
  rw [stB] at h
  rw [tgt]
  by_cases k2 : kd = 2
  ·rw [if_pos k2]
   rw [if_neg (by omega), if_pos k2] at h
   simp only [Bool.and_eq_true, decide_eq_true_eq] at h
   exact .inr h.2
  ·rw [if_neg k2]
   by_cases k3 : kd = 3
   ·rw [if_pos k3]
    rw [if_neg (by omega), if_neg k2, if_pos (.inl k3)] at h
    simp only [Bool.and_eq_true] at h
    exact tgtL_rng a _ h.2.2
   ·rw [if_neg k3]; exact .inl rfl
theorem tgtL_rng {n : Int} : ∀ (a : List Ty) (k : Int), stL n a k = true → tgtL a = -1 ∨ (0 ≤ tgtL a ∧ tgtL a < n)
 | [], _, _ => by rw [tgtL]; exact .inl rfl
 | t :: _, k, h => by
  rw [stL, Bool.and_eq_true] at h
  rw [tgtL]
  exact tgt_rng t k h.1
end
theorem dtB_st {d : List Dd} (h : dtB d = true) {x : Dd} (hx : x ∈ d) {v : Dv} (hv : v ∈ x.vs) {t : Ty} (ht : t ∈ v.fs) : stB d.length t 8 = true := by
 unfold dtB at h
 rw [Bool.and_eq_true, List.all_eq_true] at h
 have h1 := h.2 x hx
 unfold ddB at h1
 rw [Bool.and_eq_true, List.all_eq_true] at h1
 have h2 := h1.2 v hv
 unfold dvB at h2
 rw [Bool.and_eq_true, List.all_eq_true] at h2
 exact h2.2 t ht
theorem dtB_len {d : List Dd} (h : dtB d = true) : d.length ≤ 200 := by
 unfold dtB at h
 rw [Bool.and_eq_true, decide_eq_true_eq] at h
 omega
def tgV (vs : List Dv) : List Int := vs.flatMap fun v => v.fs.map tgt
theorem tgV_len : ∀ vs : List Dv, (tgV vs).length ≤ (vs.map Dv.sz).sum
 | [] => Nat.le_refl _
 | v :: vs => by
  have := tgV_len vs
  have h1 := Ty.len_le v.fs
  have h2 : v.sz = 1 + Ty.szL v.fs := rfl
  have e : tgV (v :: vs) = v.fs.map tgt ++ tgV vs := rfl
  rw [e, List.length_append, List.length_map, List.map_cons, List.sum_cons]
  omega
theorem tgV_step {vs : List Dv} {k : Nat} {v : Dv} (h : vs[k]? = some v) : tgV (vs.take (k + 1)) = tgV (vs.take k) ++ v.fs.map tgt := by
 unfold tgV
 rw [List.take_add_one, h, List.flatMap_append]
 simp
theorem tgV_mem {vs : List Dv} {n : Int} : n ∈ tgV vs ↔ ∃ v, v ∈ vs ∧ ∃ t, t ∈ v.fs ∧ tgt t = n := by simp [tgV]
structure Tch (d : List Dd) (c : List Bool) (s : Int) (S W : List Int) : Prop where
 nd : S.Nodup
 m1 : (-1 : Int) ∈ S
 rS : ∀ x, x ∈ S → x = -1 ∨ (0 ≤ x ∧ x < d.length ∧ Rch d s x)
 rW : ∀ x, x ∈ W → (x = -1 ∨ (0 ≤ x ∧ x < d.length)) ∧ Rch d s x
 st : s ∈ S ∨ s ∈ W
 cl : ∀ i, i ∈ S → ∀ x, at? d i = some x → ∀ v, v ∈ x.vs → ∀ t, t ∈ v.fs → tgt t ∈ S ∨ tgt t ∈ W
 no : ∀ (i : Nat), (i : Int) ∈ S → c[i]? ≠ some true
theorem sum_one {α : Type} : ∀ l : List α, (l.map fun _ => 1).sum = l.length
 | [] => rfl
 | x :: l => by simp only [List.map_cons, List.sum_cons, List.length_cons]; have := sum_one l; omega
theorem Tch.len {d : List Dd} {c : List Bool} {s : Int} {S W : List Int} (h : Tch d c s S W) : S.length ≤ d.length + 1 := by
 have := sum_sub (fun _ : Int => 1) ((List.range (d.length + 1)).map fun n : Nat => (n : Int) - 1) S h.nd (fun x hx => by
  rw [List.mem_map]
  rcases h.rS x hx with rfl | ⟨h1, h2, _⟩
  ·exact ⟨0, by simp, by simp⟩
  ·exact ⟨(x + 1).toNat, by simp; omega, by omega⟩)
 rw [List.map_map] at this
 have e1 := sum_one S
 have e2 : ((List.range (d.length + 1)).map ((fun _ : Int => 1) ∘ fun n : Nat => (n : Int) - 1)).sum = d.length + 1 := by
  have := sum_one (List.range (d.length + 1))
  rw [List.length_range] at this
  exact this
 omega
theorem Tch.skip {d : List Dd} {c : List Bool} {s i : Int} {S W : List Int} (h : Tch d c s S (i :: W)) (hi : i ∈ S) : Tch d c s S W := by
 have hc : ∀ n, n ∈ S ∨ n ∈ i :: W → n ∈ S ∨ n ∈ W := by
  rintro n (hn | hn)
  ·exact .inl hn
  ·rcases List.mem_cons.1 hn with rfl | hn
   ·exact .inl hi
   ·exact .inr hn
 exact ⟨h.nd, h.m1, h.rS, fun x hx => h.rW x (List.mem_cons_of_mem _ hx), hc s h.st, fun j hj x hx v hv t ht => hc _ (h.cl j hj x hx v hv t ht), h.no⟩
theorem Tch.take {d : List Dd} {c : List Bool} {s : Int} {n : Nat} {S W : List Int} (hd : dtB d = true) (h : Tch d c s S ((n : Int) :: W)) (hi : (n : Int) ∉ S) {x : Dd} (hx : d[n]? = some x) (hcn : c[n]? ≠ some true) : Tch d c s (S ++ [(n : Int)]) (W ++ tgV x.vs) := by
 have hn := h.rW n (by simp)
 have hxm := List.mem_of_getElem? hx
 have hc : ∀ m, m ∈ S ∨ m ∈ (n : Int) :: W → m ∈ S ++ [(n : Int)] ∨ m ∈ W ++ tgV x.vs := by
  rintro m (hm | hm)
  ·exact .inl (List.mem_append_left _ hm)
  ·rcases List.mem_cons.1 hm with rfl | hm
   ·exact .inl (by simp)
   ·exact .inr (List.mem_append_left _ hm)
 refine ⟨?_, List.mem_append_left _ h.m1, fun y hy => ?_, fun y hy => ?_, hc s h.st, fun j hj y hy v hv t ht => ?_, fun i hi2 => ?_⟩
 ·rw [List.nodup_append]
  refine ⟨h.nd, by simp, fun a ha b hb => ?_⟩
  rw [List.mem_singleton] at hb
  rintro rfl
  exact hi (hb ▸ ha)
 ·rcases List.mem_append.1 hy with hy | hy
  ·exact h.rS y hy
  ·rw [List.mem_singleton] at hy
   subst hy
   exact .inr ⟨by omega, by have := (List.getElem?_eq_some_iff.1 hx).1; omega, hn.2⟩
 ·rcases List.mem_append.1 hy with hy | hy
  ·exact h.rW y (List.mem_cons_of_mem _ hy)
  ·obtain ⟨v, hv, t, ht, rfl⟩ := tgV_mem.1 hy
   exact ⟨tgt_rng t 8 (dtB_st hd hxm hv ht), .step hn.2 (by rw [at_nat]; exact hx) hv ht⟩
 ·rcases List.mem_append.1 hj with hj | hj
  ·exact hc _ (h.cl j hj y hy v hv t ht)
  ·rw [List.mem_singleton] at hj
   subst hj
   rw [at_nat, hx] at hy
   cases hy
   exact .inr (List.mem_append_right _ (tgV_mem.2 ⟨v, hv, t, ht, rfl⟩))
 ·rcases List.mem_append.1 hi2 with hi2 | hi2
  ·exact h.no i hi2
  ·rw [List.mem_singleton] at hi2
   have : i = n := by omega
   subst this
   exact hcn
theorem Tch.fin {d : List Dd} {c : List Bool} {t : Ty} {S : List Int} (h : Tch d c (tgt t) S []) : ¬ TchP d c t := by
 rintro ⟨i, hr, hi⟩
 have key : ∀ n, Rch d (tgt t) n → n ∈ S := by
  intro n hn
  induction hn with
  | refl => rcases h.st with h | h; exact h; cases h
  | step _ hx hv ht ih => rcases h.cl _ ih _ hx _ hv _ ht with h | h; exact h; cases h
 exact h.no i (key i hr) hi
theorem touched_call (d : List Dd) (c : List Bool) (t : Ty) (hd : SzD d) (h1 : dtB d = true) (h2 : stB d.length t 8 = true) (h3 : c.length = d.length) (hts : t.sz < 2 ^ 40) : PCall Try.prog 14 [.sl (ddl d), .sl (bl c), t.av] (.bool (decide (TchP d c t))) := by
 have k1 := datas_call d hd.le
 have k2 := plain_call t d.length hts h2
 have k3 := target_call (2 ^ 40) t d.length 8 hts h2
 have hn200 := dtB_len h1
 have hF := hd.le
 rw [h1] at k1
 rw [Ty.av_eq] at k2 k3 ⊢
 have q3 : ((c.length : Int) != (d.length : Int)) = false := by simp [h3]
 have hgt : ∀ n : Nat, decide (((n : Nat) : Int) > 0) = decide (0 < n) := fun n => by simp
 refine PCall.intro Try.func14 rfl isf14 (by simp [Try.f14]) (by simp [AV.cloL, AV.clo]) fun E Q hE hN hQ => K_start ?_
 repeat' (first | apply nx | refine Kq_exit_ne (by decide) ?_ | rw [wrap64 (by omega) (by omega)] | ((first | refine hK _ ?_ | refine hKp _ _ ?_); clear hK hKp K Kp; try clear hanc anc) | ((with_reducible refine And.intro ?_ ?_); (focus (first | trivial | omega | (simp only [Fits]; omega) | assumption | (rw [hanc]; rfl)))) | ((first | refine K_regA hE fun K Kp hK hKp => ?_ | refine K_drwA true mixed hE fun K Kp hK hKp anc hanc => ?_ | refine K_drwA false mixed hE fun K Kp hK hKp anc hanc => ?_ | ((first | apply CallP_mk | apply CallB_mk); (focus (simp only [go_sem] <;> rfl)); (focus (first | exact k1 | exact k2 | exact k3)); (focus (first | (simp [go_sem]; done) | (simp [go_sem, CloRow, AV.cells, AV.clo]; done))); (focus (first | exact .inl rfl | (right; simp [go_sem]))))); simp only [go_sem, q3]) | ((first | refine onG_split_t (fun hg => ?_) (fun hg => ?_) | refine onG_split_f (fun hg => ?_) (fun hg => ?_)) <;> simp only [go_sem, q3, hg]) | (refine K_condA (fun hc => ?_) (fun hc => ?_) <;> try (exact absurd hc (by decide))))
 refine K_loop (X := List Int × List Int × List (AV × AV)) (fun z => Tch d c (tgt t) z.1 z.2.1 ∧ MapIs z.2.2 (tk z.1) ∧ EsClo z.2.2 ∧ z.2.1.length ≤ z.1.length * (dSz d + 1)) (fun z => mkSt [(0, .sl (ddl d)), (1, .sl (bl c)), (7, .mp 0), (8, .rw 1)] [(0, .map z.2.2), (1, .row 1 (il z.2.1))] 2)
  (fun z => (d.length + 1 - z.1.length) * (dSz d + 1) + z.2.1.length) ([-1], [tgt t], putE .i64 (-1) (.bool true) [] none) ⟨?_, ?_, EsClo.nil.put (-1) rfl none, by simp⟩ (fun i => if i = 0 then 19922944 else 26214400) (by refine ent_mk (by simp [go_sem, putE, il]) (by simp [go_sem, putE, il]) (by simp) (by simp [hN])) ?_
 ·refine ⟨by simp, by simp, fun x hx => .inl (by simpa using hx), fun x hx => ?_, .inr (by simp), fun i hi x hx => ?_, fun i hi => ?_⟩
  ·rw [List.mem_singleton] at hx
   subst hx
   exact ⟨tgt_rng t 8 h2, .refl⟩
  ·rw [List.mem_singleton] at hi
   rw [hi, at_neg _ (by decide)] at hx; cases hx
  ·rw [List.mem_singleton] at hi; omega
 ·have := MapIs.nil.put (-1) (.bool true)
  have e : (fun m => if m = (-1 : Int) then some (AV.bool true) else none) = tk [-1] := by
   funext m; simp [tk]
  rw [e] at this
  exact this
 rintro ⟨S, W, es⟩ ⟨hT, hm, hec, hWl⟩
 simp only at hT hm hec hWl
 have hSl := hT.len
 have hWb : W.length ≤ 2 ^ 40 := by
  have : S.length * (dSz d + 1) ≤ 201 * (2 ^ 30 + 1) := Nat.mul_le_mul (by omega) (by omega)
  omega
 by_cases hW0 : W = []
 ·have q0 : decide ((W.length : Int) > 0) = false := by simp [hW0]
  rw [hW0] at hT
  have hn := hT.fin
  rw [decide_eq_false hn] at hQ
  repeat' (first | apply nx | refine Kq_exit_ne (by decide) ?_ | rw [wrap64 (by omega) (by omega)] | ((first | refine hK _ ?_ | refine hKp _ _ ?_); clear hK hKp K Kp; try clear hanc anc) | ((with_reducible refine And.intro ?_ ?_); (focus (first | trivial | omega | (simp only [Fits]; omega) | assumption | (rw [hanc]; rfl)))) | ((first | refine K_regA hE fun K Kp hK hKp => ?_ | refine K_drwA false mixed hE fun K Kp hK hKp anc hanc => ?_); simp only [go_sem, q0]) | ((first | refine onG_split_t (fun hg => ?_) (fun hg => ?_) | refine onG_split_f (fun hg => ?_) (fun hg => ?_)) <;> simp only [go_sem, q0, hg]) | (refine K_condA (fun hc => ?_) (fun hc => ?_) <;> try (exact absurd hc (by decide))) | (refine K_ret ?_; refine (hQ _ ⟨_, by (try simp only [go_sem, ↓reduceIte, Nat.reduceEqDiff]); rfl, by simp [go_sem], ?_, by first | rfl | assumption⟩).1))
  simp [AV.snap]
 obtain ⟨i, W1, hW⟩ : ∃ i W1, W = i :: W1 := by
  cases W with
  | nil => exact absurd rfl hW0
  | cons i W1 => exact ⟨i, W1, rfl⟩
 have q0 : decide ((W.length : Int) > 0) = true := by simp [hW]
 have hx0 : W[0]? = some i := by rw [hW]; rfl
 have hd1' : W.drop 1 = W1 := by rw [hW]; rfl
 have hWl1 : W.length = W1.length + 1 := by rw [hW]; rfl
 rw [hW] at hT
 have hmx := hm i
 by_cases hiS : i ∈ S
 ·rw [tk, if_pos hiS] at hmx
  repeat' (first | apply nx | refine Kq_exit_ne (by decide) ?_ | rw [wrap64 (by omega) (by omega)] | ((first | refine hK _ ?_ | refine hKp _ _ ?_); clear hK hKp K Kp; try clear hanc anc) | ((with_reducible refine And.intro ?_ ?_); (focus (first | trivial | omega | (simp only [Fits]; omega) | assumption | (rw [hanc]; rfl)))) | ((first | refine K_regA hE fun K Kp hK hKp => ?_ | refine K_drwA true mixed hE fun K Kp hK hKp anc hanc => ?_ | refine K_drwA false mixed hE fun K Kp hK hKp anc hanc => ?_); simp only [go_sem, q0, hx0, hmx]) | ((first | refine onG_split_t (fun hg => ?_) (fun hg => ?_) | refine onG_split_f (fun hg => ?_) (fun hg => ?_)) <;> simp only [go_sem, q0, hx0, hmx, hg]) | (refine K_condA (fun hc => ?_) (fun hc => ?_) <;> try (exact absurd hc (by decide))))
  exact ⟨(S, W1, es), ⟨hT.skip hiS, hm, hec, by simp only; omega⟩, by simp only; omega, fun j => if j = 1 then 11534338 else j, ent_mk (by simp [go_sem]) (by simp [hec.ren, hd1', go_sem]; exact fun a b h => ⟨clo_ids (hec _ h).1, clo_ids (hec _ h).2⟩) (by simp) (by simp [hN])⟩
 ·rw [tk, if_neg hiS] at hmx
  have hir := hT.rW i (by simp)
  have hi0 : 0 ≤ i ∧ i < d.length := by
   rcases hir.1 with rfl | h
   ·exact absurd hT.m1 hiS
   ·exact h
  obtain ⟨n, rfl⟩ := Int.eq_ofNat_of_zero_le hi0.1
  obtain ⟨x, hx⟩ := get?_of (show n < d.length by omega)
  obtain ⟨b, hb⟩ := get?_of (show n < c.length by omega)
  cases b
  ·repeat' (first | apply nx | refine Kq_exit_ne (by decide) ?_ | rw [wrap64 (by omega) (by omega)] | ((first | refine hK _ ?_ | refine hKp _ _ ?_); clear hK hKp K Kp; try clear hanc anc) | ((with_reducible refine And.intro ?_ ?_); (focus (first | trivial | omega | (simp only [Fits]; omega) | assumption | (rw [hanc]; rfl)))) | ((first | refine K_regA hE fun K Kp hK hKp => ?_ | refine K_drwA true mixed hE fun K Kp hK hKp anc hanc => ?_ | refine K_drwA false mixed hE fun K Kp hK hKp anc hanc => ?_); simp only [go_sem, q0, hx0, hmx, hb, hx, Dd.av, Dd.cs_eq]) | ((first | refine onG_split_t (fun hg => ?_) (fun hg => ?_) | refine onG_split_f (fun hg => ?_) (fun hg => ?_)) <;> simp only [go_sem, q0, hx0, hmx, hb, hx, Dd.av, Dd.cs_eq, hg]) | (refine K_condA (fun hc => ?_) (fun hc => ?_) <;> try (exact absurd hc (by decide))))
   have hcn : c[n]? ≠ some true := by rw [hb]; simp
   have hT2 := hT.take h1 hiS hx hcn
   have hl2 := hT2.len
   rw [List.length_append, List.length_singleton] at hl2
   have hm' := hm.put n (.bool true)
   rw [tk, if_neg hiS, tk_put] at hm'
   have hc' := hec.put (n : Int) (x := .bool true) rfl none
   have hids : ∀ (a b : AV), (a, b) ∈ putE .i64 (n : Int) (.bool true) es none → AV.ids (fun x => x < 2) a ∧ AV.ids (fun x => x < 2) b := fun a b h => ⟨clo_ids (hc' _ h).1, clo_ids (hc' _ h).2⟩
   have hxm := List.mem_of_getElem? hx
   have hxs := dSz_vs hxm
   have hvl : ∀ k, (tgV (x.vs.take k)).length ≤ dSz d := fun k => by
    have g1 := tgV_len (x.vs.take k)
    have g2 := sum_memN (fun x : Dd => 1 + (x.vs.map Dv.sz).sum) hxm
    have g3 : ((x.vs.take k).map Dv.sz).sum ≤ (x.vs.map Dv.sz).sum := by
     conv => rhs; rw [← List.take_append_drop k x.vs, List.map_append, List.sum_append]
     omega
    have e : dSz d = (d.map fun x => 1 + (x.vs.map Dv.sz).sum).sum := rfl
    omega
   generalize putE .i64 (n : Int) (.bool true) es none = es' at *
   refine K_loop (X := Nat) (fun k => k ≤ x.vs.length) (fun k => mkSt [(0, .sl (ddl d)), (1, .sl (bl c)), (7, .mp 0), (8, .rw 1), (57, .sl (dvl x.vs)), (58, .i x.vs.length), (59, AV.i k)] [(0, .map es'), (1, .row 1 (il (W ++ tgV (x.vs.take k))))] 2)
    (fun k => x.vs.length - k) 0 (Nat.zero_le _) (fun i => i) (ent_mk (by simp [go_sem]) (by simp [hc'.ren, go_sem, tgV]; exact hids) (by simp) (by simp [hN])) ?_
   intro k hk
   by_cases hlk : k < x.vs.length
   ·obtain ⟨v, hv⟩ := get?_of hlk
    have hvs := hxs.2 v (List.mem_of_getElem? hv)
    repeat' (first | apply nx | refine Kq_exit_ne (by decide) ?_ | rw [wrap64 (by omega) (by omega)] | ((first | refine hK _ ?_ | refine hKp _ _ ?_); clear hK hKp K Kp; try clear hanc anc) | ((with_reducible refine And.intro ?_ ?_); (focus (first | trivial | omega | (simp only [Fits]; omega) | assumption | (rw [hanc]; rfl)))) | ((first | refine K_regA hE fun K Kp hK hKp => ?_ | refine K_drwA true mixed hE fun K Kp hK hKp anc hanc => ?_ | refine K_drwA false mixed hE fun K Kp hK hKp anc hanc => ?_); simp only [go_sem, lt_dec hlk, hv, Dv.av, Dv.cs_eq]) | ((first | refine onG_split_t (fun hg => ?_) (fun hg => ?_) | refine onG_split_f (fun hg => ?_) (fun hg => ?_)) <;> simp only [go_sem, lt_dec hlk, hv, Dv.av, Dv.cs_eq, hg]) | (refine K_condA (fun hc => ?_) (fun hc => ?_) <;> try (exact absurd hc (by decide))))
    refine K_loop (X := Nat) (fun j => j ≤ v.fs.length) (fun j => mkSt [(0, .sl (ddl d)), (1, .sl (bl c)), (7, .mp 0), (8, .rw 1), (57, .sl (dvl x.vs)), (58, .i x.vs.length), (59, AV.i k), (64, .sl (Ty.avL v.fs)), (65, .i v.fs.length), (66, AV.i j)] [(0, .map es'), (1, .row 1 (il (W ++ tgV (x.vs.take k) ++ (v.fs.take j).map tgt)))] 2)
     (fun j => v.fs.length - j) 0 (Nat.zero_le _) (fun i => i) (ent_mk (by simp [go_sem]) (by simp [hc'.ren, go_sem]; exact hids) (by simp) (by simp [hN])) ?_
    intro j hj
    by_cases hlj : j < v.fs.length
    ·obtain ⟨f, hf⟩ := get?_of hlj
     have hfm := List.mem_of_getElem? hf
     have hct := target_call (2 ^ 40) f d.length 8 (by have := hvs.2 f hfm; omega) (dtB_st h1 hxm (List.mem_of_getElem? hv) hfm)
     rw [Ty.av_eq] at hct
     have hk1 := hvl k
     have hj1 : (v.fs.take j).length = j := by rw [List.length_take]; omega
     have hvf := hvs.1
     have e : W ++ tgV (x.vs.take k) ++ (v.fs.take (j + 1)).map tgt = W ++ tgV (x.vs.take k) ++ (v.fs.take j).map tgt ++ [tgt f] := by
      rw [List.take_add_one, hf]; simp
     have hsz := szok_il [tgt f]
     have e1 : [AV.i (tgt f)] = il [tgt f] := rfl
     repeat' (first | apply nx | refine Kq_exit_ne (by decide) ?_ | rw [wrap64 (by omega) (by omega)] | ((first | refine hK _ ?_ | refine hKp _ _ ?_); clear hK hKp K Kp; try clear hanc anc) | ((with_reducible refine And.intro ?_ ?_); (focus (first | trivial | omega | (simp only [Fits]; omega) | assumption | (rw [hanc]; rfl)))) | ((first | refine K_regA hE fun K Kp hK hKp => ?_ | refine K_drwA true mixed hE fun K Kp hK hKp anc hanc => ?_ | refine K_drwA false mixed hE fun K Kp hK hKp anc hanc => ?_ | ((first | apply CallP_mk | apply CallB_mk); (focus (simp only [go_sem] <;> rfl)); (focus (exact hct)); (focus (first | (simp [go_sem]; done) | (simp [go_sem, CloRow, AV.cells, AV.clo]; done))); (focus (first | exact .inl rfl | (right; simp [go_sem]))))); simp only [go_sem, lt_dec hlj, hf, Ty.av_eq, hj1]) | ((first | refine onG_split_t (fun hg => ?_) (fun hg => ?_) | refine onG_split_f (fun hg => ?_) (fun hg => ?_)) <;> simp only [go_sem, lt_dec hlj, hf, Ty.av_eq, hj1, hg]) | (refine K_condA (fun hc => ?_) (fun hc => ?_) <;> try (exact absurd hc (by decide))))
     refine ⟨j + 1, by omega, by omega, fun i => if i = 1 then 9437186 else i, ent_mk (by simp [go_sem]) (by simp only [e]; simp [hc'.ren, go_sem, e1]; exact hids) (by simp) (by simp [hN])⟩
    ·obtain rfl : j = v.fs.length := by omega
     repeat' (first | apply nx | refine Kq_exit_ne (by decide) ?_ | rw [wrap64 (by omega) (by omega)] | ((first | refine hK _ ?_ | refine hKp _ _ ?_); clear hK hKp K Kp; try clear hanc anc) | ((with_reducible refine And.intro ?_ ?_); (focus (first | trivial | omega | (simp only [Fits]; omega) | assumption | (rw [hanc]; rfl)))) | ((first | refine K_regA hE fun K Kp hK hKp => ?_ | refine K_drwA true mixed hE fun K Kp hK hKp anc hanc => ?_ | refine K_drwA false mixed hE fun K Kp hK hKp anc hanc => ?_); simp only [go_sem, ge_dec]) | ((first | refine onG_split_t (fun hg => ?_) (fun hg => ?_) | refine onG_split_f (fun hg => ?_) (fun hg => ?_)) <;> simp only [go_sem, ge_dec, hg]) | (refine K_condA (fun hc => ?_) (fun hc => ?_) <;> try (exact absurd hc (by decide))))
     refine ⟨k + 1, by omega, by omega, fun i => i, ent_mk (by simp [go_sem]) (by simp only [tgV_step hv]; simp [hc'.ren, go_sem]; exact hids) (by simp) (by simp [hN])⟩
   ·obtain rfl : k = x.vs.length := by omega
    have e : (W ++ tgV x.vs).drop 1 = W1 ++ tgV x.vs := by rw [hW]; rfl
    have hvl1 := hvl x.vs.length
    rw [List.take_length] at hvl1 ⊢
    repeat' (first | apply nx | refine Kq_exit_ne (by decide) ?_ | rw [wrap64 (by omega) (by omega)] | ((first | refine hK _ ?_ | refine hKp _ _ ?_); clear hK hKp K Kp; try clear hanc anc) | ((with_reducible refine And.intro ?_ ?_); (focus (first | trivial | omega | (simp only [Fits]; omega) | assumption | (rw [hanc]; rfl)))) | ((first | refine K_regA hE fun K Kp hK hKp => ?_ | refine K_drwA true mixed hE fun K Kp hK hKp anc hanc => ?_ | refine K_drwA false mixed hE fun K Kp hK hKp anc hanc => ?_); simp only [go_sem, ge_dec]) | ((first | refine onG_split_t (fun hg => ?_) (fun hg => ?_) | refine onG_split_f (fun hg => ?_) (fun hg => ?_)) <;> simp only [go_sem, ge_dec, hg]) | (refine K_condA (fun hc => ?_) (fun hc => ?_) <;> try (exact absurd hc (by decide))))
    refine ⟨(S ++ [(n : Int)], W1 ++ tgV x.vs, es'), ⟨hT2, hm', hc', ?_⟩, ?_, fun i => if i = 1 then 2097154 else i, ent_mk (by simp [go_sem]) (by simp [hc'.ren, go_sem, e]; exact hids) (by simp) (by simp [hN])⟩
    ·simp only [List.length_append, List.length_singleton, Nat.add_mul, Nat.one_mul]
     omega
    ·simp only [List.length_append, List.length_singleton]
     have e3 : d.length + 1 - S.length = (d.length + 1 - (S.length + 1)) + 1 := by omega
     rw [e3, Nat.add_mul, Nat.one_mul]
     omega
  ·have hy : TchP d c t := ⟨n, hir.2, hb⟩
   rw [decide_eq_true hy] at hQ
   repeat' (first | apply nx | refine Kq_exit_ne (by decide) ?_ | rw [wrap64 (by omega) (by omega)] | ((first | refine hK _ ?_ | refine hKp _ _ ?_); clear hK hKp K Kp; try clear hanc anc) | ((with_reducible refine And.intro ?_ ?_); (focus (first | trivial | omega | (simp only [Fits]; omega) | assumption | (rw [hanc]; rfl)))) | ((first | refine K_regA hE fun K Kp hK hKp => ?_ | refine K_drwA false mixed hE fun K Kp hK hKp anc hanc => ?_); simp only [go_sem, q0, hx0, hmx, hb]) | ((first | refine onG_split_t (fun hg => ?_) (fun hg => ?_) | refine onG_split_f (fun hg => ?_) (fun hg => ?_)) <;> simp only [go_sem, q0, hx0, hmx, hb, hg]) | (refine K_condA (fun hc => ?_) (fun hc => ?_) <;> try (exact absurd hc (by decide))) | (refine K_ret ?_; refine (hQ _ ⟨_, by (try simp only [go_sem, ↓reduceIte, Nat.reduceEqDiff]); rfl, by simp [go_sem], ?_, by first | rfl | assumption⟩).1))
   simp [AV.snap]
end Go.Proofs.Ytlhhahocjfgmdaa
