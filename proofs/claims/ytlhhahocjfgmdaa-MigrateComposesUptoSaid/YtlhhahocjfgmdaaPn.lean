/- A part of the proof: an abstract machine for the walks, and what the walked functions compute. -/
import Derived.Test.YtlhhahocjfgmdaaPm
set_option linter.unusedVariables false
set_option linter.unusedSimpArgs false
set_option linter.unusedVariables false
namespace Go.Proofs.Ytlhhahocjfgmdaa
open Go.Am Go.Proofs Go.Hv Go.Mv
open Classical
def exS : Mg := ⟨0, [1, 0], [[0], []]⟩
def exM (f : List Int) : List Mg := [⟨1, [0], [f]⟩, exS]
def iV (n : Int) : Vl := .mk 1 0 0 n [] false [] []
def bV (n : Int) : Vl := .mk 3 0 0 n [] false [] []
def exV : Vl := .mk 2 0 0 0 [iV 5, bV 2] false [] []
def exW : Vl := .mk 2 1 0 0 [bV 2, iV 5, iV 7] false [] []
def exZ : Vl := .mk 2 1 0 0 [bV 2, iV 0, iV 0] false [] []
theorem f_v1 : resV (exM [1, 0, -8]) exV = (exW, []) := rfl
theorem f_v2 : resV (exM [1, -1, -1]) exV = (exZ, [iV 5]) := rfl
theorem f_t : tyM (exM [1, 0, -8]) (.mk 3 0 [.mk 2 0 []]) = .mk 3 0 [.mk 2 1 []] := rfl
theorem f_d1 : dtB oldD = true := rfl
theorem f_d2 : dtB newD = true := rfl
theorem shp_ex (f : List Int) (h1 : f.length = 3) (h2 : diffB f 2 = true) (h3 : ∀ j, j ∈ f → -1000000001 ≤ j) : shpA oldD newD (exM f) := by
 intro i x old hx ho
 match i with
 | 0 =>
  simp only [exM, oldD, List.getElem?_cons_zero, Option.some.injEq] at hx ho
  subst hx ho
  refine ⟨_, rfl, rfl, rfl, fun k v ov f' a b c => ?_⟩
  match k with
  | 0 =>
   simp only [List.getElem?_cons_zero, Option.some.injEq] at a b c
   subst a b c
   exact ⟨_, rfl, h1, h2, h3⟩
  | k + 1 => simp at a
 | 1 =>
  simp only [exM, oldD, exS, List.getElem?_cons_zero, List.getElem?_cons_succ, Option.some.injEq] at hx ho
  subst hx ho
  refine ⟨_, rfl, rfl, rfl, fun k v ov f' a b c => ?_⟩
  match k with
  | 0 =>
   simp only [List.getElem?_cons_zero, Option.some.injEq] at a b c
   subst a b c
   exact ⟨_, rfl, rfl, rfl, by intro j hj; simp at hj; omega⟩
  | 1 =>
   simp only [List.getElem?_cons_zero, List.getElem?_cons_succ, Option.some.injEq] at a b c
   subst a b c
   exact ⟨_, rfl, rfl, rfl, by intro j hj; simp at hj⟩
  | k + 2 => simp at a
 | i + 2 => simp [exM] at hx
theorem typ_ex : typA oldD newD (exM [1, 0, -8]) := by
 intro i x old hx ho
 match i with
 | 0 =>
  simp only [exM, oldD, List.getElem?_cons_zero, Option.some.injEq] at hx ho
  subst hx ho
  intro nd k v ov f nv hnd a b c e j t m ht hm
  have : nd = newD[1] := (Option.some.inj (show some nd = some newD[1] from hnd.symm)).symm ▸ rfl
  subst this
  match k with
  | 0 =>
   simp only [List.getElem?_cons_zero, Option.some.injEq] at a b c
   subst a b c
   have : nv = newD[1].vs[0] := (Option.some.inj (show some nv = some newD[1].vs[0] from e.symm)).symm ▸ rfl
   subst this
   match j with
   | 0 => simp [newD] at ht hm; subst ht hm; rfl
   | 1 => simp [newD] at ht hm; subst ht hm; rfl
   | 2 => simp [newD] at ht hm; subst ht hm; rfl
   | j + 3 => simp at hm
  | k + 1 => simp at a
 | 1 =>
  simp only [exM, oldD, exS, List.getElem?_cons_zero, List.getElem?_cons_succ, Option.some.injEq] at hx ho
  subst hx ho
  intro nd k v ov f nv hnd a b c e j t m ht hm
  have : nd = newD[0] := (Option.some.inj (show some nd = some newD[0] from hnd.symm)).symm ▸ rfl
  subst this
  match k with
  | 0 =>
   simp only [List.getElem?_cons_zero, Option.some.injEq] at a b c
   subst a b c
   have : nv = newD[0].vs[1] := (Option.some.inj (show some nv = some newD[0].vs[1] from e.symm)).symm ▸ rfl
   subst this
   match j with
   | 0 => simp [newD] at ht hm; subst ht hm; rfl
   | j + 1 => simp at hm
  | 1 =>
   simp only [List.getElem?_cons_zero, List.getElem?_cons_succ, Option.some.injEq] at a b c
   subst a b c
   simp at hm
  | k + 2 => simp at a
 | i + 2 => simp [exM] at hx
theorem typ_bad : ¬ typA oldD newD (exM [0, 1, -8]) := by
 intro h
 have h1 := h 0 _ _ rfl rfl newD[1] 0 0 oldD[0].vs[0] [0, 1, -8] newD[1].vs[0] rfl rfl rfl rfl rfl 0 (.mk 3 0 [.mk 1 0 []]) 0 rfl rfl
 have h2 : (Ty.mk 3 0 [.mk 1 0 []]) = .mk 1 0 [] := h1
 cases h2
theorem f_c1 : chkN oldD newD (exM [1, 0, -8]) = 0 := by
 unfold chkN
 rw [if_pos ⟨f_d1, f_d2, rfl⟩, if_pos (shp_ex _ rfl rfl (by intro j hj; simp at hj; omega)), if_pos typ_ex]
theorem f_c2 : chkN oldD newD (exM [0, 1, -8]) = 8 := by
 unfold chkN
 rw [if_pos ⟨f_d1, f_d2, rfl⟩, if_pos (shp_ex _ rfl rfl (by intro j hj; simp at hj; omega)), if_neg typ_bad]
theorem f_c3 : chkN oldD newD [⟨1, [0], [[1, 0, -8]]⟩] = 1 := by
 unfold chkN
 rw [if_neg]
 rintro ⟨_, _, h⟩
 cases h
theorem f_g : chgB oldD (exM [1, 0, -8]) = [true, true] := by
 simp [chgB, exM, exS, oldD, StayP]
theorem f_t1 : TchP oldD [true, false] (.mk 3 0 [.mk 2 1 []]) := by
 refine ⟨0, ?_, rfl⟩
 have h : Rch oldD (tgt (.mk 3 0 [.mk 2 1 []])) 1 := by
  have e : tgt (.mk 3 0 [.mk 2 1 []]) = 1 := rfl
  rw [e]; exact .refl
 exact .step (x := oldD[1]) (v := oldD[1].vs[0]) (t := .mk 2 0 []) h rfl (by simp [oldD]) (by simp [oldD])
theorem f_t2 : ¬ TchP oldD [false, true] (.mk 2 0 []) := by
 rintro ⟨i, hr, hi⟩
 have key : ∀ n, Rch oldD (tgt (.mk 2 0 [])) n → n = 0 ∨ n = -1 := by
  intro n hn
  induction hn with
  | refl => exact .inl rfl
  | step _ hx hv ht ih =>
   rcases ih with rfl | rfl
   ·have := Option.some.inj (show some oldD[0] = some _ from hx)
    subst this
    simp [oldD] at hv
    subst hv
    simp at ht
    rcases ht with rfl | rfl
    ·exact .inr rfl
    ·exact .inr rfl
   ·cases hx
 rcases key i hr with h | h
 ·have : i = 0 := by omega
  subst this
  cases hi
 ·omega
theorem sz_old : SzD oldD := ⟨by decide⟩
theorem sz_new : SzD newD := ⟨by decide⟩
theorem mb_ex (f : List Int) (h1 : f.length ≤ 3) (h2 : ∀ j, j ∈ f → -2 ^ 62 ≤ j) : MgB (exM f) := by
 refine ⟨by simp [exM], fun x hx => ?_⟩
 simp only [exM, exS, List.mem_cons, List.not_mem_nil, or_false] at hx
 rcases hx with rfl | rfl
 ·refine ⟨by simp, by simp, fun g hg => ?_⟩
  simp only [List.mem_cons, List.not_mem_nil, or_false] at hg
  subst hg
  exact ⟨by omega, h2⟩
 ·refine ⟨by simp, by simp, fun g hg => ?_⟩
  simp only [List.mem_cons, List.not_mem_nil, or_false] at hg
  rcases hg with rfl | rfl
  ·exact ⟨by simp, by intro j hj; simp at hj; omega⟩
  ·exact ⟨by simp, by intro j hj; simp at hj⟩
theorem mb_ex1 : MgB [⟨1, [0], [[1, 0, -8]]⟩] := by
 refine ⟨by simp, fun x hx => ?_⟩
 simp only [List.mem_cons, List.not_mem_nil, or_false] at hx
 subst hx
 refine ⟨by simp, by simp, fun g hg => ?_⟩
 simp only [List.mem_cons, List.not_mem_nil, or_false] at hg
 subst hg
 exact ⟨by simp, by intro j hj; simp at hj; omega⟩
end Go.Proofs.Ytlhhahocjfgmdaa
