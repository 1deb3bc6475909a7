/- A part of the proof: an abstract machine for the walks, and what the walked functions compute. -/
import Derived.Test.YtdheeecpkkjfiaaCd
import Derived.Test.YtdheeecpkkjfiaaMf
import Derived.Test.YtdheeecpkkjfiaaCob
import Derived.Test.YtdheeecpkkjfiaaCb
import Derived.Test.YtdheeecpkkjfiaaCn
set_option linter.unusedVariables false
set_option linter.unusedSimpArgs false
/- Chapter 10: flat. -/
namespace Go.Low
open Go Go.Am
mutual
theorem flatN_len : ∀ n : Nd, (flatN n).length ≤ n.sz
  | .mk k a x t e arms => by
    rw [flatN, Nd.sz]
    have h1 := flatL_len t
    have h2 := flatL_len e
    have h3 := flatP_len arms
    split
    · simp only [List.length_cons, List.length_nil]; omega
    · split
      · rw [List.length_append]; omega
      · split
        · omega
        · split
          · omega
          · simp
theorem flatL_len : ∀ l : List Nd, (flatL l).length ≤ Nd.szL l
  | [] => by rw [flatL]; simp
  | n :: l => by
    rw [flatL, Nd.szL, List.length_append]
    have h1 := flatN_len n
    have h2 := flatL_len l
    split
    · omega
    · simp only [List.length_nil]; omega
theorem flatP_len : ∀ l : List (List Nd), (flatP l).length ≤ Nd.szLL l
  | [] => by rw [flatP]; simp
  | p :: l => by
    rw [flatP, Nd.szLL, List.length_append]
    have h1 := flatL_len p
    have h2 := flatP_len l
    omega
end
theorem leftL_one (n : Nd) : leftL [n] = leftN n := by simp [leftL]
end Go.Low
namespace Go.Proofs.Ytdheeecpkkjfiaa
open Go.Am Go.Proofs Go.Low
set_option linter.unusedSimpArgs false
set_option linter.unusedVariables false
open Classical
set_option maxHeartbeats 4000000
set_option maxRecDepth 100000
attribute [local irreducible] AW CallP CallB

def insl (l : List Ins) : List AV := l.map Ins.av
theorem insl_clo (l : List Ins) : AV.cloL (insl l) = true := by
  induction l with
  | nil => rfl
  | cons x l ih => exact (by simp only [insl, List.map_cons, AV.cloL, Ins.av, AV.clo, Bool.and_self, Bool.true_and] at ih ⊢; exact ih)
@[go_sem] theorem insl_ren (m : Nat → Nat) (l : List Ins) : AV.renL m (insl l) = insl l := cloL_renL (insl_clo l)
@[go_sem] theorem insl_ids (p : Nat → Prop) (l : List Ins) : AV.idsL p (insl l) = True := eq_true (cloL_idsL (insl_clo l))
@[go_sem] theorem insl_len (l : List Ins) : (insl l).length = l.length := List.length_map ..
@[go_sem] theorem insl_nil : insl [] = [] := rfl
theorem szok_ins (l : List Ins) : SzOk (insl l) 7 := by
  intro x hx
  obtain ⟨p, _, rfl⟩ := List.mem_map.1 hx
  rfl
theorem szok_nd (l : List Nd) : SzOk (Nd.avL l) 12 := by
  intro x hx
  rw [Nd.avL_eq] at hx
  obtain ⟨p, _, rfl⟩ := List.mem_map.1 hx
  rw [Nd.av_eq]
  rfl
@[go_sem] theorem insl_fold (a b : List Ins) : insl a ++ insl b = insl (a ++ b) := (List.map_append ..).symm
@[go_sem] theorem insl_foldx (a : List Ins) (x : Ins) : insl a ++ [.agg [.i x.op, .i x.dst, .i x.a, .i x.b, .i x.n, .sl (x.args.map AV.i), .sl (Ty.avL x.types)]] = insl (a ++ [x]) := (List.map_append (f := Ins.av) (l₁ := a) (l₂ := [x])).symm
theorem clo_ins (l : List Ins) : CloRow (insl l) := by
  intro x hx c hc
  obtain ⟨p, _, rfl⟩ := List.mem_map.1 hx
  simp only [Ins.av, AV.cells, List.mem_cons, List.not_mem_nil, or_false] at hc
  rcases hc with rfl | rfl | rfl | rfl | rfl | rfl | rfl <;> rfl

theorem cut_one {l : List Nd} {i : Nat} {x : Nd} (h : l[i]? = some x) : cutA (Nd.avL l) i (i + 1) = Nd.avL [x] := by
  unfold cutA
  rw [Nd.avL_eq, Nd.avL_eq, List.take_add_one, List.getElem?_map, h]
  have hi : i < l.length := (List.getElem?_eq_some_iff.1 h).1
  have : (List.map Nd.av l).take i ++ [x.av] = (List.map Nd.av l).take i ++ [x.av] := rfl
  rw [Option.map_some, Option.toList_some, List.drop_append]
  simp
  rw [Nat.min_eq_left (by omega)]
  simp

def fT10 : Tr := .alt 0 (.alt 1 (.alt 2 (.alt 3 (.alt 4 (.alt 5 (.alt 6 (.alt 7 (.alt 8 (.alt 9 .leaf .nil) .nil) .nil) .nil) .nil) (.alt 5 (.alt 4 (.alt 6 (.alt 7 (.alt 8 (.alt 9 .leaf .nil) .nil) .nil) .nil) (.alt 6 (.alt 4 (.alt 7 (.alt 8 (.alt 9 .leaf .nil) .nil) .nil) .nil) .nil)) .nil)) (.alt 5 (.alt 3 (.alt 4 (.alt 6 (.alt 7 (.alt 8 (.alt 9 .leaf .nil) .nil) .nil) .nil) (.alt 6 (.alt 4 (.alt 7 (.alt 8 (.alt 9 .leaf .nil) .nil) .nil) .nil) .nil)) (.alt 6 (.alt 3 (.alt 4 (.alt 7 (.alt 8 (.alt 9 .leaf .nil) .nil) .nil) .nil) .nil) .nil)) .nil)) (.alt 5 (.alt 2 (.alt 3 (.alt 4 (.alt 6 (.alt 7 (.alt 8 (.alt 9 .leaf .nil) .nil) .nil) .nil) (.alt 6 (.alt 4 (.alt 7 (.alt 8 (.alt 9 .leaf .nil) .nil) .nil) .nil) .nil)) (.alt 6 (.alt 3 (.alt 4 (.alt 7 (.alt 8 (.alt 9 .leaf .nil) .nil) .nil) .nil) .nil) .nil)) (.alt 6 (.alt 2 (.alt 3 (.alt 4 (.alt 7 (.alt 8 (.alt 9 .leaf .nil) .nil) .nil) .nil) .nil) .nil) .nil)) .nil)) (.alt 5 (.alt 1 (.alt 2 (.alt 3 (.alt 4 (.alt 6 (.alt 7 (.alt 8 (.alt 9 .leaf .nil) .nil) .nil) .nil) (.alt 6 (.alt 4 (.alt 7 (.alt 8 (.alt 9 .leaf .nil) .nil) .nil) .nil) .nil)) (.alt 6 (.alt 3 (.alt 4 (.alt 7 (.alt 8 (.alt 9 .leaf .nil) .nil) .nil) .nil) .nil) .nil)) (.alt 6 (.alt 2 (.alt 3 (.alt 4 (.alt 7 (.alt 8 (.alt 9 .leaf .nil) .nil) .nil) .nil) .nil) .nil) .nil)) (.alt 6 (.alt 1 (.alt 2 (.alt 3 (.alt 4 (.alt 7 (.alt 8 (.alt 9 .leaf .nil) .nil) .nil) .nil) .nil) .nil) .nil) .nil)) .nil)) (.alt 1 (.alt 0 (.alt 2 (.alt 3 (.alt 4 (.alt 5 (.alt 6 (.alt 7 (.alt 8 (.alt 9 .leaf .nil) .nil) .nil) .nil) .nil) (.alt 5 (.alt 4 (.alt 6 (.alt 7 (.alt 8 (.alt 9 .leaf .nil) .nil) .nil) .nil) (.alt 6 (.alt 4 (.alt 7 (.alt 8 (.alt 9 .leaf .nil) .nil) .nil) .nil) .nil)) .nil)) (.alt 5 (.alt 3 (.alt 4 (.alt 6 (.alt 7 (.alt 8 (.alt 9 .leaf .nil) .nil) .nil) .nil) (.alt 6 (.alt 4 (.alt 7 (.alt 8 (.alt 9 .leaf .nil) .nil) .nil) .nil) .nil)) (.alt 6 (.alt 3 (.alt 4 (.alt 7 (.alt 8 (.alt 9 .leaf .nil) .nil) .nil) .nil) .nil) .nil)) .nil)) (.alt 5 (.alt 2 (.alt 3 (.alt 4 (.alt 6 (.alt 7 (.alt 8 (.alt 9 .leaf .nil) .nil) .nil) .nil) (.alt 6 (.alt 4 (.alt 7 (.alt 8 (.alt 9 .leaf .nil) .nil) .nil) .nil) .nil)) (.alt 6 (.alt 3 (.alt 4 (.alt 7 (.alt 8 (.alt 9 .leaf .nil) .nil) .nil) .nil) .nil) .nil)) (.alt 6 (.alt 2 (.alt 3 (.alt 4 (.alt 7 (.alt 8 (.alt 9 .leaf .nil) .nil) .nil) .nil) .nil) .nil) .nil)) .nil)) (.alt 2 (.alt 0 (.alt 3 (.alt 4 (.alt 5 (.alt 6 (.alt 7 (.alt 8 (.alt 9 .leaf .nil) .nil) .nil) .nil) .nil) (.alt 5 (.alt 4 (.alt 6 (.alt 7 (.alt 8 (.alt 9 .leaf .nil) .nil) .nil) .nil) (.alt 6 (.alt 4 (.alt 7 (.alt 8 (.alt 9 .leaf .nil) .nil) .nil) .nil) .nil)) .nil)) (.alt 5 (.alt 3 (.alt 4 (.alt 6 (.alt 7 (.alt 8 (.alt 9 .leaf .nil) .nil) .nil) .nil) (.alt 6 (.alt 4 (.alt 7 (.alt 8 (.alt 9 .leaf .nil) .nil) .nil) .nil) .nil)) (.alt 6 (.alt 3 (.alt 4 (.alt 7 (.alt 8 (.alt 9 .leaf .nil) .nil) .nil) .nil) .nil) .nil)) .nil)) (.alt 3 (.alt 0 (.alt 4 (.alt 5 (.alt 6 (.alt 7 (.alt 8 (.alt 9 .leaf .nil) .nil) .nil) .nil) .nil) (.alt 5 (.alt 4 (.alt 6 (.alt 7 (.alt 8 (.alt 9 .leaf .nil) .nil) .nil) .nil) (.alt 6 (.alt 4 (.alt 7 (.alt 8 (.alt 9 .leaf .nil) .nil) .nil) .nil) .nil)) .nil)) (.alt 5 (.alt 0 (.alt 4 (.alt 6 (.alt 7 (.alt 8 (.alt 9 .leaf .nil) .nil) .nil) .nil) (.alt 6 (.alt 4 (.alt 7 (.alt 8 (.alt 9 .leaf .nil) .nil) .nil) .nil) .nil)) (.alt 6 (.alt 0 (.alt 4 (.alt 7 (.alt 8 (.alt 9 .leaf .nil) .nil) .nil) .nil) .nil) .nil)) .nil)) (.alt 5 (.alt 0 (.alt 3 (.alt 4 (.alt 6 (.alt 7 (.alt 8 (.alt 9 .leaf .nil) .nil) .nil) .nil) (.alt 6 (.alt 4 (.alt 7 (.alt 8 (.alt 9 .leaf .nil) .nil) .nil) .nil) .nil)) (.alt 6 (.alt 3 (.alt 4 (.alt 7 (.alt 8 (.alt 9 .leaf .nil) .nil) .nil) .nil) .nil) .nil)) (.alt 3 (.alt 0 (.alt 4 (.alt 6 (.alt 7 (.alt 8 (.alt 9 .leaf .nil) .nil) .nil) .nil) (.alt 6 (.alt 4 (.alt 7 (.alt 8 (.alt 9 .leaf .nil) .nil) .nil) .nil) .nil)) (.alt 6 (.alt 0 (.alt 4 (.alt 7 (.alt 8 (.alt 9 .leaf .nil) .nil) .nil) .nil) .nil) .nil)) (.alt 6 (.alt 0 (.alt 3 (.alt 4 (.alt 7 (.alt 8 (.alt 9 .leaf .nil) .nil) .nil) .nil) .nil) (.alt 3 (.alt 0 (.alt 4 (.alt 7 (.alt 8 (.alt 9 .leaf .nil) .nil) .nil) .nil) .nil) .nil)) .nil))) .nil))) (.alt 5 (.alt 0 (.alt 2 (.alt 3 (.alt 4 (.alt 6 (.alt 7 (.alt 8 (.alt 9 .leaf .nil) .nil) .nil) .nil) (.alt 6 (.alt 4 (.alt 7 (.alt 8 (.alt 9 .leaf .nil) .nil) .nil) .nil) .nil)) (.alt 6 (.alt 3 (.alt 4 (.alt 7 (.alt 8 (.alt 9 .leaf .nil) .nil) .nil) .nil) .nil) .nil)) (.alt 6 (.alt 2 (.alt 3 (.alt 4 (.alt 7 (.alt 8 (.alt 9 .leaf .nil) .nil) .nil) .nil) .nil) .nil) .nil)) (.alt 2 (.alt 0 (.alt 3 (.alt 4 (.alt 6 (.alt 7 (.alt 8 (.alt 9 .leaf .nil) .nil) .nil) .nil) (.alt 6 (.alt 4 (.alt 7 (.alt 8 (.alt 9 .leaf .nil) .nil) .nil) .nil) .nil)) (.alt 6 (.alt 3 (.alt 4 (.alt 7 (.alt 8 (.alt 9 .leaf .nil) .nil) .nil) .nil) .nil) .nil)) (.alt 3 (.alt 0 (.alt 4 (.alt 6 (.alt 7 (.alt 8 (.alt 9 .leaf .nil) .nil) .nil) .nil) (.alt 6 (.alt 4 (.alt 7 (.alt 8 (.alt 9 .leaf .nil) .nil) .nil) .nil) .nil)) (.alt 6 (.alt 0 (.alt 4 (.alt 7 (.alt 8 (.alt 9 .leaf .nil) .nil) .nil) .nil) .nil) .nil)) (.alt 6 (.alt 0 (.alt 3 (.alt 4 (.alt 7 (.alt 8 (.alt 9 .leaf .nil) .nil) .nil) .nil) .nil) (.alt 3 (.alt 0 (.alt 4 (.alt 7 (.alt 8 (.alt 9 .leaf .nil) .nil) .nil) .nil) .nil) .nil)) .nil))) (.alt 6 (.alt 0 (.alt 2 (.alt 3 (.alt 4 (.alt 7 (.alt 8 (.alt 9 .leaf .nil) .nil) .nil) .nil) .nil) .nil) (.alt 2 (.alt 0 (.alt 3 (.alt 4 (.alt 7 (.alt 8 (.alt 9 .leaf .nil) .nil) .nil) .nil) .nil) (.alt 3 (.alt 0 (.alt 4 (.alt 7 (.alt 8 (.alt 9 .leaf .nil) .nil) .nil) .nil) .nil) .nil)) .nil)) .nil))) .nil))) (.alt 5 (.alt 0 (.alt 1 (.alt 2 (.alt 3 (.alt 4 (.alt 6 (.alt 7 (.alt 8 (.alt 9 .leaf .nil) .nil) .nil) .nil) (.alt 6 (.alt 4 (.alt 7 (.alt 8 (.alt 9 .leaf .nil) .nil) .nil) .nil) .nil)) (.alt 6 (.alt 3 (.alt 4 (.alt 7 (.alt 8 (.alt 9 .leaf .nil) .nil) .nil) .nil) .nil) .nil)) (.alt 6 (.alt 2 (.alt 3 (.alt 4 (.alt 7 (.alt 8 (.alt 9 .leaf .nil) .nil) .nil) .nil) .nil) .nil) .nil)) (.alt 6 (.alt 1 (.alt 2 (.alt 3 (.alt 4 (.alt 7 (.alt 8 (.alt 9 .leaf .nil) .nil) .nil) .nil) .nil) .nil) .nil) .nil)) (.alt 1 (.alt 0 (.alt 2 (.alt 3 (.alt 4 (.alt 6 (.alt 7 (.alt 8 (.alt 9 .leaf .nil) .nil) .nil) .nil) (.alt 6 (.alt 4 (.alt 7 (.alt 8 (.alt 9 .leaf .nil) .nil) .nil) .nil) .nil)) (.alt 6 (.alt 3 (.alt 4 (.alt 7 (.alt 8 (.alt 9 .leaf .nil) .nil) .nil) .nil) .nil) .nil)) (.alt 6 (.alt 2 (.alt 3 (.alt 4 (.alt 7 (.alt 8 (.alt 9 .leaf .nil) .nil) .nil) .nil) .nil) .nil) .nil)) (.alt 2 (.alt 0 (.alt 3 (.alt 4 (.alt 6 (.alt 7 (.alt 8 (.alt 9 .leaf .nil) .nil) .nil) .nil) (.alt 6 (.alt 4 (.alt 7 (.alt 8 (.alt 9 .leaf .nil) .nil) .nil) .nil) .nil)) (.alt 6 (.alt 3 (.alt 4 (.alt 7 (.alt 8 (.alt 9 .leaf .nil) .nil) .nil) .nil) .nil) .nil)) (.alt 3 (.alt 0 (.alt 4 (.alt 6 (.alt 7 (.alt 8 (.alt 9 .leaf .nil) .nil) .nil) .nil) (.alt 6 (.alt 4 (.alt 7 (.alt 8 (.alt 9 .leaf .nil) .nil) .nil) .nil) .nil)) (.alt 6 (.alt 0 (.alt 4 (.alt 7 (.alt 8 (.alt 9 .leaf .nil) .nil) .nil) .nil) .nil) .nil)) (.alt 6 (.alt 0 (.alt 3 (.alt 4 (.alt 7 (.alt 8 (.alt 9 .leaf .nil) .nil) .nil) .nil) .nil) (.alt 3 (.alt 0 (.alt 4 (.alt 7 (.alt 8 (.alt 9 .leaf .nil) .nil) .nil) .nil) .nil) .nil)) .nil))) (.alt 6 (.alt 0 (.alt 2 (.alt 3 (.alt 4 (.alt 7 (.alt 8 (.alt 9 .leaf .nil) .nil) .nil) .nil) .nil) .nil) (.alt 2 (.alt 0 (.alt 3 (.alt 4 (.alt 7 (.alt 8 (.alt 9 .leaf .nil) .nil) .nil) .nil) .nil) (.alt 3 (.alt 0 (.alt 4 (.alt 7 (.alt 8 (.alt 9 .leaf .nil) .nil) .nil) .nil) .nil) .nil)) .nil)) .nil))) (.alt 6 (.alt 0 (.alt 1 (.alt 2 (.alt 3 (.alt 4 (.alt 7 (.alt 8 (.alt 9 .leaf .nil) .nil) .nil) .nil) .nil) .nil) .nil) (.alt 1 (.alt 0 (.alt 2 (.alt 3 (.alt 4 (.alt 7 (.alt 8 (.alt 9 .leaf .nil) .nil) .nil) .nil) .nil) .nil) (.alt 2 (.alt 0 (.alt 3 (.alt 4 (.alt 7 (.alt 8 (.alt 9 .leaf .nil) .nil) .nil) .nil) .nil) (.alt 3 (.alt 0 (.alt 4 (.alt 7 (.alt 8 (.alt 9 .leaf .nil) .nil) .nil) .nil) .nil) .nil)) .nil)) .nil)) .nil))) .nil))

theorem flat_call : ∀ (n : Nat) (l : List Nd), Nd.szL l < n → n ≤ 2 ^ 31 → PCall Try.prog 18 [.sl (Nd.avL l)] (.sl (insl (flatL l))) := by
  intro n
  induction n with
  | zero => intro l h; omega
  | succ n ih =>
  intro l hn hN2
  have hal := Nd.len_le l
  have hfl := flatL_len l
  refine PCall.intro Try.func18 rfl isf18 (by simp [Try.f18]) (by simp [AV.cloL, AV.clo]) fun E Q hE hN hQ => K_start ?_
  repeat' (first | refine K_seq ?_ | refine K_blk ?_ | refine AW_skip ?_ | refine AW_exit ?_ | refine Kq_exit_code ?_ | refine Kq_exit_lp ?_ | refine Kq_exit_blk ?_ | refine Kq_exit_ne (by decide) ?_ | refine Kq_norm_code ?_ | refine Kq_norm_blk ?_ | refine Kq_norm_lp ?_ | rw [wrap64 (by omega) (by omega)] | (refine hK _ ?_; clear hK hKp K Kp; (try clear hanc anc)) | (refine hKp _ _ ?_; clear hK hKp K Kp; (try clear hanc anc)) | ((with_reducible refine And.intro ?_ ?_); (focus (first | trivial | omega | (simp only [Fits]; omega) | (refine ⟨?_, ?_⟩ <;> (simp only [Fits]; omega)) | assumption | (rw [hanc]; rfl)))) | ((first | refine K_regA hE fun K Kp hK hKp => ?_ | refine K_drwA false mixed hE fun K Kp hK hKp anc hanc => ?_); simp only [go_sem, ↓reduceIte, reduceCtorEq, Nat.reduceAdd, Nat.reduceMul, Nat.reduceEqDiff, Nat.reduceLT, Nat.reduceLeDiff, Nat.reduceSub, Nat.reduceDiv, Nat.reducePow, Nat.reduceBEq, Int.reduceBEq, Int.reduceBNe, Int.reduceLT, Int.reduceLE, Int.reduceEq]) | ((first | refine onG_split_t (fun hg => ?_) (fun hg => ?_) | refine onG_split_f (fun hg => ?_) (fun hg => ?_)) <;> simp only [go_sem, ↓reduceIte, reduceCtorEq, Nat.reduceAdd, Nat.reduceMul, Nat.reduceEqDiff, Nat.reduceLT, Nat.reduceLeDiff, Nat.reduceSub, Nat.reduceDiv, Nat.reducePow, Nat.reduceBEq, Int.reduceBEq, Int.reduceBNe, Int.reduceLT, Int.reduceLE, Int.reduceEq, hg]) | (refine K_condA (fun hc => ?_) (fun hc => ?_) <;> try (exact absurd hc (by decide))) | (refine K_ret ?_; refine (hQ _ ⟨_, by (try simp only [go_sem, ↓reduceIte, Nat.reduceEqDiff]); rfl, by simp [go_sem], ?_, by first | rfl | assumption⟩).1))
  refine AW_nil 3 7 (by rw [hE]; decide) (by simp only [go_sem, ↓reduceIte, reduceCtorEq, Nat.reduceAdd, Nat.reduceMul, Nat.reduceEqDiff, Nat.reduceLT, Nat.reduceLeDiff, Nat.reduceSub, Nat.reduceDiv, Nat.reducePow, Nat.reduceBEq, Int.reduceBEq, Int.reduceBNe, Int.reduceLT, Int.reduceLE, Int.reduceEq]) ?_
  dsimp only
  refine K_loop (X := Nat × List Ins) (fun x => x.1 ≤ l.length ∧ flatL l = x.2 ++ flatL (l.drop x.1)) (fun x => mkSt [(0, .sl (Nd.avL l)), (3, .rw 0), (4, AV.i x.1)] [(0, .row 7 (insl x.2))] 1) (fun x => l.length - x.1) (0, []) ⟨Nat.zero_le _, rfl⟩ (fun i => 3145728) ?_ ?_
  · refine ent_mk (by simp [go_sem]) (by simp [go_sem]) (by simp) (by simp [hN])
  rintro ⟨i, acc⟩ ⟨hi, ht⟩
  simp only at hi ht
  by_cases hlt : i < l.length
  · obtain ⟨x, hx⟩ := get?_of hlt
    have hxs := Nd.sz_mem (List.mem_of_getElem? hx)
    rw [Nd.sz_eq] at hxs
    have har := Nd.lenL_le x.arms
    rw [drop_of hx, flatL, flatN_eq] at ht
    have h1 := flatL_len x.thn
    have h2 := flatL_len x.els
    have hla : acc.length ≤ Nd.szL l := by have := congrArg List.length ht; simp only [List.length_append] at this; omega
    have hsn : SzOk (Nd.avL l) 12 := szok_nd l
    have hw : (0 : Int) ≤ (i : Int) ∧ (i : Int) ≤ (i : Int) + 1 ∧ ((i : Int) + 1).toNat ≤ l.length := ⟨by omega, by omega, by omega⟩
    have hcut : List.drop i (List.take ((i : Int) + 1).toNat (Nd.avL l)) = Nd.avL [x] := by rw [show ((i : Int) + 1).toNat = i + 1 by omega]; exact cut_one hx
    have hlc := left_call (2 ^ 31) [x] (by simp only [Nd.szL, Nd.sz_eq]; omega) (by omega)
    rw [leftL_one, ← hcut] at hlc
    have hk5 : x.kind = 1 ∨ x.kind = 2 ∨ x.kind = 3 ∨ x.kind = 4 ∨ (x.kind ≠ 1 ∧ x.kind ≠ 2 ∧ x.kind ≠ 3 ∧ x.kind ≠ 4) := by omega
    rcases hk5 with hk | hk | hk | hk | ⟨hk1, hk2, hk3, hk4⟩
    · have kk : (x.kind == 1) = true := by simpa using hk
      rw [if_pos hk] at ht
      repeat' (first | refine K_seq ?_ | refine K_blk ?_ | refine AW_skip ?_ | refine AW_exit ?_ | refine Kq_exit_code ?_ | refine Kq_exit_lp ?_ | refine Kq_exit_blk ?_ | refine Kq_exit_ne (by decide) ?_ | refine Kq_norm_code ?_ | refine Kq_norm_blk ?_ | refine Kq_norm_lp ?_ | rw [wrap64 (by omega) (by omega)] | (refine hK _ ?_; clear hK hKp K Kp; (try clear hanc anc)) | (refine hKp _ _ ?_; clear hK hKp K Kp; (try clear hanc anc)) | ((with_reducible refine And.intro ?_ ?_); (focus (first | trivial | omega | (simp only [Fits]; omega) | (refine ⟨?_, ?_⟩ <;> (simp only [Fits]; omega)) | assumption | (rw [hanc]; rfl)))) | ((first | refine K_regA hE fun K Kp hK hKp => ?_ | refine K_drwA true mixed hE fun K Kp hK hKp anc hanc => ?_ | refine K_drwA false mixed hE fun K Kp hK hKp anc hanc => ?_); simp only [go_sem, ↓reduceIte, reduceCtorEq, Nat.reduceAdd, Nat.reduceMul, Nat.reduceEqDiff, Nat.reduceLT, Nat.reduceLeDiff, Nat.reduceSub, Nat.reduceDiv, Nat.reducePow, Nat.reduceBEq, Int.reduceBEq, Int.reduceBNe, Int.reduceLT, Int.reduceLE, Int.reduceEq, lt_dec hlt, hx, Nd.av_eq, hk]) | ((first | refine onG_split_t (fun hg => ?_) (fun hg => ?_) | refine onG_split_f (fun hg => ?_) (fun hg => ?_)) <;> simp only [go_sem, ↓reduceIte, reduceCtorEq, Nat.reduceAdd, Nat.reduceMul, Nat.reduceEqDiff, Nat.reduceLT, Nat.reduceLeDiff, Nat.reduceSub, Nat.reduceDiv, Nat.reducePow, Nat.reduceBEq, Int.reduceBEq, Int.reduceBNe, Int.reduceLT, Int.reduceLE, Int.reduceEq, lt_dec hlt, hx, Nd.av_eq, hk, hg]) | (refine K_condA (fun hc => ?_) (fun hc => ?_) <;> try (exact absurd hc (by decide))))
      cases hlf : leftN x
      · rw [hlf] at hlc
        rw [if_neg (by simp [hlf]), List.append_nil] at ht
        repeat' (first | refine K_seq ?_ | refine K_blk ?_ | refine AW_skip ?_ | refine AW_exit ?_ | refine Kq_exit_code ?_ | refine Kq_exit_lp ?_ | refine Kq_exit_blk ?_ | refine Kq_exit_ne (by decide) ?_ | refine Kq_norm_code ?_ | refine Kq_norm_blk ?_ | refine Kq_norm_lp ?_ | rw [wrap64 (by omega) (by omega)] | (refine hK _ ?_; clear hK hKp K Kp; (try clear hanc anc)) | (refine hKp _ _ ?_; clear hK hKp K Kp; (try clear hanc anc)) | ((with_reducible refine And.intro ?_ ?_); (focus (first | trivial | omega | (simp only [Fits]; omega) | (refine ⟨?_, ?_⟩ <;> (simp only [Fits]; omega)) | assumption | (rw [hanc]; rfl)))) | ((first | refine K_regA hE fun K Kp hK hKp => ?_ | refine K_drwA true mixed hE fun K Kp hK hKp anc hanc => ?_ | refine K_drwA false mixed hE fun K Kp hK hKp anc hanc => ?_ | ((first | apply CallP_mk | apply CallB_mk); (focus (simp only [go_sem]; rfl)); (focus (exact hlc)); (focus (simp [go_sem])); (focus (first | exact .inl rfl | (right; simp [go_sem]))))); simp only [go_sem, ↓reduceIte, reduceCtorEq, Nat.reduceAdd, Nat.reduceMul, Nat.reduceEqDiff, Nat.reduceLT, Nat.reduceLeDiff, Nat.reduceSub, Nat.reduceDiv, Nat.reducePow, Nat.reduceBEq, Int.reduceBEq, Int.reduceBNe, Int.reduceLT, Int.reduceLE, Int.reduceEq, hlf]) | ((first | refine onG_split_t (fun hg => ?_) (fun hg => ?_) | refine onG_split_f (fun hg => ?_) (fun hg => ?_)) <;> simp only [go_sem, ↓reduceIte, reduceCtorEq, Nat.reduceAdd, Nat.reduceMul, Nat.reduceEqDiff, Nat.reduceLT, Nat.reduceLeDiff, Nat.reduceSub, Nat.reduceDiv, Nat.reducePow, Nat.reduceBEq, Int.reduceBEq, Int.reduceBNe, Int.reduceLT, Int.reduceLE, Int.reduceEq, hlf, hg]) | (refine K_condA (fun hc => ?_) (fun hc => ?_) <;> try (exact absurd hc (by decide))))
        refine K_ret (hQ _ ⟨.rw 18874369, resA_tmp (by simp only [go_sem, ↓reduceIte, reduceCtorEq, Nat.reduceAdd, Nat.reduceMul, Nat.reduceEqDiff, Nat.reduceLT, Nat.reduceLeDiff, Nat.reduceSub, Nat.reduceDiv, Nat.reducePow, Nat.reduceBEq, Int.reduceBEq, Int.reduceBNe, Int.reduceLT, Int.reduceLE, Int.reduceEq]), ?_, ?_, rfl⟩).1
        · simp only [go_sem, AV.snapOk, ↓reduceIte, Nat.reduceEqDiff]
          exact clo_ins _
        · simp [go_sem, AV.snap, ht, Ins.av]
      · rw [hlf] at hlc
        rw [if_pos hlf] at ht
        repeat' (first | refine K_seq ?_ | refine K_blk ?_ | refine AW_skip ?_ | refine AW_exit ?_ | refine Kq_exit_code ?_ | refine Kq_exit_lp ?_ | refine Kq_exit_blk ?_ | refine Kq_exit_ne (by decide) ?_ | refine Kq_norm_code ?_ | refine Kq_norm_blk ?_ | refine Kq_norm_lp ?_ | rw [wrap64 (by omega) (by omega)] | (refine hK _ ?_; clear hK hKp K Kp; (try clear hanc anc)) | (refine hKp _ _ ?_; clear hK hKp K Kp; (try clear hanc anc)) | ((with_reducible refine And.intro ?_ ?_); (focus (first | trivial | omega | (simp only [Fits]; omega) | (refine ⟨?_, ?_⟩ <;> (simp only [Fits]; omega)) | assumption | (rw [hanc]; rfl)))) | ((first | refine K_regA hE fun K Kp hK hKp => ?_ | refine K_drwA true mixed hE fun K Kp hK hKp anc hanc => ?_ | refine K_drwA false mixed hE fun K Kp hK hKp anc hanc => ?_ | ((first | apply CallP_mk | apply CallB_mk); (focus (simp only [go_sem]; rfl)); (focus (exact hlc)); (focus (simp [go_sem])); (focus (first | exact .inl rfl | (right; simp [go_sem]))))); simp only [go_sem, ↓reduceIte, reduceCtorEq, Nat.reduceAdd, Nat.reduceMul, Nat.reduceEqDiff, Nat.reduceLT, Nat.reduceLeDiff, Nat.reduceSub, Nat.reduceDiv, Nat.reducePow, Nat.reduceBEq, Int.reduceBEq, Int.reduceBNe, Int.reduceLT, Int.reduceLE, Int.reduceEq, hlf]) | ((first | refine onG_split_t (fun hg => ?_) (fun hg => ?_) | refine onG_split_f (fun hg => ?_) (fun hg => ?_)) <;> simp only [go_sem, ↓reduceIte, reduceCtorEq, Nat.reduceAdd, Nat.reduceMul, Nat.reduceEqDiff, Nat.reduceLT, Nat.reduceLeDiff, Nat.reduceSub, Nat.reduceDiv, Nat.reducePow, Nat.reduceBEq, Int.reduceBEq, Int.reduceBNe, Int.reduceLT, Int.reduceLE, Int.reduceEq, hlf, hg]) | (refine K_condA (fun hc => ?_) (fun hc => ?_) <;> try (exact absurd hc (by decide))))
        refine ⟨(i + 1, acc ++ [x.ins]), ⟨by simp only; omega, by simp only; rw [ht]; simp⟩, by simp only; omega, fun _ => 18874369, ?_⟩
        refine ent_mk (by simp [go_sem, Ins.av]) (by simp [go_sem, Ins.av]) (by simp) (by simp [hN])
    · have kk : (x.kind == 2) = true := by simpa using hk
      rw [if_neg (by omega), if_pos hk] at ht
      repeat' (first | refine K_seq ?_ | refine K_blk ?_ | refine AW_skip ?_ | refine AW_exit ?_ | refine Kq_exit_code ?_ | refine Kq_exit_lp ?_ | refine Kq_exit_blk ?_ | refine Kq_exit_ne (by decide) ?_ | refine Kq_norm_code ?_ | refine Kq_norm_blk ?_ | refine Kq_norm_lp ?_ | rw [wrap64 (by omega) (by omega)] | (refine hK _ ?_; clear hK hKp K Kp; (try clear hanc anc)) | (refine hKp _ _ ?_; clear hK hKp K Kp; (try clear hanc anc)) | ((with_reducible refine And.intro ?_ ?_); (focus (first | trivial | omega | (simp only [Fits]; omega) | (refine ⟨?_, ?_⟩ <;> (simp only [Fits]; omega)) | assumption | (rw [hanc]; rfl)))) | ((first | refine K_regA hE fun K Kp hK hKp => ?_ | refine K_drwA true mixed hE fun K Kp hK hKp anc hanc => ?_ | refine K_drwA false mixed hE fun K Kp hK hKp anc hanc => ?_); simp only [go_sem, ↓reduceIte, reduceCtorEq, Nat.reduceAdd, Nat.reduceMul, Nat.reduceEqDiff, Nat.reduceLT, Nat.reduceLeDiff, Nat.reduceSub, Nat.reduceDiv, Nat.reducePow, Nat.reduceBEq, Int.reduceBEq, Int.reduceBNe, Int.reduceLT, Int.reduceLE, Int.reduceEq, lt_dec hlt, hx, Nd.av_eq, hk]) | ((first | refine onG_split_t (fun hg => ?_) (fun hg => ?_) | refine onG_split_f (fun hg => ?_) (fun hg => ?_)) <;> simp only [go_sem, ↓reduceIte, reduceCtorEq, Nat.reduceAdd, Nat.reduceMul, Nat.reduceEqDiff, Nat.reduceLT, Nat.reduceLeDiff, Nat.reduceSub, Nat.reduceDiv, Nat.reducePow, Nat.reduceBEq, Int.reduceBEq, Int.reduceBNe, Int.reduceLT, Int.reduceLE, Int.reduceEq, lt_dec hlt, hx, Nd.av_eq, hk, hg]) | (refine K_condA (fun hc => ?_) (fun hc => ?_) <;> try (exact absurd hc (by decide))))
      refine K_allG (mkSt [(0, .sl (Nd.avL l)), (3, .rw 0), (4, AV.i i), (5, .ptr 1 0)] [(0, .row 7 (insl (acc ++ flatL x.thn ++ flatL x.els))), (1, .cells (Nd.cs x))] 2) fT10 mixed hE (fun σ m he => ?_) fun Kp hKp => ?_
      rotate_left
      · unfold fT10
        have hs1 := szok_ins (flatL x.thn)
        have hs2 := szok_ins (flatL x.els)
        repeat' (first | refine goTr_one rfl ?_ | refine goTr_alt rfl ?_ ?_ | simp only [go_sem, ↓reduceIte, reduceCtorEq, Nat.reduceAdd, Nat.reduceMul, Nat.reduceEqDiff, Nat.reduceLT, Nat.reduceLeDiff, Nat.reduceSub, Nat.reduceDiv, Nat.reducePow, Nat.reduceBEq, Int.reduceBEq, Int.reduceBNe, Int.reduceLT, Int.reduceLE, Int.reduceEq] | (refine ⟨⟨(by assumption), (by simp only [Fits]; omega)⟩, ?_⟩) | (apply CallB_mk; (focus (simp only [go_sem]; rfl)); (focus (first | exact ih x.thn (by omega) (by omega) | exact ih x.els (by omega) (by omega))); (focus (simp [go_sem])); (focus (right; simp [go_sem]))))
        all_goals
          refine ⟨fun i => if i = 0 then 25165825 else 8388609, ?_⟩
          show Ent E.np _ _ (mkSt [(0, .sl (Nd.avL l)), (3, .rw 0), (4, AV.i i), (5, .ptr 1 0)] [(0, .row 7 (insl (acc ++ flatL x.thn ++ flatL x.els))), (1, .cells (Nd.cs x))] 2)
          refine ent_mk (by simp [go_sem, Nd.cs, hk]) (by simp [go_sem, Nd.cs, hk]) (by simp) (by simp [hN])
      · refine Kq_norm_blk ?_
        repeat (first | refine Kq_norm_code ?_ | refine Kq_norm_blk ?_)
        refine AW.ent m he ?_
        repeat' (first | refine K_seq ?_ | refine K_blk ?_ | refine AW_skip ?_ | refine AW_exit ?_ | refine Kq_exit_code ?_ | refine Kq_exit_lp ?_ | refine Kq_exit_blk ?_ | refine Kq_exit_ne (by decide) ?_ | refine Kq_norm_code ?_ | refine Kq_norm_blk ?_ | refine Kq_norm_lp ?_ | rw [wrap64 (by omega) (by omega)] | (refine hK _ ?_; clear hK hKp K Kp; (try clear hanc anc)) | (refine hKp _ _ ?_; clear hK hKp K Kp; (try clear hanc anc)) | ((with_reducible refine And.intro ?_ ?_); (focus (first | trivial | omega | (simp only [Fits]; omega) | (refine ⟨?_, ?_⟩ <;> (simp only [Fits]; omega)) | assumption | (rw [hanc]; rfl)))) | ((first | refine K_regA hE fun K Kp hK hKp => ?_ | refine K_drwA true mixed hE fun K Kp hK hKp anc hanc => ?_ | refine K_drwA false mixed hE fun K Kp hK hKp anc hanc => ?_); simp only [go_sem, ↓reduceIte, reduceCtorEq, Nat.reduceAdd, Nat.reduceMul, Nat.reduceEqDiff, Nat.reduceLT, Nat.reduceLeDiff, Nat.reduceSub, Nat.reduceDiv, Nat.reducePow, Nat.reduceBEq, Int.reduceBEq, Int.reduceBNe, Int.reduceLT, Int.reduceLE, Int.reduceEq, Nd.cs]) | ((first | refine onG_split_t (fun hg => ?_) (fun hg => ?_) | refine onG_split_f (fun hg => ?_) (fun hg => ?_)) <;> simp only [go_sem, ↓reduceIte, reduceCtorEq, Nat.reduceAdd, Nat.reduceMul, Nat.reduceEqDiff, Nat.reduceLT, Nat.reduceLeDiff, Nat.reduceSub, Nat.reduceDiv, Nat.reducePow, Nat.reduceBEq, Int.reduceBEq, Int.reduceBNe, Int.reduceLT, Int.reduceLE, Int.reduceEq, Nd.cs, hg]) | (refine K_condA (fun hc => ?_) (fun hc => ?_) <;> try (exact absurd hc (by decide))))
        cases hlf : leftN x
        · rw [hlf] at hlc
          rw [if_neg (by simp [hlf]), List.append_nil] at ht
          repeat' (first | refine K_seq ?_ | refine K_blk ?_ | refine AW_skip ?_ | refine AW_exit ?_ | refine Kq_exit_code ?_ | refine Kq_exit_lp ?_ | refine Kq_exit_blk ?_ | refine Kq_exit_ne (by decide) ?_ | refine Kq_norm_code ?_ | refine Kq_norm_blk ?_ | refine Kq_norm_lp ?_ | rw [wrap64 (by omega) (by omega)] | (refine hK _ ?_; clear hK hKp K Kp; (try clear hanc anc)) | (refine hKp _ _ ?_; clear hK hKp K Kp; (try clear hanc anc)) | ((with_reducible refine And.intro ?_ ?_); (focus (first | trivial | omega | (simp only [Fits]; omega) | (refine ⟨?_, ?_⟩ <;> (simp only [Fits]; omega)) | assumption | (rw [hanc]; rfl)))) | ((first | refine K_regA hE fun K Kp hK hKp => ?_ | refine K_drwA true mixed hE fun K Kp hK hKp anc hanc => ?_ | refine K_drwA false mixed hE fun K Kp hK hKp anc hanc => ?_ | ((first | apply CallP_mk | apply CallB_mk); (focus (simp only [go_sem]; rfl)); (focus (exact hlc)); (focus (simp [go_sem])); (focus (first | exact .inl rfl | (right; simp [go_sem]))))); simp only [go_sem, ↓reduceIte, reduceCtorEq, Nat.reduceAdd, Nat.reduceMul, Nat.reduceEqDiff, Nat.reduceLT, Nat.reduceLeDiff, Nat.reduceSub, Nat.reduceDiv, Nat.reducePow, Nat.reduceBEq, Int.reduceBEq, Int.reduceBNe, Int.reduceLT, Int.reduceLE, Int.reduceEq, hlf]) | ((first | refine onG_split_t (fun hg => ?_) (fun hg => ?_) | refine onG_split_f (fun hg => ?_) (fun hg => ?_)) <;> simp only [go_sem, ↓reduceIte, reduceCtorEq, Nat.reduceAdd, Nat.reduceMul, Nat.reduceEqDiff, Nat.reduceLT, Nat.reduceLeDiff, Nat.reduceSub, Nat.reduceDiv, Nat.reducePow, Nat.reduceBEq, Int.reduceBEq, Int.reduceBNe, Int.reduceLT, Int.reduceLE, Int.reduceEq, hlf, hg]) | (refine K_condA (fun hc => ?_) (fun hc => ?_) <;> try (exact absurd hc (by decide))))
          refine K_ret (hQ _ ⟨.rw 0, resA_tmp (by simp only [go_sem, ↓reduceIte, reduceCtorEq, Nat.reduceAdd, Nat.reduceMul, Nat.reduceEqDiff, Nat.reduceLT, Nat.reduceLeDiff, Nat.reduceSub, Nat.reduceDiv, Nat.reducePow, Nat.reduceBEq, Int.reduceBEq, Int.reduceBNe, Int.reduceLT, Int.reduceLE, Int.reduceEq]), ?_, ?_, rfl⟩).1
          · simp only [go_sem, AV.snapOk, ↓reduceIte, Nat.reduceEqDiff]
            exact clo_ins _
          · simp [go_sem, AV.snap, ht, Ins.av]
        · rw [hlf] at hlc
          rw [if_pos hlf] at ht
          repeat' (first | refine K_seq ?_ | refine K_blk ?_ | refine AW_skip ?_ | refine AW_exit ?_ | refine Kq_exit_code ?_ | refine Kq_exit_lp ?_ | refine Kq_exit_blk ?_ | refine Kq_exit_ne (by decide) ?_ | refine Kq_norm_code ?_ | refine Kq_norm_blk ?_ | refine Kq_norm_lp ?_ | rw [wrap64 (by omega) (by omega)] | (refine hK _ ?_; clear hK hKp K Kp; (try clear hanc anc)) | (refine hKp _ _ ?_; clear hK hKp K Kp; (try clear hanc anc)) | ((with_reducible refine And.intro ?_ ?_); (focus (first | trivial | omega | (simp only [Fits]; omega) | (refine ⟨?_, ?_⟩ <;> (simp only [Fits]; omega)) | assumption | (rw [hanc]; rfl)))) | ((first | refine K_regA hE fun K Kp hK hKp => ?_ | refine K_drwA true mixed hE fun K Kp hK hKp anc hanc => ?_ | refine K_drwA false mixed hE fun K Kp hK hKp anc hanc => ?_ | ((first | apply CallP_mk | apply CallB_mk); (focus (simp only [go_sem]; rfl)); (focus (exact hlc)); (focus (simp [go_sem])); (focus (first | exact .inl rfl | (right; simp [go_sem]))))); simp only [go_sem, ↓reduceIte, reduceCtorEq, Nat.reduceAdd, Nat.reduceMul, Nat.reduceEqDiff, Nat.reduceLT, Nat.reduceLeDiff, Nat.reduceSub, Nat.reduceDiv, Nat.reducePow, Nat.reduceBEq, Int.reduceBEq, Int.reduceBNe, Int.reduceLT, Int.reduceLE, Int.reduceEq, hlf]) | ((first | refine onG_split_t (fun hg => ?_) (fun hg => ?_) | refine onG_split_f (fun hg => ?_) (fun hg => ?_)) <;> simp only [go_sem, ↓reduceIte, reduceCtorEq, Nat.reduceAdd, Nat.reduceMul, Nat.reduceEqDiff, Nat.reduceLT, Nat.reduceLeDiff, Nat.reduceSub, Nat.reduceDiv, Nat.reducePow, Nat.reduceBEq, Int.reduceBEq, Int.reduceBNe, Int.reduceLT, Int.reduceLE, Int.reduceEq, hlf, hg]) | (refine K_condA (fun hc => ?_) (fun hc => ?_) <;> try (exact absurd hc (by decide))))
          refine ⟨(i + 1, acc ++ flatL x.thn ++ flatL x.els), ⟨by simp only; omega, by simp only; rw [ht]; simp⟩, by simp only; omega, fun _ => 0, ?_⟩
          refine ent_mk (by simp [go_sem, Ins.av]) (by simp [go_sem, Ins.av]) (by simp) (by simp [hN])
    · have kk : (x.kind == 3) = true := by simpa using hk
      rw [if_neg (by omega), if_neg (by omega), if_pos hk] at ht
      repeat' (first | refine K_seq ?_ | refine K_blk ?_ | refine AW_skip ?_ | refine AW_exit ?_ | refine Kq_exit_code ?_ | refine Kq_exit_lp ?_ | refine Kq_exit_blk ?_ | refine Kq_exit_ne (by decide) ?_ | refine Kq_norm_code ?_ | refine Kq_norm_blk ?_ | refine Kq_norm_lp ?_ | rw [wrap64 (by omega) (by omega)] | (refine hK _ ?_; clear hK hKp K Kp; (try clear hanc anc)) | (refine hKp _ _ ?_; clear hK hKp K Kp; (try clear hanc anc)) | ((with_reducible refine And.intro ?_ ?_); (focus (first | trivial | omega | (simp only [Fits]; omega) | (refine ⟨?_, ?_⟩ <;> (simp only [Fits]; omega)) | assumption | (rw [hanc]; rfl)))) | ((first | refine K_regA hE fun K Kp hK hKp => ?_ | refine K_drwA true mixed hE fun K Kp hK hKp anc hanc => ?_ | refine K_drwA false mixed hE fun K Kp hK hKp anc hanc => ?_ | ((first | apply CallP_mk | apply CallB_mk); (focus (simp only [go_sem]; rfl)); (focus (exact ih x.thn (by omega) (by omega))); (focus (simp [go_sem])); (focus (first | exact .inl rfl | (right; simp [go_sem]))))); simp only [go_sem, ↓reduceIte, reduceCtorEq, Nat.reduceAdd, Nat.reduceMul, Nat.reduceEqDiff, Nat.reduceLT, Nat.reduceLeDiff, Nat.reduceSub, Nat.reduceDiv, Nat.reducePow, Nat.reduceBEq, Int.reduceBEq, Int.reduceBNe, Int.reduceLT, Int.reduceLE, Int.reduceEq, lt_dec hlt, hx, Nd.av_eq, hk]) | ((first | refine onG_split_t (fun hg => ?_) (fun hg => ?_) | refine onG_split_f (fun hg => ?_) (fun hg => ?_)) <;> simp only [go_sem, ↓reduceIte, reduceCtorEq, Nat.reduceAdd, Nat.reduceMul, Nat.reduceEqDiff, Nat.reduceLT, Nat.reduceLeDiff, Nat.reduceSub, Nat.reduceDiv, Nat.reducePow, Nat.reduceBEq, Int.reduceBEq, Int.reduceBNe, Int.reduceLT, Int.reduceLE, Int.reduceEq, lt_dec hlt, hx, Nd.av_eq, hk, hg]) | (refine K_condA (fun hc => ?_) (fun hc => ?_) <;> try (exact absurd hc (by decide))))
      refine ⟨⟨szok_ins _, (by simp only [Fits]; omega)⟩, ?_⟩
      repeat' (first | refine K_seq ?_ | refine K_blk ?_ | refine AW_skip ?_ | refine AW_exit ?_ | refine Kq_exit_code ?_ | refine Kq_exit_lp ?_ | refine Kq_exit_blk ?_ | refine Kq_exit_ne (by decide) ?_ | refine Kq_norm_code ?_ | refine Kq_norm_blk ?_ | refine Kq_norm_lp ?_ | rw [wrap64 (by omega) (by omega)] | (refine hK _ ?_; clear hK hKp K Kp; (try clear hanc anc)) | (refine hKp _ _ ?_; clear hK hKp K Kp; (try clear hanc anc)) | ((with_reducible refine And.intro ?_ ?_); (focus (first | trivial | omega | (simp only [Fits]; omega) | (refine ⟨?_, ?_⟩ <;> (simp only [Fits]; omega)) | assumption | (rw [hanc]; rfl)))) | ((first | refine K_regA hE fun K Kp hK hKp => ?_ | refine K_drwA true mixed hE fun K Kp hK hKp anc hanc => ?_ | refine K_drwA false mixed hE fun K Kp hK hKp anc hanc => ?_); simp only [go_sem, ↓reduceIte, reduceCtorEq, Nat.reduceAdd, Nat.reduceMul, Nat.reduceEqDiff, Nat.reduceLT, Nat.reduceLeDiff, Nat.reduceSub, Nat.reduceDiv, Nat.reducePow, Nat.reduceBEq, Int.reduceBEq, Int.reduceBNe, Int.reduceLT, Int.reduceLE, Int.reduceEq]) | ((first | refine onG_split_t (fun hg => ?_) (fun hg => ?_) | refine onG_split_f (fun hg => ?_) (fun hg => ?_)) <;> simp only [go_sem, ↓reduceIte, reduceCtorEq, Nat.reduceAdd, Nat.reduceMul, Nat.reduceEqDiff, Nat.reduceLT, Nat.reduceLeDiff, Nat.reduceSub, Nat.reduceDiv, Nat.reducePow, Nat.reduceBEq, Int.reduceBEq, Int.reduceBNe, Int.reduceLT, Int.reduceLE, Int.reduceEq, hg]) | (refine K_condA (fun hc => ?_) (fun hc => ?_) <;> try (exact absurd hc (by decide))))
      cases hlf : leftN x
      · rw [hlf] at hlc
        rw [if_neg (by simp [hlf]), List.append_nil] at ht
        repeat' (first | refine K_seq ?_ | refine K_blk ?_ | refine AW_skip ?_ | refine AW_exit ?_ | refine Kq_exit_code ?_ | refine Kq_exit_lp ?_ | refine Kq_exit_blk ?_ | refine Kq_exit_ne (by decide) ?_ | refine Kq_norm_code ?_ | refine Kq_norm_blk ?_ | refine Kq_norm_lp ?_ | rw [wrap64 (by omega) (by omega)] | (refine hK _ ?_; clear hK hKp K Kp; (try clear hanc anc)) | (refine hKp _ _ ?_; clear hK hKp K Kp; (try clear hanc anc)) | ((with_reducible refine And.intro ?_ ?_); (focus (first | trivial | omega | (simp only [Fits]; omega) | (refine ⟨?_, ?_⟩ <;> (simp only [Fits]; omega)) | assumption | (rw [hanc]; rfl)))) | ((first | refine K_regA hE fun K Kp hK hKp => ?_ | refine K_drwA true mixed hE fun K Kp hK hKp anc hanc => ?_ | refine K_drwA false mixed hE fun K Kp hK hKp anc hanc => ?_ | ((first | apply CallP_mk | apply CallB_mk); (focus (simp only [go_sem]; rfl)); (focus (exact hlc)); (focus (simp [go_sem])); (focus (first | exact .inl rfl | (right; simp [go_sem]))))); simp only [go_sem, ↓reduceIte, reduceCtorEq, Nat.reduceAdd, Nat.reduceMul, Nat.reduceEqDiff, Nat.reduceLT, Nat.reduceLeDiff, Nat.reduceSub, Nat.reduceDiv, Nat.reducePow, Nat.reduceBEq, Int.reduceBEq, Int.reduceBNe, Int.reduceLT, Int.reduceLE, Int.reduceEq, hlf]) | ((first | refine onG_split_t (fun hg => ?_) (fun hg => ?_) | refine onG_split_f (fun hg => ?_) (fun hg => ?_)) <;> simp only [go_sem, ↓reduceIte, reduceCtorEq, Nat.reduceAdd, Nat.reduceMul, Nat.reduceEqDiff, Nat.reduceLT, Nat.reduceLeDiff, Nat.reduceSub, Nat.reduceDiv, Nat.reducePow, Nat.reduceBEq, Int.reduceBEq, Int.reduceBNe, Int.reduceLT, Int.reduceLE, Int.reduceEq, hlf, hg]) | (refine K_condA (fun hc => ?_) (fun hc => ?_) <;> try (exact absurd hc (by decide))))
        refine K_ret (hQ _ ⟨.rw 23068673, resA_tmp (by simp only [go_sem, ↓reduceIte, reduceCtorEq, Nat.reduceAdd, Nat.reduceMul, Nat.reduceEqDiff, Nat.reduceLT, Nat.reduceLeDiff, Nat.reduceSub, Nat.reduceDiv, Nat.reducePow, Nat.reduceBEq, Int.reduceBEq, Int.reduceBNe, Int.reduceLT, Int.reduceLE, Int.reduceEq]), ?_, ?_, rfl⟩).1
        · simp only [go_sem, AV.snapOk, ↓reduceIte, Nat.reduceEqDiff]
          exact clo_ins _
        · simp [go_sem, AV.snap, ht, Ins.av]
      · rw [hlf] at hlc
        rw [if_pos hlf] at ht
        repeat' (first | refine K_seq ?_ | refine K_blk ?_ | refine AW_skip ?_ | refine AW_exit ?_ | refine Kq_exit_code ?_ | refine Kq_exit_lp ?_ | refine Kq_exit_blk ?_ | refine Kq_exit_ne (by decide) ?_ | refine Kq_norm_code ?_ | refine Kq_norm_blk ?_ | refine Kq_norm_lp ?_ | rw [wrap64 (by omega) (by omega)] | (refine hK _ ?_; clear hK hKp K Kp; (try clear hanc anc)) | (refine hKp _ _ ?_; clear hK hKp K Kp; (try clear hanc anc)) | ((with_reducible refine And.intro ?_ ?_); (focus (first | trivial | omega | (simp only [Fits]; omega) | (refine ⟨?_, ?_⟩ <;> (simp only [Fits]; omega)) | assumption | (rw [hanc]; rfl)))) | ((first | refine K_regA hE fun K Kp hK hKp => ?_ | refine K_drwA true mixed hE fun K Kp hK hKp anc hanc => ?_ | refine K_drwA false mixed hE fun K Kp hK hKp anc hanc => ?_ | ((first | apply CallP_mk | apply CallB_mk); (focus (simp only [go_sem]; rfl)); (focus (exact hlc)); (focus (simp [go_sem])); (focus (first | exact .inl rfl | (right; simp [go_sem]))))); simp only [go_sem, ↓reduceIte, reduceCtorEq, Nat.reduceAdd, Nat.reduceMul, Nat.reduceEqDiff, Nat.reduceLT, Nat.reduceLeDiff, Nat.reduceSub, Nat.reduceDiv, Nat.reducePow, Nat.reduceBEq, Int.reduceBEq, Int.reduceBNe, Int.reduceLT, Int.reduceLE, Int.reduceEq, hlf]) | ((first | refine onG_split_t (fun hg => ?_) (fun hg => ?_) | refine onG_split_f (fun hg => ?_) (fun hg => ?_)) <;> simp only [go_sem, ↓reduceIte, reduceCtorEq, Nat.reduceAdd, Nat.reduceMul, Nat.reduceEqDiff, Nat.reduceLT, Nat.reduceLeDiff, Nat.reduceSub, Nat.reduceDiv, Nat.reducePow, Nat.reduceBEq, Int.reduceBEq, Int.reduceBNe, Int.reduceLT, Int.reduceLE, Int.reduceEq, hlf, hg]) | (refine K_condA (fun hc => ?_) (fun hc => ?_) <;> try (exact absurd hc (by decide))))
        refine ⟨(i + 1, acc ++ flatL x.thn), ⟨by simp only; omega, by simp only; rw [ht]; simp⟩, by simp only; omega, fun _ => 23068673, ?_⟩
        refine ent_mk (by simp [go_sem, Ins.av]) (by simp [go_sem, Ins.av]) (by simp) (by simp [hN])
    · have kk : (x.kind == 4) = true := by simpa using hk
      rw [if_neg (by omega), if_neg (by omega), if_neg (by omega), if_pos hk] at ht
      repeat' (first | refine K_seq ?_ | refine K_blk ?_ | refine AW_skip ?_ | refine AW_exit ?_ | refine Kq_exit_code ?_ | refine Kq_exit_lp ?_ | refine Kq_exit_blk ?_ | refine Kq_exit_ne (by decide) ?_ | refine Kq_norm_code ?_ | refine Kq_norm_blk ?_ | refine Kq_norm_lp ?_ | rw [wrap64 (by omega) (by omega)] | (refine hK _ ?_; clear hK hKp K Kp; (try clear hanc anc)) | (refine hKp _ _ ?_; clear hK hKp K Kp; (try clear hanc anc)) | ((with_reducible refine And.intro ?_ ?_); (focus (first | trivial | omega | (simp only [Fits]; omega) | (refine ⟨?_, ?_⟩ <;> (simp only [Fits]; omega)) | assumption | (rw [hanc]; rfl)))) | ((first | refine K_regA hE fun K Kp hK hKp => ?_ | refine K_drwA true mixed hE fun K Kp hK hKp anc hanc => ?_ | refine K_drwA false mixed hE fun K Kp hK hKp anc hanc => ?_); simp only [go_sem, ↓reduceIte, reduceCtorEq, Nat.reduceAdd, Nat.reduceMul, Nat.reduceEqDiff, Nat.reduceLT, Nat.reduceLeDiff, Nat.reduceSub, Nat.reduceDiv, Nat.reducePow, Nat.reduceBEq, Int.reduceBEq, Int.reduceBNe, Int.reduceLT, Int.reduceLE, Int.reduceEq, lt_dec hlt, hx, Nd.av_eq, hk]) | ((first | refine onG_split_t (fun hg => ?_) (fun hg => ?_) | refine onG_split_f (fun hg => ?_) (fun hg => ?_)) <;> simp only [go_sem, ↓reduceIte, reduceCtorEq, Nat.reduceAdd, Nat.reduceMul, Nat.reduceEqDiff, Nat.reduceLT, Nat.reduceLeDiff, Nat.reduceSub, Nat.reduceDiv, Nat.reducePow, Nat.reduceBEq, Int.reduceBEq, Int.reduceBNe, Int.reduceLT, Int.reduceLE, Int.reduceEq, lt_dec hlt, hx, Nd.av_eq, hk, hg]) | (refine K_condA (fun hc => ?_) (fun hc => ?_) <;> try (exact absurd hc (by decide))))
      refine K_loop (X := Nat × List Ins) (fun y => y.1 ≤ x.arms.length ∧ flatP x.arms = y.2 ++ flatP (x.arms.drop y.1)) (fun y => mkSt [(0, .sl (Nd.avL l)), (3, .rw 0), (4, AV.i i), (5, .ptr 1 0), (6, AV.i y.1)] [(0, .row 7 (insl (acc ++ y.2))), (1, .cells (Nd.cs x))] 2) (fun y => x.arms.length - y.1) (0, []) ⟨Nat.zero_le _, rfl⟩ (fun i => if i = 0 then 0 else 8388609) ?_ ?_
      · refine ent_mk (by simp [go_sem, Nd.cs, hk]) (by simp [go_sem, Nd.cs, hk]) (by simp) (by simp [hN])
      rintro ⟨k, ac2⟩ ⟨ki, kt⟩
      simp only at ki kt
      have hfp := flatP_len x.arms
      by_cases klt : k < x.arms.length
      · obtain ⟨p, hp⟩ := get?_of klt
        have hps := Nd.szL_mem (List.mem_of_getElem? hp)
        have hl2 : ac2.length ≤ Nd.szLL x.arms := by have := congrArg List.length kt; simp only [List.length_append] at this; omega
        have hl3 := flatL_len p
        rw [drop_of hp, flatP] at kt
        repeat' (first | refine K_seq ?_ | refine K_blk ?_ | refine AW_skip ?_ | refine AW_exit ?_ | refine Kq_exit_code ?_ | refine Kq_exit_lp ?_ | refine Kq_exit_blk ?_ | refine Kq_exit_ne (by decide) ?_ | refine Kq_norm_code ?_ | refine Kq_norm_blk ?_ | refine Kq_norm_lp ?_ | rw [wrap64 (by omega) (by omega)] | (refine hK _ ?_; clear hK hKp K Kp; (try clear hanc anc)) | (refine hKp _ _ ?_; clear hK hKp K Kp; (try clear hanc anc)) | ((with_reducible refine And.intro ?_ ?_); (focus (first | trivial | omega | (simp only [Fits]; omega) | (refine ⟨?_, ?_⟩ <;> (simp only [Fits]; omega)) | assumption | (rw [hanc]; rfl)))) | ((first | refine K_regA hE fun K Kp hK hKp => ?_ | refine K_drwA true mixed hE fun K Kp hK hKp anc hanc => ?_ | refine K_drwA false mixed hE fun K Kp hK hKp anc hanc => ?_ | ((first | apply CallP_mk | apply CallB_mk); (focus (simp only [go_sem]; rfl)); (focus (exact ih p (by omega) (by omega))); (focus (simp [go_sem])); (focus (first | exact .inl rfl | (right; simp [go_sem]))))); simp only [go_sem, ↓reduceIte, reduceCtorEq, Nat.reduceAdd, Nat.reduceMul, Nat.reduceEqDiff, Nat.reduceLT, Nat.reduceLeDiff, Nat.reduceSub, Nat.reduceDiv, Nat.reducePow, Nat.reduceBEq, Int.reduceBEq, Int.reduceBNe, Int.reduceLT, Int.reduceLE, Int.reduceEq, lt_dec klt, hp, Nd.cs]) | ((first | refine onG_split_t (fun hg => ?_) (fun hg => ?_) | refine onG_split_f (fun hg => ?_) (fun hg => ?_)) <;> simp only [go_sem, ↓reduceIte, reduceCtorEq, Nat.reduceAdd, Nat.reduceMul, Nat.reduceEqDiff, Nat.reduceLT, Nat.reduceLeDiff, Nat.reduceSub, Nat.reduceDiv, Nat.reducePow, Nat.reduceBEq, Int.reduceBEq, Int.reduceBNe, Int.reduceLT, Int.reduceLE, Int.reduceEq, lt_dec klt, hp, Nd.cs, hg]) | (refine K_condA (fun hc => ?_) (fun hc => ?_) <;> try (exact absurd hc (by decide))))
        refine ⟨⟨szok_ins _, (by simp only [Fits, List.length_append]; omega)⟩, ?_⟩
        repeat' (first | refine K_seq ?_ | refine K_blk ?_ | refine AW_skip ?_ | refine AW_exit ?_ | refine Kq_exit_code ?_ | refine Kq_exit_lp ?_ | refine Kq_exit_blk ?_ | refine Kq_exit_ne (by decide) ?_ | refine Kq_norm_code ?_ | refine Kq_norm_blk ?_ | refine Kq_norm_lp ?_ | rw [wrap64 (by omega) (by omega)] | (refine hK _ ?_; clear hK hKp K Kp; (try clear hanc anc)) | (refine hKp _ _ ?_; clear hK hKp K Kp; (try clear hanc anc)) | ((with_reducible refine And.intro ?_ ?_); (focus (first | trivial | omega | (simp only [Fits]; omega) | (refine ⟨?_, ?_⟩ <;> (simp only [Fits]; omega)) | assumption | (rw [hanc]; rfl)))) | ((first | refine K_regA hE fun K Kp hK hKp => ?_ | refine K_drwA true mixed hE fun K Kp hK hKp anc hanc => ?_ | refine K_drwA false mixed hE fun K Kp hK hKp anc hanc => ?_); simp only [go_sem, ↓reduceIte, reduceCtorEq, Nat.reduceAdd, Nat.reduceMul, Nat.reduceEqDiff, Nat.reduceLT, Nat.reduceLeDiff, Nat.reduceSub, Nat.reduceDiv, Nat.reducePow, Nat.reduceBEq, Int.reduceBEq, Int.reduceBNe, Int.reduceLT, Int.reduceLE, Int.reduceEq]) | ((first | refine onG_split_t (fun hg => ?_) (fun hg => ?_) | refine onG_split_f (fun hg => ?_) (fun hg => ?_)) <;> simp only [go_sem, ↓reduceIte, reduceCtorEq, Nat.reduceAdd, Nat.reduceMul, Nat.reduceEqDiff, Nat.reduceLT, Nat.reduceLeDiff, Nat.reduceSub, Nat.reduceDiv, Nat.reducePow, Nat.reduceBEq, Int.reduceBEq, Int.reduceBNe, Int.reduceLT, Int.reduceLE, Int.reduceEq, hg]) | (refine K_condA (fun hc => ?_) (fun hc => ?_) <;> try (exact absurd hc (by decide))))
        refine ⟨(k + 1, ac2 ++ flatL p), ⟨by simp only; omega, by simp only; rw [kt]; simp⟩, by simp only; omega, fun i => if i = 0 then 12582914 else 1, ?_⟩
        refine ent_mk (by simp [go_sem, Nd.cs]) (by simp [go_sem, Nd.cs]) (by simp) (by simp [hN])
      · obtain rfl : k = x.arms.length := by omega
        rw [List.drop_length, flatP, List.append_nil] at kt
        rw [kt] at ht
        repeat' (first | refine K_seq ?_ | refine K_blk ?_ | refine AW_skip ?_ | refine AW_exit ?_ | refine Kq_exit_code ?_ | refine Kq_exit_lp ?_ | refine Kq_exit_blk ?_ | refine Kq_exit_ne (by decide) ?_ | refine Kq_norm_code ?_ | refine Kq_norm_blk ?_ | refine Kq_norm_lp ?_ | rw [wrap64 (by omega) (by omega)] | (refine hK _ ?_; clear hK hKp K Kp; (try clear hanc anc)) | (refine hKp _ _ ?_; clear hK hKp K Kp; (try clear hanc anc)) | ((with_reducible refine And.intro ?_ ?_); (focus (first | trivial | omega | (simp only [Fits]; omega) | (refine ⟨?_, ?_⟩ <;> (simp only [Fits]; omega)) | assumption | (rw [hanc]; rfl)))) | ((first | refine K_regA hE fun K Kp hK hKp => ?_ | refine K_drwA true mixed hE fun K Kp hK hKp anc hanc => ?_ | refine K_drwA false mixed hE fun K Kp hK hKp anc hanc => ?_); simp only [go_sem, ↓reduceIte, reduceCtorEq, Nat.reduceAdd, Nat.reduceMul, Nat.reduceEqDiff, Nat.reduceLT, Nat.reduceLeDiff, Nat.reduceSub, Nat.reduceDiv, Nat.reducePow, Nat.reduceBEq, Int.reduceBEq, Int.reduceBNe, Int.reduceLT, Int.reduceLE, Int.reduceEq, ge_dec, Nd.cs]) | ((first | refine onG_split_t (fun hg => ?_) (fun hg => ?_) | refine onG_split_f (fun hg => ?_) (fun hg => ?_)) <;> simp only [go_sem, ↓reduceIte, reduceCtorEq, Nat.reduceAdd, Nat.reduceMul, Nat.reduceEqDiff, Nat.reduceLT, Nat.reduceLeDiff, Nat.reduceSub, Nat.reduceDiv, Nat.reducePow, Nat.reduceBEq, Int.reduceBEq, Int.reduceBNe, Int.reduceLT, Int.reduceLE, Int.reduceEq, ge_dec, Nd.cs, hg]) | (refine K_condA (fun hc => ?_) (fun hc => ?_) <;> try (exact absurd hc (by decide))))
        cases hlf : leftN x
        · rw [hlf] at hlc
          rw [if_neg (by simp [hlf]), List.append_nil] at ht
          repeat' (first | refine K_seq ?_ | refine K_blk ?_ | refine AW_skip ?_ | refine AW_exit ?_ | refine Kq_exit_code ?_ | refine Kq_exit_lp ?_ | refine Kq_exit_blk ?_ | refine Kq_exit_ne (by decide) ?_ | refine Kq_norm_code ?_ | refine Kq_norm_blk ?_ | refine Kq_norm_lp ?_ | rw [wrap64 (by omega) (by omega)] | (refine hK _ ?_; clear hK hKp K Kp; (try clear hanc anc)) | (refine hKp _ _ ?_; clear hK hKp K Kp; (try clear hanc anc)) | ((with_reducible refine And.intro ?_ ?_); (focus (first | trivial | omega | (simp only [Fits]; omega) | (refine ⟨?_, ?_⟩ <;> (simp only [Fits]; omega)) | assumption | (rw [hanc]; rfl)))) | ((first | refine K_regA hE fun K Kp hK hKp => ?_ | refine K_drwA true mixed hE fun K Kp hK hKp anc hanc => ?_ | refine K_drwA false mixed hE fun K Kp hK hKp anc hanc => ?_ | ((first | apply CallP_mk | apply CallB_mk); (focus (simp only [go_sem]; rfl)); (focus (exact hlc)); (focus (simp [go_sem])); (focus (first | exact .inl rfl | (right; simp [go_sem]))))); simp only [go_sem, ↓reduceIte, reduceCtorEq, Nat.reduceAdd, Nat.reduceMul, Nat.reduceEqDiff, Nat.reduceLT, Nat.reduceLeDiff, Nat.reduceSub, Nat.reduceDiv, Nat.reducePow, Nat.reduceBEq, Int.reduceBEq, Int.reduceBNe, Int.reduceLT, Int.reduceLE, Int.reduceEq, hlf]) | ((first | refine onG_split_t (fun hg => ?_) (fun hg => ?_) | refine onG_split_f (fun hg => ?_) (fun hg => ?_)) <;> simp only [go_sem, ↓reduceIte, reduceCtorEq, Nat.reduceAdd, Nat.reduceMul, Nat.reduceEqDiff, Nat.reduceLT, Nat.reduceLeDiff, Nat.reduceSub, Nat.reduceDiv, Nat.reducePow, Nat.reduceBEq, Int.reduceBEq, Int.reduceBNe, Int.reduceLT, Int.reduceLE, Int.reduceEq, hlf, hg]) | (refine K_condA (fun hc => ?_) (fun hc => ?_) <;> try (exact absurd hc (by decide))))
          refine K_ret (hQ _ ⟨.rw 0, resA_tmp (by simp only [go_sem, ↓reduceIte, reduceCtorEq, Nat.reduceAdd, Nat.reduceMul, Nat.reduceEqDiff, Nat.reduceLT, Nat.reduceLeDiff, Nat.reduceSub, Nat.reduceDiv, Nat.reducePow, Nat.reduceBEq, Int.reduceBEq, Int.reduceBNe, Int.reduceLT, Int.reduceLE, Int.reduceEq]), ?_, ?_, rfl⟩).1
          · simp only [go_sem, AV.snapOk, ↓reduceIte, Nat.reduceEqDiff]
            exact clo_ins _
          · simp [go_sem, AV.snap, ht, Ins.av]
        · rw [hlf] at hlc
          rw [if_pos hlf] at ht
          repeat' (first | refine K_seq ?_ | refine K_blk ?_ | refine AW_skip ?_ | refine AW_exit ?_ | refine Kq_exit_code ?_ | refine Kq_exit_lp ?_ | refine Kq_exit_blk ?_ | refine Kq_exit_ne (by decide) ?_ | refine Kq_norm_code ?_ | refine Kq_norm_blk ?_ | refine Kq_norm_lp ?_ | rw [wrap64 (by omega) (by omega)] | (refine hK _ ?_; clear hK hKp K Kp; (try clear hanc anc)) | (refine hKp _ _ ?_; clear hK hKp K Kp; (try clear hanc anc)) | ((with_reducible refine And.intro ?_ ?_); (focus (first | trivial | omega | (simp only [Fits]; omega) | (refine ⟨?_, ?_⟩ <;> (simp only [Fits]; omega)) | assumption | (rw [hanc]; rfl)))) | ((first | refine K_regA hE fun K Kp hK hKp => ?_ | refine K_drwA true mixed hE fun K Kp hK hKp anc hanc => ?_ | refine K_drwA false mixed hE fun K Kp hK hKp anc hanc => ?_ | ((first | apply CallP_mk | apply CallB_mk); (focus (simp only [go_sem]; rfl)); (focus (exact hlc)); (focus (simp [go_sem])); (focus (first | exact .inl rfl | (right; simp [go_sem]))))); simp only [go_sem, ↓reduceIte, reduceCtorEq, Nat.reduceAdd, Nat.reduceMul, Nat.reduceEqDiff, Nat.reduceLT, Nat.reduceLeDiff, Nat.reduceSub, Nat.reduceDiv, Nat.reducePow, Nat.reduceBEq, Int.reduceBEq, Int.reduceBNe, Int.reduceLT, Int.reduceLE, Int.reduceEq, hlf]) | ((first | refine onG_split_t (fun hg => ?_) (fun hg => ?_) | refine onG_split_f (fun hg => ?_) (fun hg => ?_)) <;> simp only [go_sem, ↓reduceIte, reduceCtorEq, Nat.reduceAdd, Nat.reduceMul, Nat.reduceEqDiff, Nat.reduceLT, Nat.reduceLeDiff, Nat.reduceSub, Nat.reduceDiv, Nat.reducePow, Nat.reduceBEq, Int.reduceBEq, Int.reduceBNe, Int.reduceLT, Int.reduceLE, Int.reduceEq, hlf, hg]) | (refine K_condA (fun hc => ?_) (fun hc => ?_) <;> try (exact absurd hc (by decide))))
          refine ⟨(i + 1, acc ++ ac2), ⟨by simp only; omega, by simp only; rw [ht]; simp⟩, by simp only; omega, fun _ => 0, ?_⟩
          refine ent_mk (by simp [go_sem, Ins.av]) (by simp [go_sem, Ins.av]) (by simp) (by simp [hN])
    · have k1 : (x.kind == 1) = false := by simpa using hk1
      have k2 : (x.kind == 2) = false := by simpa using hk2
      have k3 : (x.kind == 3) = false := by simpa using hk3
      have k4 : (x.kind == 4) = false := by simpa using hk4
      rw [if_neg hk1, if_neg hk2, if_neg hk3, if_neg hk4, List.nil_append] at ht
      repeat' (first | refine K_seq ?_ | refine K_blk ?_ | refine AW_skip ?_ | refine AW_exit ?_ | refine Kq_exit_code ?_ | refine Kq_exit_lp ?_ | refine Kq_exit_blk ?_ | refine Kq_exit_ne (by decide) ?_ | refine Kq_norm_code ?_ | refine Kq_norm_blk ?_ | refine Kq_norm_lp ?_ | rw [wrap64 (by omega) (by omega)] | (refine hK _ ?_; clear hK hKp K Kp; (try clear hanc anc)) | (refine hKp _ _ ?_; clear hK hKp K Kp; (try clear hanc anc)) | ((with_reducible refine And.intro ?_ ?_); (focus (first | trivial | omega | (simp only [Fits]; omega) | (refine ⟨?_, ?_⟩ <;> (simp only [Fits]; omega)) | assumption | (rw [hanc]; rfl)))) | ((first | refine K_regA hE fun K Kp hK hKp => ?_ | refine K_drwA true mixed hE fun K Kp hK hKp anc hanc => ?_ | refine K_drwA false mixed hE fun K Kp hK hKp anc hanc => ?_); simp only [go_sem, ↓reduceIte, reduceCtorEq, Nat.reduceAdd, Nat.reduceMul, Nat.reduceEqDiff, Nat.reduceLT, Nat.reduceLeDiff, Nat.reduceSub, Nat.reduceDiv, Nat.reducePow, Nat.reduceBEq, Int.reduceBEq, Int.reduceBNe, Int.reduceLT, Int.reduceLE, Int.reduceEq, lt_dec hlt, hx, Nd.av_eq, k1, k2, k3, k4]) | ((first | refine onG_split_t (fun hg => ?_) (fun hg => ?_) | refine onG_split_f (fun hg => ?_) (fun hg => ?_)) <;> simp only [go_sem, ↓reduceIte, reduceCtorEq, Nat.reduceAdd, Nat.reduceMul, Nat.reduceEqDiff, Nat.reduceLT, Nat.reduceLeDiff, Nat.reduceSub, Nat.reduceDiv, Nat.reducePow, Nat.reduceBEq, Int.reduceBEq, Int.reduceBNe, Int.reduceLT, Int.reduceLE, Int.reduceEq, lt_dec hlt, hx, Nd.av_eq, k1, k2, k3, k4, hg]) | (refine K_condA (fun hc => ?_) (fun hc => ?_) <;> try (exact absurd hc (by decide))))
      cases hlf : leftN x
      · rw [hlf] at hlc
        rw [if_neg (by simp [hlf]), List.append_nil] at ht
        repeat' (first | refine K_seq ?_ | refine K_blk ?_ | refine AW_skip ?_ | refine AW_exit ?_ | refine Kq_exit_code ?_ | refine Kq_exit_lp ?_ | refine Kq_exit_blk ?_ | refine Kq_exit_ne (by decide) ?_ | refine Kq_norm_code ?_ | refine Kq_norm_blk ?_ | refine Kq_norm_lp ?_ | rw [wrap64 (by omega) (by omega)] | (refine hK _ ?_; clear hK hKp K Kp; (try clear hanc anc)) | (refine hKp _ _ ?_; clear hK hKp K Kp; (try clear hanc anc)) | ((with_reducible refine And.intro ?_ ?_); (focus (first | trivial | omega | (simp only [Fits]; omega) | (refine ⟨?_, ?_⟩ <;> (simp only [Fits]; omega)) | assumption | (rw [hanc]; rfl)))) | ((first | refine K_regA hE fun K Kp hK hKp => ?_ | refine K_drwA true mixed hE fun K Kp hK hKp anc hanc => ?_ | refine K_drwA false mixed hE fun K Kp hK hKp anc hanc => ?_ | ((first | apply CallP_mk | apply CallB_mk); (focus (simp only [go_sem]; rfl)); (focus (exact hlc)); (focus (simp [go_sem])); (focus (first | exact .inl rfl | (right; simp [go_sem]))))); simp only [go_sem, ↓reduceIte, reduceCtorEq, Nat.reduceAdd, Nat.reduceMul, Nat.reduceEqDiff, Nat.reduceLT, Nat.reduceLeDiff, Nat.reduceSub, Nat.reduceDiv, Nat.reducePow, Nat.reduceBEq, Int.reduceBEq, Int.reduceBNe, Int.reduceLT, Int.reduceLE, Int.reduceEq, hlf]) | ((first | refine onG_split_t (fun hg => ?_) (fun hg => ?_) | refine onG_split_f (fun hg => ?_) (fun hg => ?_)) <;> simp only [go_sem, ↓reduceIte, reduceCtorEq, Nat.reduceAdd, Nat.reduceMul, Nat.reduceEqDiff, Nat.reduceLT, Nat.reduceLeDiff, Nat.reduceSub, Nat.reduceDiv, Nat.reducePow, Nat.reduceBEq, Int.reduceBEq, Int.reduceBNe, Int.reduceLT, Int.reduceLE, Int.reduceEq, hlf, hg]) | (refine K_condA (fun hc => ?_) (fun hc => ?_) <;> try (exact absurd hc (by decide))))
        refine K_ret (hQ _ ⟨.rw 0, resA_tmp (by simp only [go_sem, ↓reduceIte, reduceCtorEq, Nat.reduceAdd, Nat.reduceMul, Nat.reduceEqDiff, Nat.reduceLT, Nat.reduceLeDiff, Nat.reduceSub, Nat.reduceDiv, Nat.reducePow, Nat.reduceBEq, Int.reduceBEq, Int.reduceBNe, Int.reduceLT, Int.reduceLE, Int.reduceEq]), ?_, ?_, rfl⟩).1
        · simp only [go_sem, AV.snapOk, ↓reduceIte, Nat.reduceEqDiff]
          exact clo_ins _
        · simp [go_sem, AV.snap, ht, Ins.av]
      · rw [hlf] at hlc
        rw [if_pos hlf] at ht
        repeat' (first | refine K_seq ?_ | refine K_blk ?_ | refine AW_skip ?_ | refine AW_exit ?_ | refine Kq_exit_code ?_ | refine Kq_exit_lp ?_ | refine Kq_exit_blk ?_ | refine Kq_exit_ne (by decide) ?_ | refine Kq_norm_code ?_ | refine Kq_norm_blk ?_ | refine Kq_norm_lp ?_ | rw [wrap64 (by omega) (by omega)] | (refine hK _ ?_; clear hK hKp K Kp; (try clear hanc anc)) | (refine hKp _ _ ?_; clear hK hKp K Kp; (try clear hanc anc)) | ((with_reducible refine And.intro ?_ ?_); (focus (first | trivial | omega | (simp only [Fits]; omega) | (refine ⟨?_, ?_⟩ <;> (simp only [Fits]; omega)) | assumption | (rw [hanc]; rfl)))) | ((first | refine K_regA hE fun K Kp hK hKp => ?_ | refine K_drwA true mixed hE fun K Kp hK hKp anc hanc => ?_ | refine K_drwA false mixed hE fun K Kp hK hKp anc hanc => ?_ | ((first | apply CallP_mk | apply CallB_mk); (focus (simp only [go_sem]; rfl)); (focus (exact hlc)); (focus (simp [go_sem])); (focus (first | exact .inl rfl | (right; simp [go_sem]))))); simp only [go_sem, ↓reduceIte, reduceCtorEq, Nat.reduceAdd, Nat.reduceMul, Nat.reduceEqDiff, Nat.reduceLT, Nat.reduceLeDiff, Nat.reduceSub, Nat.reduceDiv, Nat.reducePow, Nat.reduceBEq, Int.reduceBEq, Int.reduceBNe, Int.reduceLT, Int.reduceLE, Int.reduceEq, hlf]) | ((first | refine onG_split_t (fun hg => ?_) (fun hg => ?_) | refine onG_split_f (fun hg => ?_) (fun hg => ?_)) <;> simp only [go_sem, ↓reduceIte, reduceCtorEq, Nat.reduceAdd, Nat.reduceMul, Nat.reduceEqDiff, Nat.reduceLT, Nat.reduceLeDiff, Nat.reduceSub, Nat.reduceDiv, Nat.reducePow, Nat.reduceBEq, Int.reduceBEq, Int.reduceBNe, Int.reduceLT, Int.reduceLE, Int.reduceEq, hlf, hg]) | (refine K_condA (fun hc => ?_) (fun hc => ?_) <;> try (exact absurd hc (by decide))))
        refine ⟨(i + 1, acc), ⟨by simp only; omega, by simp only; rw [ht]⟩, by simp only; omega, fun _ => 0, ?_⟩
        refine ent_mk (by simp [go_sem, Ins.av]) (by simp [go_sem, Ins.av]) (by simp) (by simp [hN])
  · obtain rfl : i = l.length := by omega
    rw [List.drop_length, flatL] at ht
    repeat' (first | refine K_seq ?_ | refine K_blk ?_ | refine AW_skip ?_ | refine AW_exit ?_ | refine Kq_exit_code ?_ | refine Kq_exit_lp ?_ | refine Kq_exit_blk ?_ | refine Kq_exit_ne (by decide) ?_ | refine Kq_norm_code ?_ | refine Kq_norm_blk ?_ | refine Kq_norm_lp ?_ | rw [wrap64 (by omega) (by omega)] | (refine hK _ ?_; clear hK hKp K Kp; (try clear hanc anc)) | (refine hKp _ _ ?_; clear hK hKp K Kp; (try clear hanc anc)) | ((with_reducible refine And.intro ?_ ?_); (focus (first | trivial | omega | (simp only [Fits]; omega) | (refine ⟨?_, ?_⟩ <;> (simp only [Fits]; omega)) | assumption | (rw [hanc]; rfl)))) | ((first | refine K_regA hE fun K Kp hK hKp => ?_ | refine K_drwA true mixed hE fun K Kp hK hKp anc hanc => ?_ | refine K_drwA false mixed hE fun K Kp hK hKp anc hanc => ?_); simp only [go_sem, ↓reduceIte, reduceCtorEq, Nat.reduceAdd, Nat.reduceMul, Nat.reduceEqDiff, Nat.reduceLT, Nat.reduceLeDiff, Nat.reduceSub, Nat.reduceDiv, Nat.reducePow, Nat.reduceBEq, Int.reduceBEq, Int.reduceBNe, Int.reduceLT, Int.reduceLE, Int.reduceEq, ge_dec]) | ((first | refine onG_split_t (fun hg => ?_) (fun hg => ?_) | refine onG_split_f (fun hg => ?_) (fun hg => ?_)) <;> simp only [go_sem, ↓reduceIte, reduceCtorEq, Nat.reduceAdd, Nat.reduceMul, Nat.reduceEqDiff, Nat.reduceLT, Nat.reduceLeDiff, Nat.reduceSub, Nat.reduceDiv, Nat.reducePow, Nat.reduceBEq, Int.reduceBEq, Int.reduceBNe, Int.reduceLT, Int.reduceLE, Int.reduceEq, ge_dec, hg]) | (refine K_condA (fun hc => ?_) (fun hc => ?_) <;> try (exact absurd hc (by decide))))
    refine K_ret (hQ _ ⟨.rw 0, resA_tmp (by simp only [go_sem, ↓reduceIte, reduceCtorEq, Nat.reduceAdd, Nat.reduceMul, Nat.reduceEqDiff, Nat.reduceLT, Nat.reduceLeDiff, Nat.reduceSub, Nat.reduceDiv, Nat.reducePow, Nat.reduceBEq, Int.reduceBEq, Int.reduceBNe, Int.reduceLT, Int.reduceLE, Int.reduceEq]), ?_, ?_, rfl⟩).1
    · simp only [go_sem, AV.snapOk, ↓reduceIte, Nat.reduceEqDiff]
      exact clo_ins _
    · simp [go_sem, AV.snap, ht]
end Go.Proofs.Ytdheeecpkkjfiaa


/- Chapter 10: the instructions of the blocks are those of the nodes (plain Lean). -/
set_option linter.unusedVariables false
set_option linter.unusedSimpArgs false
namespace Go.Low
open Go Go.Am Go.Proofs.Ytdheeecpkkjfiaa

/-- All instructions of all blocks. -/
def allC (bl : List Blk) : List AV := (bl.map Blk.code).flatten

theorem map_modify_code {l : List Blk} {k : Nat} {f : Blk → Blk} (hf : ∀ b, (f b).code = b.code) : (l.modify k f).map Blk.code = l.map Blk.code := by
  refine List.ext_getElem? fun i => ?_
  rw [List.getElem?_map, List.getElem?_map, List.getElem?_modify]
  cases l[i]? with
  | none => simp
  | some b => simp only [Option.map_some]; split <;> simp [hf]

theorem allC_end (s : LS) (k a : Int) (ts : List Int) : allC (s.end k a ts).bl = allC s.bl := by
  unfold allC LS.end
  exact congrArg List.flatten (map_modify_code (fun b => rfl))
theorem allC_add (s : LS) (n : Nat) : allC (s.add n).bl = allC s.bl := by
  unfold allC LS.add
  simp only [List.map_append, List.map_replicate, List.flatten_append]
  have : (List.replicate n ([] : List AV)).flatten = [] := by induction n with | zero => rfl | succ n ih => simp [List.replicate_succ, ih]
  rw [this, List.append_nil]
theorem allC_at (s : LS) (k : Nat) : allC (s.at k).bl = allC s.bl := rfl
theorem allC_join (es : List Nat) (s : LS) : allC (joinL es s).2.bl = allC s.bl := by
  have key : ∀ (es : List Nat) (j : Int) (t : LS), allC (es.foldl (fun t b => (t.at b).end 1 0 [j]) t).bl = allC t.bl := by
    intro es
    induction es with
    | nil => intro j t; rfl
    | cons e es ih => intro j t; rw [List.foldl_cons, ih, allC_end, allC_at]
  unfold joinL
  split
  · rfl
  · show allC (LS.bl _) = _
    rw [allC_at, key, allC_add]

theorem flatten_modify {L : List Blk} {x : AV} {k : Nat} (h : k < L.length) : (allC (L.modify k fun b => ⟨b.code ++ [x], b.kind, b.a, b.tg⟩)).Perm (allC L ++ [x]) := by
  induction L generalizing k with
  | nil => simp at h
  | cons b L ih =>
    cases k with
    | zero =>
      simp only [List.modify_zero_cons, allC, List.map_cons, List.flatten_cons]
      rw [List.append_assoc, List.append_assoc]
      exact List.Perm.append_left _ List.perm_append_comm
    | succ k =>
      simp only [List.modify_succ_cons, allC, List.map_cons, List.flatten_cons]
      rw [List.append_assoc]
      exact List.Perm.append_left _ (ih (by simpa using h))

theorem insl_app' (a b : List Ins) : insl (a ++ b) = insl a ++ insl b := List.map_append ..

mutual
theorem lowN_perm : ∀ (n : Nd) (s : LS), kdN n → s.cur < s.bl.length → (allC (lowN n s).2.bl).Perm (allC s.bl ++ insl (flatN n))
  | .mk k a x t e arms, s, hk, h => by
    rw [kdN] at hk
    rw [lowN, flatN]
    split
    · exact flatten_modify h
    · split
      · simp only [allC_join]
        have l1 : ((s.add 2).end 2 a [(s.bl.length : Int), s.bl.length + 1]).bl.length = s.bl.length + 2 := by rw [end_len, add_len]
        have c1 : (((s.add 2).end 2 a [(s.bl.length : Int), s.bl.length + 1]).at s.bl.length).cur < (((s.add 2).end 2 a [(s.bl.length : Int), s.bl.length + 1]).at s.bl.length).bl.length := by rw [at_cur, at_bl]; omega
        have p1 := lowL_perm t _ hk.2.2.1 c1
        have g1 := lowL_grow t _ c1
        have g1l := g1.le
        rw [at_bl] at g1l
        have c2 : ((lowL t (((s.add 2).end 2 a [(s.bl.length : Int), s.bl.length + 1]).at s.bl.length)).2.at (s.bl.length + 1)).cur < ((lowL t (((s.add 2).end 2 a [(s.bl.length : Int), s.bl.length + 1]).at s.bl.length)).2.at (s.bl.length + 1)).bl.length := by rw [at_cur, at_bl]; omega
        have p2 := lowL_perm e _ hk.2.2.2.1 c2
        rw [allC_at] at p1 p2
        rw [allC_end, allC_add] at p1
        rw [insl_app', ← List.append_assoc]
        exact p2.trans (List.Perm.append_right _ p1)
      · split
        · have l1 : (((s.add 3).end 1 0 [(s.bl.length : Int)]).at s.bl.length).bl.length = s.bl.length + 3 := by rw [at_bl, end_len, add_len]
          have c1 : (((((s.add 3).end 1 0 [(s.bl.length : Int)]).at s.bl.length).end 2 a [(s.bl.length : Int) + 1, s.bl.length + 2]).at (s.bl.length + 1)).cur < (((((s.add 3).end 1 0 [(s.bl.length : Int)]).at s.bl.length).end 2 a [(s.bl.length : Int) + 1, s.bl.length + 2]).at (s.bl.length + 1)).bl.length := by rw [at_cur, at_bl, end_len]; omega
          have p1 := lowL_perm t _ hk.2.2.1 c1
          rw [allC_at, allC_end, allC_at, allC_end, allC_add] at p1
          simp only [allC_at]
          split
          · rw [allC_end]; exact p1
          · exact p1
        · split
          · simp only [allC_join]
            have p1 := lowP_perm arms s.bl.length ((s.add arms.length).end 3 a ((List.range arms.length).map fun (i : Nat) => (s.bl.length : Int) + (i : Int))) hk.2.2.2.2 (by show s.cur < _; rw [end_len, add_len]; omega) (by rw [end_len, add_len]; omega)
            rw [allC_end, allC_add] at p1
            exact p1
          · split
            · simp only [allC_end]; simp [insl_nil]
            · simp only [allC_end]; simp [insl_nil]
theorem lowL_perm : ∀ (l : List Nd) (s : LS), kdL l → s.cur < s.bl.length → (allC (lowL l s).2.bl).Perm (allC s.bl ++ insl (flatL l))
  | [], s, hk, h => by rw [lowL, flatL]; simp [insl_nil]
  | n :: l, s, hk, h => by
    rw [kdL] at hk
    have p1 := lowN_perm n s hk.1 h
    have g1 := lowN_grow n s h
    have hw := lowN_ways n hk.1 s
    rw [lowL, flatL, leftN_ways n hk.1, ← hw]
    cases hb : (lowN n s).1
    · simpa using p1
    · simp only [if_true]
      rw [insl_app', ← List.append_assoc]
      exact (lowL_perm l _ hk.2 g1.cur).trans (List.Perm.append_right _ p1)
theorem lowP_perm : ∀ (ps : List (List Nd)) (f : Nat) (s : LS), kdP ps → s.cur < s.bl.length → f + ps.length ≤ s.bl.length → (allC (lowP ps f s).2.bl).Perm (allC s.bl ++ insl (flatP ps))
  | [], f, s, hk, h, hf => by rw [lowP, flatP]; simp [insl_nil]
  | p :: ps, f, s, hk, h, hf => by
    rw [kdP] at hk
    simp only [List.length_cons] at hf
    rw [lowP, flatP]
    have c1 : (s.at f).cur < (s.at f).bl.length := by rw [at_cur, at_bl]; omega
    have p1 := lowL_perm p _ hk.1 c1
    have g1 := lowL_grow p _ c1
    have g1l := g1.le
    rw [at_bl] at g1l
    rw [allC_at] at p1
    rw [insl_app', ← List.append_assoc]
    exact (lowP_perm ps (f + 1) _ hk.2 g1.cur (by omega)).trans (List.Perm.append_right _ p1)
end

mutual
theorem flatN_ok : ∀ (n : Nd), n.sz ≤ 2 ^ 30 → ∀ x, x ∈ flatN n → x.ok
  | .mk k a y t e arms, hz => by
    rw [Nd.sz_eq] at hz
    simp only [Nd.ins, Nd.thn, Nd.els, Nd.arms] at hz
    rw [flatN]
    intro x hx
    split at hx
    · rw [List.mem_singleton] at hx
      subst hx
      unfold Ins.sz at hz
      exact ⟨by omega, by omega⟩
    · split at hx
      · rcases List.mem_append.1 hx with hx | hx
        · exact flatL_ok t (by omega) x hx
        · exact flatL_ok e (by omega) x hx
      · split at hx
        · exact flatL_ok t (by omega) x hx
        · split at hx
          · exact flatP_ok arms (by omega) x hx
          · cases hx
theorem flatL_ok : ∀ (l : List Nd), Nd.szL l ≤ 2 ^ 30 → ∀ x, x ∈ flatL l → x.ok
  | [], hz => by rw [flatL]; intro x hx; cases hx
  | n :: l, hz => by
    rw [Nd.szL] at hz
    rw [flatL]
    intro x hx
    rcases List.mem_append.1 hx with hx | hx
    · exact flatN_ok n (by omega) x hx
    · split at hx
      · exact flatL_ok l (by omega) x hx
      · cases hx
theorem flatP_ok : ∀ (l : List (List Nd)), Nd.szLL l ≤ 2 ^ 30 → ∀ x, x ∈ flatP l → x.ok
  | [], hz => by rw [flatP]; intro x hx; cases hx
  | n :: l, hz => by
    rw [Nd.szLL] at hz
    rw [flatP]
    intro x hx
    rcases List.mem_append.1 hx with hx | hx
    · exact flatL_ok n (by omega) x hx
    · exact flatP_ok l (by omega) x hx
end

theorem ins_av_inj : ∀ a b : Ins, a.av = b.av → a = b := by
  have hi : ∀ a b : List Int, a.map AV.i = b.map AV.i → a = b := fun a b h => List.map_inj_right (f := AV.i) (by intro x y h; cases h; rfl) |>.1 h
  have ht : (∀ a b : Ty, a.av = b.av → a = b) := by
    intro a
    exact @Ty.rec (fun a => ∀ b : Ty, a.av = b.av → a = b) (fun l => ∀ m : List Ty, Ty.avL l = Ty.avL m → l = m)
      (fun k i l ih b h => by
        cases b with
        | mk k' i' l' =>
          rw [Ty.av, Ty.av] at h
          injection h with h
          injection h with h1 h
          injection h with h2 h
          injection h with h3 _
          injection h1 with _ h1
          injection h2 with _ h2
          injection h3 with h3
          rw [h1, h2, ih l' h3])
      (fun m h => by cases m with | nil => rfl | cons x m => rw [Ty.avL, Ty.avL] at h; cases h)
      (fun t l iht ihl m h => by
        cases m with
        | nil => rw [Ty.avL, Ty.avL] at h; cases h
        | cons x m =>
          rw [Ty.avL, Ty.avL] at h
          injection h with h1 h2
          rw [iht x h1, ihl m h2]) a
  have htL : ∀ a b : List Ty, Ty.avL a = Ty.avL b → a = b := by
    intro a b h
    rw [Ty.avL_eq, Ty.avL_eq] at h
    exact List.map_inj_right (f := Ty.av) (fun x y => ht x y) |>.1 h
  intro a b h
  obtain ⟨a1, a2, a3, a4, a5, a6, a7⟩ := a
  obtain ⟨b1, b2, b3, b4, b5, b6, b7⟩ := b
  unfold Ins.av at h
  injection h with h
  injection h with h1 h
  injection h with h2 h
  injection h with h3 h
  injection h with h4 h
  injection h with h5 h
  injection h with h6 h
  injection h with h7 h
  injection h1 with _ h1
  injection h2 with _ h2
  injection h3 with _ h3
  injection h4 with _ h4
  injection h5 with _ h5
  injection h6 with h6
  injection h7 with h7
  simp only at h1 h2 h3 h4 h5 h6 h7
  rw [h1, h2, h3, h4, h5, hi _ _ h6, htL _ _ h7]
end Go.Low

/- Chapter 10: greedy matching (plain Lean). -/
set_option linter.unusedVariables false
set_option linter.unusedSimpArgs false
namespace Go.Low
open Go Go.Am Go.Proofs.Ytdheeecpkkjfiaa

/-- The elements that are not used. -/
def remL {α : Type} : List α → List Bool → List α
  | w :: ws, u :: us => if u then remL ws us else w :: remL ws us
  | _, _ => []

theorem rem_mem {α : Type} {c : α} : ∀ {W : List α} {U : List Bool}, c ∈ remL W U → ∃ i : Nat, W[i]? = some c ∧ U[i]? = some false
  | [], _, h => by simp [remL] at h
  | w :: ws, [], h => by simp [remL] at h
  | w :: ws, u :: us, h => by
    rw [remL] at h
    cases u
    · simp only [Bool.false_eq_true, if_false, List.mem_cons] at h
      rcases h with rfl | h
      · exact ⟨0, rfl, rfl⟩
      · obtain ⟨i, h1, h2⟩ := rem_mem h
        exact ⟨i + 1, h1, h2⟩
    · simp only [if_true] at h
      obtain ⟨i, h1, h2⟩ := rem_mem h
      exact ⟨i + 1, h1, h2⟩

theorem rem_set {α : Type} {c : α} : ∀ {W : List α} {U : List Bool} {i : Nat}, W[i]? = some c → U[i]? = some false → (remL W U).Perm (c :: remL W (U.set i true))
  | [], _, _, h, _ => by simp at h
  | w :: ws, [], _, _, h => by simp at h
  | w :: ws, u :: us, 0, h1, h2 => by
    simp only [List.getElem?_cons_zero, Option.some.injEq] at h1 h2
    subst h1 h2
    simp [remL, List.set_cons_zero]
  | w :: ws, u :: us, i + 1, h1, h2 => by
    simp only [List.getElem?_cons_succ] at h1 h2
    have ih := rem_set (W := ws) (U := us) h1 h2
    rw [remL, List.set_cons_succ, remL]
    cases u
    · simp only [Bool.false_eq_true, if_false]
      exact (List.Perm.cons w ih).trans (List.Perm.swap c w _)
    · simpa using ih

theorem rem_rep {α : Type} : ∀ (W : List α), remL W (List.replicate W.length false) = W
  | [] => rfl
  | w :: ws => by simp only [List.length_cons, List.replicate_succ, remL, Bool.false_eq_true, if_false, rem_rep ws]

/-- The next element is found. -/
theorem next_found {α : Type} {W cs rest all : List α} {U : List Bool} {c : α} (h : (cs ++ remL W U).Perm W) (ha : all.Perm W) (hs : all = cs ++ c :: rest) : ∃ i : Nat, W[i]? = some c ∧ U[i]? = some false := by
  have h1 : (cs ++ remL W U).Perm (cs ++ c :: rest) := by rw [← hs]; exact h.trans ha.symm
  have h2 := (List.perm_append_left_iff cs).1 h1
  exact rem_mem (h2.symm.subset (List.mem_cons_self ..))

theorem next_perm {α : Type} {W cs : List α} {U : List Bool} {c : α} {i : Nat} (h : (cs ++ remL W U).Perm W) (h1 : W[i]? = some c) (h2 : U[i]? = some false) : ((cs ++ [c]) ++ remL W (U.set i true)).Perm W := by
  refine List.Perm.trans ?_ h
  rw [List.append_assoc]
  exact List.Perm.append_left cs (rem_set h1 h2).symm

def allI (B : List Bk) : List Ins := (B.map Bk.code).flatten

theorem allI_insl {bl : List Blk} {B : List Bk} (h : bl.map frzB = B.map Bk.av) : allC bl = insl (allI B) := by
  induction bl generalizing B with
  | nil => cases B with | nil => rfl | cons b B => simp at h
  | cons b bl ih =>
    cases B with
    | nil => simp at h
    | cons c B =>
      simp only [List.map_cons, List.cons.injEq] at h
      obtain ⟨h1, h2⟩ := h
      have := ih h2
      unfold allC allI at this ⊢
      simp only [List.map_cons, List.flatten_cons]
      rw [this, insl_app']
      unfold frzB Bk.av at h1
      injection h1 with h1
      injection h1 with h1 _
      injection h1 with h1
      rw [h1]
      rfl

open Classical in
theorem insl_perm {a b : List Ins} (h : (insl a).Perm (insl b)) : a.Perm b := by
  let g : AV → Ins := fun y => if h : ∃ x : Ins, x.av = y then h.choose else ⟨0, 0, 0, 0, 0, [], []⟩
  have hg : ∀ x : Ins, g x.av = x := by
    intro x
    have h : ∃ x' : Ins, x'.av = x.av := ⟨x, rfl⟩
    show (if h : ∃ x' : Ins, x'.av = x.av then h.choose else _) = x
    rw [dif_pos h]
    exact ins_av_inj _ _ h.choose_spec
  have h2 := h.map g
  have e : ∀ l : List Ins, (insl l).map g = l := by
    intro l
    unfold insl
    rw [List.map_map]
    conv => rhs; rw [← List.map_id l]
    exact List.map_congr_left fun x _ => hg x
  rwa [e, e] at h2

theorem once_perm {l : List Nd} {B : List Bk} (h : (lowRes l).1.map frzB = B.map Bk.av) (he : (lowRes l).2 = 0) : (allI B).Perm (flatL l) := by
  unfold lowRes at h he
  by_cases hf : formedL l 60 = false
  · rw [if_pos hf] at he; cases he
  · rw [if_neg hf] at h he
    by_cases hl : (lowL l lowS0).1 = true
    · rw [if_pos hl] at he; cases he
    · rw [if_neg hl] at h he
      by_cases hb : 200 < (lowL l lowS0).2.bl.length ∨ (∃ b, b ∈ (lowL l lowS0).2.bl ∧ 400 < b.code.length)
      · rw [if_pos hb] at he; cases he
      · rw [if_neg hb] at h
        have p := lowL_perm l lowS0 (formedL_kd l 60 (by simpa using hf)) (by simp [lowS0])
        rw [allI_insl h] at p
        exact insl_perm p
end Go.Low

/- Chapter 10: LowerOnce. -/
set_option linter.unusedSimpArgs false
set_option linter.unusedVariables false
set_option maxHeartbeats 4000000
set_option maxRecDepth 100000
namespace Go.Proofs.Ytdheeecpkkjfiaa
open Go.Am Go.Proofs Go.Low
open Classical
attribute [local irreducible] AW CallP CallB

theorem few_sz'' {l : List Nd} (h : sizeL l 1000 > 0) : 4 * szL l ≤ 399999 := by
  have := sizeL_szL l 1000 h
  omega
def bl (l : List Bool) : List AV := l.map AV.bool
@[go_sem] theorem bl_len (l : List Bool) : (bl l).length = l.length := List.length_map ..
@[go_sem] theorem bl_get (l : List Bool) (i : Nat) : (bl l)[i]? = (l[i]?).map AV.bool := List.getElem?_map ..
@[go_sem] theorem bl_set (l : List Bool) (i : Nat) (b : Bool) : (bl l).set i (.bool b) = bl (l.set i b) := (List.map_set ..).symm
@[go_sem] theorem bl_rep (n : Nat) (b : Bool) : List.replicate n (AV.bool b) = bl (List.replicate n b) := (List.map_replicate ..).symm
@[go_sem] theorem insl_get (l : List Ins) (i : Nat) : (insl l)[i]? = (l[i]?).map Ins.av := List.getElem?_map ..

theorem bl_clo (l : List Bool) : AV.cloL (bl l) = true := by
  induction l with
  | nil => rfl
  | cons x l ih => exact (by simp only [bl, List.map_cons, AV.cloL, AV.clo, Bool.and_self, Bool.true_and] at ih ⊢; exact ih)
@[go_sem] theorem bl_ren (m : Nat → Nat) (l : List Bool) : AV.renL m (bl l) = bl l := cloL_renL (bl_clo l)
@[go_sem] theorem bl_ids (p : Nat → Prop) (l : List Bool) : AV.idsL p (bl l) = True := eq_true (cloL_idsL (bl_clo l))
theorem allI_take {B : List Bk} {b : Nat} {x : Bk} (h : B[b]? = some x) : allI (B.take (b + 1)) = allI (B.take b) ++ x.code := by
  unfold allI
  rw [List.take_add_one, h]
  simp
theorem allI_split {B : List Bk} {b k : Nat} {x : Bk} {c : Ins} (h : B[b]? = some x) (hc : x.code[k]? = some c) : allI B = (allI (B.take b) ++ x.code.take k) ++ c :: (x.code.drop (k + 1) ++ allI (B.drop (b + 1))) := by
  have h1 : B = B.take (b + 1) ++ B.drop (b + 1) := (List.take_append_drop ..).symm
  have h2 : allI (B.take (b + 1) ++ B.drop (b + 1)) = allI (B.take (b + 1)) ++ allI (B.drop (b + 1)) := by unfold allI; rw [List.map_append, List.flatten_append]
  rw [← h1] at h2
  have h3 : x.code = x.code.take k ++ c :: x.code.drop (k + 1) := by
    conv => lhs; rw [← List.take_append_drop k x.code, drop_of hc]
  rw [h2, allI_take h]
  conv => lhs; rw [h3]
  simp

theorem once_pc (ts : List Ty) (l : List Nd) (h : Nd.szL l ≤ 2 ^ 30) : PCall Try.prog 6 [.agg [.sl (Ty.avL ts), .sl (Nd.avL l)]] (.bool true) := by
  refine PCall.intro Try.func6 rfl isf6 (by simp [Try.f6]) (by simp [AV.cloL, AV.clo]) fun E Q hE hN hQ => K_start ?_
  by_cases hf : sizeL l 1000 > 0
  · have hd := decide_eq_true hf
    obtain ⟨B, h1, h2, h3⟩ := low_bk l h
    have c1 := lower_call ts l h (few_sz'' hf)
    have c2 := flat_call (2 ^ 31) l (by omega) (by omega)
    unfold resAV at c1
    rw [h1] at c1
    have hp := once_perm h1
    generalize (lowRes l).2 = e at *
    have hok := flatL_ok l h
    have hlen := flatL_len l
    generalize flatL l = W at *
    by_cases he : e = 0
    · subst he
      have hp := hp rfl
      have hpl := hp.length_eq
      repeat' (first | refine K_seq ?_ | refine K_blk ?_ | refine AW_skip ?_ | refine AW_exit ?_ | refine Kq_exit_code ?_ | refine Kq_exit_lp ?_ | refine Kq_exit_blk ?_ | refine Kq_exit_ne (by decide) ?_ | refine Kq_norm_code ?_ | refine Kq_norm_blk ?_ | refine Kq_norm_lp ?_ | rw [wrap64 (by omega) (by omega)] | (refine hK _ ?_; clear hK hKp K Kp; (try clear hanc anc)) | (refine hKp _ _ ?_; clear hK hKp K Kp; (try clear hanc anc)) | ((with_reducible refine And.intro ?_ ?_); (focus (first | trivial | omega | (simp only [Fits]; omega) | (refine ⟨?_, ?_⟩ <;> (simp only [Fits]; omega)) | assumption | (rw [hanc]; rfl)))) | ((first | refine K_regA hE fun K Kp hK hKp => ?_ | refine K_drwA false mixed hE fun K Kp hK hKp anc hanc => ?_ | ((first | apply CallP_mk | apply CallB_mk); (focus (simp only [go_sem]; rfl)); (focus (first | exact head_pc | exact few_call ts l h | exact c1 | exact c2)); (focus (simp [go_sem])); (focus (first | exact .inl rfl | (right; simp [go_sem]))))); simp only [go_sem, ↓reduceIte, reduceCtorEq, Nat.reduceAdd, Nat.reduceMul, Nat.reduceEqDiff, Nat.reduceLT, Nat.reduceLeDiff, Nat.reduceSub, Nat.reduceDiv, Nat.reducePow, Nat.reduceBEq, Int.reduceBEq, Int.reduceBNe, Int.reduceLT, Int.reduceLE, Int.reduceEq, hd]) | ((first | refine onG_split_t (fun hg => ?_) (fun hg => ?_) | refine onG_split_f (fun hg => ?_) (fun hg => ?_)) <;> simp only [go_sem, ↓reduceIte, reduceCtorEq, Nat.reduceAdd, Nat.reduceMul, Nat.reduceEqDiff, Nat.reduceLT, Nat.reduceLeDiff, Nat.reduceSub, Nat.reduceDiv, Nat.reducePow, Nat.reduceBEq, Int.reduceBEq, Int.reduceBNe, Int.reduceLT, Int.reduceLE, Int.reduceEq, hd, hg]) | (refine K_condA (fun hc => ?_) (fun hc => ?_) <;> try (exact absurd hc (by decide))) | (refine K_ret ?_; refine (hQ _ ⟨_, by (try simp only [go_sem, ↓reduceIte, Nat.reduceEqDiff]); rfl, by simp [go_sem], ?_, by first | rfl | assumption⟩).1))
      refine K_loop (X := Nat × Nat × List Bool) (fun x => x.1 ≤ B.length ∧ x.2.1 = (allI (B.take x.1)).length ∧ x.2.2.length = W.length ∧ (allI (B.take x.1) ++ remL W x.2.2).Perm W) (fun x => mkSt [(3, .bool true), (4, .sl (B.map Bk.av)), (6, .sl (insl W)), (7, .rw 0), (8, AV.i x.2.1), (9, AV.i x.1)] [(0, .row 1 (bl x.2.2))] 1) (fun x => B.length - x.1) (0, 0, List.replicate W.length false) ⟨Nat.zero_le _, rfl, by simp, by rw [rem_rep]; simp [allI]⟩ (fun i => 23068672) (by refine ent_mk (by simp [go_sem]) (by simp [go_sem]) (by simp) (by simp [hN])) ?_
      rintro ⟨b, n, U⟩ ⟨hb, hn0, hU, hpm⟩
      simp only at hb hn0 hU hpm
      by_cases hlt : b < B.length
      · obtain ⟨x, hx⟩ := get?_of hlt
        have hxo := h2 x (List.mem_of_getElem? hx)
        have hbx := allI_take hx
        repeat' (first | refine K_seq ?_ | refine K_blk ?_ | refine AW_skip ?_ | refine AW_exit ?_ | refine Kq_exit_code ?_ | refine Kq_exit_lp ?_ | refine Kq_exit_blk ?_ | refine Kq_exit_ne (by decide) ?_ | refine Kq_norm_code ?_ | refine Kq_norm_blk ?_ | refine Kq_norm_lp ?_ | rw [wrap64 (by omega) (by omega)] | (refine hK _ ?_; clear hK hKp K Kp; (try clear hanc anc)) | (refine hKp _ _ ?_; clear hK hKp K Kp; (try clear hanc anc)) | ((with_reducible refine And.intro ?_ ?_); (focus (first | trivial | omega | (simp only [Fits]; omega) | (refine ⟨?_, ?_⟩ <;> (simp only [Fits]; omega)) | assumption | (rw [hanc]; rfl)))) | ((first | refine K_regA hE fun K Kp hK hKp => ?_ | refine K_drwA false mixed hE fun K Kp hK hKp anc hanc => ?_); simp only [go_sem, ↓reduceIte, reduceCtorEq, Nat.reduceAdd, Nat.reduceMul, Nat.reduceEqDiff, Nat.reduceLT, Nat.reduceLeDiff, Nat.reduceSub, Nat.reduceDiv, Nat.reducePow, Nat.reduceBEq, Int.reduceBEq, Int.reduceBNe, Int.reduceLT, Int.reduceLE, Int.reduceEq, lt_dec hlt, hx]) | ((first | refine onG_split_t (fun hg => ?_) (fun hg => ?_) | refine onG_split_f (fun hg => ?_) (fun hg => ?_)) <;> simp only [go_sem, ↓reduceIte, reduceCtorEq, Nat.reduceAdd, Nat.reduceMul, Nat.reduceEqDiff, Nat.reduceLT, Nat.reduceLeDiff, Nat.reduceSub, Nat.reduceDiv, Nat.reducePow, Nat.reduceBEq, Int.reduceBEq, Int.reduceBNe, Int.reduceLT, Int.reduceLE, Int.reduceEq, lt_dec hlt, hx, hg]) | (refine K_condA (fun hc => ?_) (fun hc => ?_) <;> try (exact absurd hc (by decide))) | (refine K_ret ?_; refine (hQ _ ⟨_, by (try simp only [go_sem, ↓reduceIte, Nat.reduceEqDiff]); rfl, by simp [go_sem], ?_, by first | rfl | assumption⟩).1))
        refine K_loop (X := Nat × Nat × List Bool) (fun y => y.1 ≤ x.code.length ∧ y.2.1 = n + y.1 ∧ y.2.2.length = W.length ∧ ((allI (B.take b) ++ x.code.take y.1) ++ remL W y.2.2).Perm W) (fun y => mkSt [(3, .bool true), (4, .sl (B.map Bk.av)), (6, .sl (insl W)), (7, .rw 0), (8, AV.i y.2.1), (9, AV.i b), (10, AV.i y.1)] [(0, .row 1 (bl y.2.2))] 1) (fun y => x.code.length - y.1) (0, n, U) ⟨Nat.zero_le _, rfl, hU, by simpa using hpm⟩ (fun i => 0) (by refine ent_mk (by simp [go_sem]) (by simp [go_sem]) (by simp) (by simp [hN])) ?_
        rintro ⟨k, m, V⟩ ⟨hk, hm0, hV, hpv⟩
        simp only at hk hm0 hV hpv
        by_cases klt : k < x.code.length
        · obtain ⟨c, hcc⟩ := get?_of klt
          have hle : m + 1 ≤ W.length := by
            have := hpl
            rw [allI_split hx hcc] at this
            simp only [List.length_append, List.length_cons, List.length_take] at this
            omega
          obtain ⟨i0, hi0, hi1⟩ := next_found hpv hp (allI_split hx hcc)
          repeat' (first | refine K_seq ?_ | refine K_blk ?_ | refine AW_skip ?_ | refine AW_exit ?_ | refine Kq_exit_code ?_ | refine Kq_exit_lp ?_ | refine Kq_exit_blk ?_ | refine Kq_exit_ne (by decide) ?_ | refine Kq_norm_code ?_ | refine Kq_norm_blk ?_ | refine Kq_norm_lp ?_ | rw [wrap64 (by omega) (by omega)] | (refine hK _ ?_; clear hK hKp K Kp; (try clear hanc anc)) | (refine hKp _ _ ?_; clear hK hKp K Kp; (try clear hanc anc)) | ((with_reducible refine And.intro ?_ ?_); (focus (first | trivial | omega | (simp only [Fits]; omega) | (refine ⟨?_, ?_⟩ <;> (simp only [Fits]; omega)) | assumption | (rw [hanc]; rfl)))) | ((first | refine K_regA hE fun K Kp hK hKp => ?_ | refine K_drwA false mixed hE fun K Kp hK hKp anc hanc => ?_); simp only [go_sem, ↓reduceIte, reduceCtorEq, Nat.reduceAdd, Nat.reduceMul, Nat.reduceEqDiff, Nat.reduceLT, Nat.reduceLeDiff, Nat.reduceSub, Nat.reduceDiv, Nat.reducePow, Nat.reduceBEq, Int.reduceBEq, Int.reduceBNe, Int.reduceLT, Int.reduceLE, Int.reduceEq, lt_dec klt, hx, hcc, Bk.av]) | ((first | refine onG_split_t (fun hg => ?_) (fun hg => ?_) | refine onG_split_f (fun hg => ?_) (fun hg => ?_)) <;> simp only [go_sem, ↓reduceIte, reduceCtorEq, Nat.reduceAdd, Nat.reduceMul, Nat.reduceEqDiff, Nat.reduceLT, Nat.reduceLeDiff, Nat.reduceSub, Nat.reduceDiv, Nat.reducePow, Nat.reduceBEq, Int.reduceBEq, Int.reduceBNe, Int.reduceLT, Int.reduceLE, Int.reduceEq, lt_dec klt, hx, hcc, Bk.av, hg]) | (refine K_condA (fun hc => ?_) (fun hc => ?_) <;> try (exact absurd hc (by decide))) | (refine K_ret ?_; refine (hQ _ ⟨_, by (try simp only [go_sem, ↓reduceIte, Nat.reduceEqDiff]); rfl, by simp [go_sem], ?_, by first | rfl | assumption⟩).1))
          refine K_loop (X := Nat × Bool × List Bool) (fun z => z.1 ≤ W.length ∧ z.2.2.length = W.length ∧ (z.2.1 = false → z.2.2 = V ∧ z.1 ≤ i0) ∧ (z.2.1 = true → ((allI (B.take b) ++ x.code.take (k + 1)) ++ remL W z.2.2).Perm W)) (fun z => mkSt [(3, .bool true), (4, .sl (B.map Bk.av)), (6, .sl (insl W)), (7, .rw 0), (8, AV.i (m + 1 : Nat)), (9, AV.i b), (10, AV.i k), (11, .bool z.2.1), (12, AV.i z.1)] [(0, .row 1 (bl z.2.2))] 1) (fun z => W.length - z.1) (0, false, V) ⟨Nat.zero_le _, hV, fun _ => ⟨rfl, Nat.zero_le _⟩, fun h => (by cases h)⟩ (fun i => 0) (by refine ent_mk (by simp [go_sem]) (by simp [go_sem]) (by simp) (by simp [hN])) ?_
          rintro ⟨j, f, U2⟩ ⟨hj, hU2, hn, hfo⟩
          simp only at hj hU2 hn hfo
          cases f
          · obtain ⟨rfl, hji⟩ := hn rfl
            have hiw := (List.getElem?_eq_some_iff.1 hi0).1
            have jlt : j < W.length := by omega
            obtain ⟨w, hw⟩ := get?_of jlt
            obtain ⟨u, hu⟩ := get?_of (hU2 ▸ jlt)
            have hwo := hok w (List.mem_of_getElem? hw)
            cases u
            · by_cases hwc : w = c
              · subst hwc
                repeat' (first | refine K_seq ?_ | refine K_blk ?_ | refine AW_skip ?_ | refine AW_exit ?_ | refine Kq_exit_code ?_ | refine Kq_exit_lp ?_ | refine Kq_exit_blk ?_ | refine Kq_exit_ne (by decide) ?_ | refine Kq_norm_code ?_ | refine Kq_norm_blk ?_ | refine Kq_norm_lp ?_ | rw [wrap64 (by omega) (by omega)] | (refine hK _ ?_; clear hK hKp K Kp; (try clear hanc anc)) | (refine hKp _ _ ?_; clear hK hKp K Kp; (try clear hanc anc)) | ((with_reducible refine And.intro ?_ ?_); (focus (first | trivial | omega | (simp only [Fits]; omega) | (refine ⟨?_, ?_⟩ <;> (simp only [Fits]; omega)) | assumption | (rw [hanc]; rfl)))) | ((first | refine K_regA hE fun K Kp hK hKp => ?_ | refine K_drwA false mixed hE fun K Kp hK hKp anc hanc => ?_ | ((first | apply CallP_mk | apply CallB_mk); (focus (simp only [go_sem]; rfl)); (focus (exact sameIns_call w w hwo.1 hwo.2)); (focus (simp [go_sem])); (focus (first | exact .inl rfl | (right; simp [go_sem]))))); simp only [go_sem, ↓reduceIte, reduceCtorEq, Nat.reduceAdd, Nat.reduceMul, Nat.reduceEqDiff, Nat.reduceLT, Nat.reduceLeDiff, Nat.reduceSub, Nat.reduceDiv, Nat.reducePow, Nat.reduceBEq, Int.reduceBEq, Int.reduceBNe, Int.reduceLT, Int.reduceLE, Int.reduceEq, lt_dec jlt, hx, hcc, hw, hu, Bk.av, Ins.av, decide_true]) | ((first | refine onG_split_t (fun hg => ?_) (fun hg => ?_) | refine onG_split_f (fun hg => ?_) (fun hg => ?_)) <;> simp only [go_sem, ↓reduceIte, reduceCtorEq, Nat.reduceAdd, Nat.reduceMul, Nat.reduceEqDiff, Nat.reduceLT, Nat.reduceLeDiff, Nat.reduceSub, Nat.reduceDiv, Nat.reducePow, Nat.reduceBEq, Int.reduceBEq, Int.reduceBNe, Int.reduceLT, Int.reduceLE, Int.reduceEq, lt_dec jlt, hx, hcc, hw, hu, Bk.av, Ins.av, decide_true, hg]) | (refine K_condA (fun hc => ?_) (fun hc => ?_) <;> try (exact absurd hc (by decide))) | (refine K_ret ?_; refine (hQ _ ⟨_, by (try simp only [go_sem, ↓reduceIte, Nat.reduceEqDiff]); rfl, by simp [go_sem], ?_, by first | rfl | assumption⟩).1))
                exact ⟨(j + 1, true, U2.set j true), ⟨by simp only; omega, by simpa using hU2, fun h => (by cases h), fun _ => (by rw [List.take_add_one, hcc, ← List.append_assoc]; exact next_perm hpv hw hu)⟩, by simp only; omega, fun i => 0, by refine ent_mk (by simp [go_sem]) (by simp [go_sem]) (by simp) (by simp [hN])⟩
              · have hdc := decide_eq_false hwc
                repeat' (first | refine K_seq ?_ | refine K_blk ?_ | refine AW_skip ?_ | refine AW_exit ?_ | refine Kq_exit_code ?_ | refine Kq_exit_lp ?_ | refine Kq_exit_blk ?_ | refine Kq_exit_ne (by decide) ?_ | refine Kq_norm_code ?_ | refine Kq_norm_blk ?_ | refine Kq_norm_lp ?_ | rw [wrap64 (by omega) (by omega)] | (refine hK _ ?_; clear hK hKp K Kp; (try clear hanc anc)) | (refine hKp _ _ ?_; clear hK hKp K Kp; (try clear hanc anc)) | ((with_reducible refine And.intro ?_ ?_); (focus (first | trivial | omega | (simp only [Fits]; omega) | (refine ⟨?_, ?_⟩ <;> (simp only [Fits]; omega)) | assumption | (rw [hanc]; rfl)))) | ((first | refine K_regA hE fun K Kp hK hKp => ?_ | refine K_drwA false mixed hE fun K Kp hK hKp anc hanc => ?_ | ((first | apply CallP_mk | apply CallB_mk); (focus (simp only [go_sem]; rfl)); (focus (exact sameIns_call w c hwo.1 hwo.2)); (focus (simp [go_sem])); (focus (first | exact .inl rfl | (right; simp [go_sem]))))); simp only [go_sem, ↓reduceIte, reduceCtorEq, Nat.reduceAdd, Nat.reduceMul, Nat.reduceEqDiff, Nat.reduceLT, Nat.reduceLeDiff, Nat.reduceSub, Nat.reduceDiv, Nat.reducePow, Nat.reduceBEq, Int.reduceBEq, Int.reduceBNe, Int.reduceLT, Int.reduceLE, Int.reduceEq, lt_dec jlt, hx, hcc, hw, hu, Bk.av, Ins.av, hdc]) | ((first | refine onG_split_t (fun hg => ?_) (fun hg => ?_) | refine onG_split_f (fun hg => ?_) (fun hg => ?_)) <;> simp only [go_sem, ↓reduceIte, reduceCtorEq, Nat.reduceAdd, Nat.reduceMul, Nat.reduceEqDiff, Nat.reduceLT, Nat.reduceLeDiff, Nat.reduceSub, Nat.reduceDiv, Nat.reducePow, Nat.reduceBEq, Int.reduceBEq, Int.reduceBNe, Int.reduceLT, Int.reduceLE, Int.reduceEq, lt_dec jlt, hx, hcc, hw, hu, Bk.av, Ins.av, hdc, hg]) | (refine K_condA (fun hc => ?_) (fun hc => ?_) <;> try (exact absurd hc (by decide))) | (refine K_ret ?_; refine (hQ _ ⟨_, by (try simp only [go_sem, ↓reduceIte, Nat.reduceEqDiff]); rfl, by simp [go_sem], ?_, by first | rfl | assumption⟩).1))
                have hji2 : j ≠ i0 := by rintro rfl; rw [hw] at hi0; exact hwc (Option.some.inj hi0)
                exact ⟨(j + 1, false, U2), ⟨by simp only; omega, hU2, fun _ => ⟨rfl, by simp only; omega⟩, fun h => (by cases h)⟩, by simp only; omega, fun i => 0, by refine ent_mk (by simp [go_sem]) (by simp [go_sem]) (by simp) (by simp [hN])⟩
            · repeat' (first | refine K_seq ?_ | refine K_blk ?_ | refine AW_skip ?_ | refine AW_exit ?_ | refine Kq_exit_code ?_ | refine Kq_exit_lp ?_ | refine Kq_exit_blk ?_ | refine Kq_exit_ne (by decide) ?_ | refine Kq_norm_code ?_ | refine Kq_norm_blk ?_ | refine Kq_norm_lp ?_ | rw [wrap64 (by omega) (by omega)] | (refine hK _ ?_; clear hK hKp K Kp; (try clear hanc anc)) | (refine hKp _ _ ?_; clear hK hKp K Kp; (try clear hanc anc)) | ((with_reducible refine And.intro ?_ ?_); (focus (first | trivial | omega | (simp only [Fits]; omega) | (refine ⟨?_, ?_⟩ <;> (simp only [Fits]; omega)) | assumption | (rw [hanc]; rfl)))) | ((first | refine K_regA hE fun K Kp hK hKp => ?_ | refine K_drwA false mixed hE fun K Kp hK hKp anc hanc => ?_ | ((first | apply CallP_mk | apply CallB_mk); (focus (simp only [go_sem]; rfl)); (focus (exact sameIns_call w c hwo.1 hwo.2)); (focus (simp [go_sem])); (focus (first | exact .inl rfl | (right; simp [go_sem]))))); simp only [go_sem, ↓reduceIte, reduceCtorEq, Nat.reduceAdd, Nat.reduceMul, Nat.reduceEqDiff, Nat.reduceLT, Nat.reduceLeDiff, Nat.reduceSub, Nat.reduceDiv, Nat.reducePow, Nat.reduceBEq, Int.reduceBEq, Int.reduceBNe, Int.reduceLT, Int.reduceLE, Int.reduceEq, lt_dec jlt, hx, hcc, hw, hu, Bk.av, Ins.av]) | ((first | refine onG_split_t (fun hg => ?_) (fun hg => ?_) | refine onG_split_f (fun hg => ?_) (fun hg => ?_)) <;> simp only [go_sem, ↓reduceIte, reduceCtorEq, Nat.reduceAdd, Nat.reduceMul, Nat.reduceEqDiff, Nat.reduceLT, Nat.reduceLeDiff, Nat.reduceSub, Nat.reduceDiv, Nat.reducePow, Nat.reduceBEq, Int.reduceBEq, Int.reduceBNe, Int.reduceLT, Int.reduceLE, Int.reduceEq, lt_dec jlt, hx, hcc, hw, hu, Bk.av, Ins.av, hg]) | (refine K_condA (fun hc => ?_) (fun hc => ?_) <;> try (exact absurd hc (by decide))) | (refine K_ret ?_; refine (hQ _ ⟨_, by (try simp only [go_sem, ↓reduceIte, Nat.reduceEqDiff]); rfl, by simp [go_sem], ?_, by first | rfl | assumption⟩).1))
              have hji2 : j ≠ i0 := by rintro rfl; rw [hu] at hi1; cases hi1
              exact ⟨(j + 1, false, U2), ⟨by simp only; omega, hU2, fun _ => ⟨rfl, by simp only; omega⟩, fun h => (by cases h)⟩, by simp only; omega, fun i => 0, by refine ent_mk (by simp [go_sem]) (by simp [go_sem]) (by simp) (by simp [hN])⟩
          · by_cases jlt : j < W.length
            · repeat' (first | refine K_seq ?_ | refine K_blk ?_ | refine AW_skip ?_ | refine AW_exit ?_ | refine Kq_exit_code ?_ | refine Kq_exit_lp ?_ | refine Kq_exit_blk ?_ | refine Kq_exit_ne (by decide) ?_ | refine Kq_norm_code ?_ | refine Kq_norm_blk ?_ | refine Kq_norm_lp ?_ | rw [wrap64 (by omega) (by omega)] | (refine hK _ ?_; clear hK hKp K Kp; (try clear hanc anc)) | (refine hKp _ _ ?_; clear hK hKp K Kp; (try clear hanc anc)) | ((with_reducible refine And.intro ?_ ?_); (focus (first | trivial | omega | (simp only [Fits]; omega) | (refine ⟨?_, ?_⟩ <;> (simp only [Fits]; omega)) | assumption | (rw [hanc]; rfl)))) | ((first | refine K_regA hE fun K Kp hK hKp => ?_ | refine K_drwA false mixed hE fun K Kp hK hKp anc hanc => ?_); simp only [go_sem, ↓reduceIte, reduceCtorEq, Nat.reduceAdd, Nat.reduceMul, Nat.reduceEqDiff, Nat.reduceLT, Nat.reduceLeDiff, Nat.reduceSub, Nat.reduceDiv, Nat.reducePow, Nat.reduceBEq, Int.reduceBEq, Int.reduceBNe, Int.reduceLT, Int.reduceLE, Int.reduceEq, lt_dec jlt]) | ((first | refine onG_split_t (fun hg => ?_) (fun hg => ?_) | refine onG_split_f (fun hg => ?_) (fun hg => ?_)) <;> simp only [go_sem, ↓reduceIte, reduceCtorEq, Nat.reduceAdd, Nat.reduceMul, Nat.reduceEqDiff, Nat.reduceLT, Nat.reduceLeDiff, Nat.reduceSub, Nat.reduceDiv, Nat.reducePow, Nat.reduceBEq, Int.reduceBEq, Int.reduceBNe, Int.reduceLT, Int.reduceLE, Int.reduceEq, lt_dec jlt, hg]) | (refine K_condA (fun hc => ?_) (fun hc => ?_) <;> try (exact absurd hc (by decide))) | (refine K_ret ?_; refine (hQ _ ⟨_, by (try simp only [go_sem, ↓reduceIte, Nat.reduceEqDiff]); rfl, by simp [go_sem], ?_, by first | rfl | assumption⟩).1))
              exact ⟨(k + 1, m + 1, U2), ⟨by simp only; omega, by simp only; omega, hU2, hfo rfl⟩, by simp only; omega, fun i => 0, by refine ent_mk (by simp [go_sem]) (by simp [go_sem]) (by simp) (by simp [hN])⟩
            · repeat' (first | refine K_seq ?_ | refine K_blk ?_ | refine AW_skip ?_ | refine AW_exit ?_ | refine Kq_exit_code ?_ | refine Kq_exit_lp ?_ | refine Kq_exit_blk ?_ | refine Kq_exit_ne (by decide) ?_ | refine Kq_norm_code ?_ | refine Kq_norm_blk ?_ | refine Kq_norm_lp ?_ | rw [wrap64 (by omega) (by omega)] | (refine hK _ ?_; clear hK hKp K Kp; (try clear hanc anc)) | (refine hKp _ _ ?_; clear hK hKp K Kp; (try clear hanc anc)) | ((with_reducible refine And.intro ?_ ?_); (focus (first | trivial | omega | (simp only [Fits]; omega) | (refine ⟨?_, ?_⟩ <;> (simp only [Fits]; omega)) | assumption | (rw [hanc]; rfl)))) | ((first | refine K_regA hE fun K Kp hK hKp => ?_ | refine K_drwA false mixed hE fun K Kp hK hKp anc hanc => ?_); simp only [go_sem, ↓reduceIte, reduceCtorEq, Nat.reduceAdd, Nat.reduceMul, Nat.reduceEqDiff, Nat.reduceLT, Nat.reduceLeDiff, Nat.reduceSub, Nat.reduceDiv, Nat.reducePow, Nat.reduceBEq, Int.reduceBEq, Int.reduceBNe, Int.reduceLT, Int.reduceLE, Int.reduceEq, show decide ((j : Int) < (W.length : Int)) = false by simp; omega]) | ((first | refine onG_split_t (fun hg => ?_) (fun hg => ?_) | refine onG_split_f (fun hg => ?_) (fun hg => ?_)) <;> simp only [go_sem, ↓reduceIte, reduceCtorEq, Nat.reduceAdd, Nat.reduceMul, Nat.reduceEqDiff, Nat.reduceLT, Nat.reduceLeDiff, Nat.reduceSub, Nat.reduceDiv, Nat.reducePow, Nat.reduceBEq, Int.reduceBEq, Int.reduceBNe, Int.reduceLT, Int.reduceLE, Int.reduceEq, show decide ((j : Int) < (W.length : Int)) = false by simp; omega, hg]) | (refine K_condA (fun hc => ?_) (fun hc => ?_) <;> try (exact absurd hc (by decide))) | (refine K_ret ?_; refine (hQ _ ⟨_, by (try simp only [go_sem, ↓reduceIte, Nat.reduceEqDiff]); rfl, by simp [go_sem], ?_, by first | rfl | assumption⟩).1))
              exact ⟨(k + 1, m + 1, U2), ⟨by simp only; omega, by simp only; omega, hU2, hfo rfl⟩, by simp only; omega, fun i => 0, by refine ent_mk (by simp [go_sem]) (by simp [go_sem]) (by simp) (by simp [hN])⟩
        · obtain rfl : k = x.code.length := by omega
          repeat' (first | refine K_seq ?_ | refine K_blk ?_ | refine AW_skip ?_ | refine AW_exit ?_ | refine Kq_exit_code ?_ | refine Kq_exit_lp ?_ | refine Kq_exit_blk ?_ | refine Kq_exit_ne (by decide) ?_ | refine Kq_norm_code ?_ | refine Kq_norm_blk ?_ | refine Kq_norm_lp ?_ | rw [wrap64 (by omega) (by omega)] | (refine hK _ ?_; clear hK hKp K Kp; (try clear hanc anc)) | (refine hKp _ _ ?_; clear hK hKp K Kp; (try clear hanc anc)) | ((with_reducible refine And.intro ?_ ?_); (focus (first | trivial | omega | (simp only [Fits]; omega) | (refine ⟨?_, ?_⟩ <;> (simp only [Fits]; omega)) | assumption | (rw [hanc]; rfl)))) | ((first | refine K_regA hE fun K Kp hK hKp => ?_ | refine K_drwA false mixed hE fun K Kp hK hKp anc hanc => ?_); simp only [go_sem, ↓reduceIte, reduceCtorEq, Nat.reduceAdd, Nat.reduceMul, Nat.reduceEqDiff, Nat.reduceLT, Nat.reduceLeDiff, Nat.reduceSub, Nat.reduceDiv, Nat.reducePow, Nat.reduceBEq, Int.reduceBEq, Int.reduceBNe, Int.reduceLT, Int.reduceLE, Int.reduceEq, ge_dec, hx, Bk.av]) | ((first | refine onG_split_t (fun hg => ?_) (fun hg => ?_) | refine onG_split_f (fun hg => ?_) (fun hg => ?_)) <;> simp only [go_sem, ↓reduceIte, reduceCtorEq, Nat.reduceAdd, Nat.reduceMul, Nat.reduceEqDiff, Nat.reduceLT, Nat.reduceLeDiff, Nat.reduceSub, Nat.reduceDiv, Nat.reducePow, Nat.reduceBEq, Int.reduceBEq, Int.reduceBNe, Int.reduceLT, Int.reduceLE, Int.reduceEq, ge_dec, hx, Bk.av, hg]) | (refine K_condA (fun hc => ?_) (fun hc => ?_) <;> try (exact absurd hc (by decide))) | (refine K_ret ?_; refine (hQ _ ⟨_, by (try simp only [go_sem, ↓reduceIte, Nat.reduceEqDiff]); rfl, by simp [go_sem], ?_, by first | rfl | assumption⟩).1))
          exact ⟨(b + 1, m, V), ⟨by simp only; omega, by simp only; rw [hbx, List.length_append]; omega, hV, by rw [hbx]; rw [List.take_length] at hpv; exact hpv⟩, by simp only; omega, fun i => 0, by refine ent_mk (by simp [go_sem]) (by simp [go_sem]) (by simp) (by simp [hN])⟩
      · obtain rfl : b = B.length := by omega
        repeat' (first | refine K_seq ?_ | refine K_blk ?_ | refine AW_skip ?_ | refine AW_exit ?_ | refine Kq_exit_code ?_ | refine Kq_exit_lp ?_ | refine Kq_exit_blk ?_ | refine Kq_exit_ne (by decide) ?_ | refine Kq_norm_code ?_ | refine Kq_norm_blk ?_ | refine Kq_norm_lp ?_ | rw [wrap64 (by omega) (by omega)] | (refine hK _ ?_; clear hK hKp K Kp; (try clear hanc anc)) | (refine hKp _ _ ?_; clear hK hKp K Kp; (try clear hanc anc)) | ((with_reducible refine And.intro ?_ ?_); (focus (first | trivial | omega | (simp only [Fits]; omega) | (refine ⟨?_, ?_⟩ <;> (simp only [Fits]; omega)) | assumption | (rw [hanc]; rfl)))) | ((first | refine K_regA hE fun K Kp hK hKp => ?_ | refine K_drwA false mixed hE fun K Kp hK hKp anc hanc => ?_); simp only [go_sem, ↓reduceIte, reduceCtorEq, Nat.reduceAdd, Nat.reduceMul, Nat.reduceEqDiff, Nat.reduceLT, Nat.reduceLeDiff, Nat.reduceSub, Nat.reduceDiv, Nat.reducePow, Nat.reduceBEq, Int.reduceBEq, Int.reduceBNe, Int.reduceLT, Int.reduceLE, Int.reduceEq, ge_dec]) | ((first | refine onG_split_t (fun hg => ?_) (fun hg => ?_) | refine onG_split_f (fun hg => ?_) (fun hg => ?_)) <;> simp only [go_sem, ↓reduceIte, reduceCtorEq, Nat.reduceAdd, Nat.reduceMul, Nat.reduceEqDiff, Nat.reduceLT, Nat.reduceLeDiff, Nat.reduceSub, Nat.reduceDiv, Nat.reducePow, Nat.reduceBEq, Int.reduceBEq, Int.reduceBNe, Int.reduceLT, Int.reduceLE, Int.reduceEq, ge_dec, hg]) | (refine K_condA (fun hc => ?_) (fun hc => ?_) <;> try (exact absurd hc (by decide))) | (refine K_ret ?_; refine (hQ _ ⟨_, by (try simp only [go_sem, ↓reduceIte, Nat.reduceEqDiff]); rfl, by simp [go_sem], ?_, by first | rfl | assumption⟩).1))
        rw [List.take_length] at hn0
        have : n = W.length := by omega
        subst this
        simp [go_sem, AV.snap]
    · repeat' (first | refine K_seq ?_ | refine K_blk ?_ | refine AW_skip ?_ | refine AW_exit ?_ | refine Kq_exit_code ?_ | refine Kq_exit_lp ?_ | refine Kq_exit_blk ?_ | refine Kq_exit_ne (by decide) ?_ | refine Kq_norm_code ?_ | refine Kq_norm_blk ?_ | refine Kq_norm_lp ?_ | rw [wrap64 (by omega) (by omega)] | (refine hK _ ?_; clear hK hKp K Kp; (try clear hanc anc)) | (refine hKp _ _ ?_; clear hK hKp K Kp; (try clear hanc anc)) | ((with_reducible refine And.intro ?_ ?_); (focus (first | trivial | omega | (simp only [Fits]; omega) | (refine ⟨?_, ?_⟩ <;> (simp only [Fits]; omega)) | assumption | (rw [hanc]; rfl)))) | ((first | refine K_regA hE fun K Kp hK hKp => ?_ | refine K_drwA false mixed hE fun K Kp hK hKp anc hanc => ?_ | ((first | apply CallP_mk | apply CallB_mk); (focus (simp only [go_sem]; rfl)); (focus (first | exact head_pc | exact few_call ts l h | exact c1 | exact c2)); (focus (simp [go_sem])); (focus (first | exact .inl rfl | (right; simp [go_sem]))))); simp only [go_sem, ↓reduceIte, reduceCtorEq, Nat.reduceAdd, Nat.reduceMul, Nat.reduceEqDiff, Nat.reduceLT, Nat.reduceLeDiff, Nat.reduceSub, Nat.reduceDiv, Nat.reducePow, Nat.reduceBEq, Int.reduceBEq, Int.reduceBNe, Int.reduceLT, Int.reduceLE, Int.reduceEq, hd]) | ((first | refine onG_split_t (fun hg => ?_) (fun hg => ?_) | refine onG_split_f (fun hg => ?_) (fun hg => ?_)) <;> simp only [go_sem, ↓reduceIte, reduceCtorEq, Nat.reduceAdd, Nat.reduceMul, Nat.reduceEqDiff, Nat.reduceLT, Nat.reduceLeDiff, Nat.reduceSub, Nat.reduceDiv, Nat.reducePow, Nat.reduceBEq, Int.reduceBEq, Int.reduceBNe, Int.reduceLT, Int.reduceLE, Int.reduceEq, hd, hg]) | (refine K_condA (fun hc => ?_) (fun hc => ?_) <;> try (exact absurd hc (by decide))) | (refine K_ret ?_; refine (hQ _ ⟨_, by (try simp only [go_sem, ↓reduceIte, Nat.reduceEqDiff]); rfl, by simp [go_sem], ?_, by first | rfl | assumption⟩).1))
      · simp [go_sem, AV.snap]
      · simp at hc
        exact absurd hc he
  · have hd := decide_eq_false hf
    repeat' (first | refine K_seq ?_ | refine K_blk ?_ | refine AW_skip ?_ | refine AW_exit ?_ | refine Kq_exit_code ?_ | refine Kq_exit_lp ?_ | refine Kq_exit_blk ?_ | refine Kq_exit_ne (by decide) ?_ | refine Kq_norm_code ?_ | refine Kq_norm_blk ?_ | refine Kq_norm_lp ?_ | rw [wrap64 (by omega) (by omega)] | (refine hK _ ?_; clear hK hKp K Kp; (try clear hanc anc)) | (refine hKp _ _ ?_; clear hK hKp K Kp; (try clear hanc anc)) | ((with_reducible refine And.intro ?_ ?_); (focus (first | trivial | omega | (simp only [Fits]; omega) | (refine ⟨?_, ?_⟩ <;> (simp only [Fits]; omega)) | assumption | (rw [hanc]; rfl)))) | ((first | refine K_regA hE fun K Kp hK hKp => ?_ | refine K_drwA false mixed hE fun K Kp hK hKp anc hanc => ?_ | ((first | apply CallP_mk | apply CallB_mk); (focus (simp only [go_sem]; rfl)); (focus (first | exact head_pc | exact few_call ts l h)); (focus (simp [go_sem])); (focus (first | exact .inl rfl | (right; simp [go_sem]))))); simp only [go_sem, ↓reduceIte, reduceCtorEq, Nat.reduceAdd, Nat.reduceMul, Nat.reduceEqDiff, Nat.reduceLT, Nat.reduceLeDiff, Nat.reduceSub, Nat.reduceDiv, Nat.reducePow, Nat.reduceBEq, Int.reduceBEq, Int.reduceBNe, Int.reduceLT, Int.reduceLE, Int.reduceEq, hd]) | ((first | refine onG_split_t (fun hg => ?_) (fun hg => ?_) | refine onG_split_f (fun hg => ?_) (fun hg => ?_)) <;> simp only [go_sem, ↓reduceIte, reduceCtorEq, Nat.reduceAdd, Nat.reduceMul, Nat.reduceEqDiff, Nat.reduceLT, Nat.reduceLeDiff, Nat.reduceSub, Nat.reduceDiv, Nat.reducePow, Nat.reduceBEq, Int.reduceBEq, Int.reduceBNe, Int.reduceLT, Int.reduceLE, Int.reduceEq, hd, hg]) | (refine K_condA (fun hc => ?_) (fun hc => ?_) <;> try (exact absurd hc (by decide))) | (refine K_ret ?_; refine (hQ _ ⟨_, by (try simp only [go_sem, ↓reduceIte, Nat.reduceEqDiff]); rfl, by simp [go_sem], ?_, by first | rfl | assumption⟩).1))
    rfl

theorem lowerOnce_pcall {H : Type} {d : DataW H} (h : DT Try.prog 25 d) (hb : bulk d ≤ 1048576) : PCall Try.prog 6 [avD d] (.bool true) := by
  obtain ⟨ts, l, h1, h2, h3⟩ := opn_typed h
  rw [h1]
  exact once_pc ts l (by omega)
end Go.Proofs.Ytdheeecpkkjfiaa

