/- A part of the proof: an abstract machine for the walks, and what the walked functions compute. -/
import Derived.Test.YtlhhahocjfgmdaaPq
import Derived.Test.YtlhhahocjfgmdaaPa
import Derived.Test.YtlhhahocjfgmdaaMr
set_option linter.unusedVariables false
set_option linter.unusedSimpArgs false
set_option linter.unusedSimpArgs false
set_option linter.unusedVariables false
set_option maxHeartbeats 4000000
set_option maxRecDepth 100000
namespace Go.Proofs.Ytlhhahocjfgmdaa
open Nat (reduceAdd reduceMul reduceEqDiff reduceLT reduceLeDiff reduceSub reduceDiv)
open Int (reduceBNe reduceLE reduceEq)
open Go.Am Go.Proofs Go.Hv Go.Mv
open Classical
attribute [local irreducible] AW CallP CallB CallY
theorem ill_app (l : List (List Int)) (x : List Int) : ill l ++ [.sl (il x)] = ill (l ++ [x]) := by simp [ill]
theorem take_snoc {α : Type} {l : List α} {k : Nat} {x : α} (h : l[k]? = some x) : l.take (k + 1) = l.take k ++ [x] := by rw [List.take_add_one, h]; rfl
theorem AW_frzSlot {E : En} {fr : Nat → Option AV} {hp : Nat → Option AObj} {nx : Nat} {c : Code} {Q : AEx → St → Prop} (t id : Nat) {sz : Nat} {xs : List AV} (hx : fr t = some (.rw id)) (h : hp id = some (.row sz xs)) (hc : CloRow xs) (h2 : AW Try.prog E c Q ⟨upd fr t (.sl xs), updo hp id none, nx⟩) : AW Try.prog E c Q ⟨fr, hp, nx⟩ := AW_frz1 t id hx h hc h2
theorem composed_call (one two : List Mg) (hc : CmpOk one two) (hB1 : MgL one) (hB2 : MgL two) : PCall Try.prog 17 [.sl (mgl one), .sl (mgl two)] (.sl (mgl (compM one two))) := by
 have hl1 := hB1.1
 refine PCall.intro Try.func17 rfl isf17 (by simp [Try.f17]) (by simp [AV.cloL, AV.clo]) fun E Q hE hN hQ => K_start ?_
 repeat' (first | apply nx | refine Kq_exit_ne (by decide) ?_ | rw [wrap64 (by omega) (by omega)] | ((first | refine hK _ ?_ | refine hKp _ _ ?_); clear hK hKp K Kp; try clear hanc anc) | ((with_reducible refine And.intro ?_ ?_); (focus (first | trivial | omega | (simp only [Fits]; omega) | assumption | (rw [hanc]; rfl)))) | ((first | refine K_regA hE fun K Kp hK hKp => ?_ | refine K_drwA true mixed hE fun K Kp hK hKp anc hanc => ?_ | refine K_drwA false mixed hE fun K Kp hK hKp anc hanc => ?_); simp only [go_sem]) | ((first | refine onG_split_t (fun hg => ?_) (fun hg => ?_) | refine onG_split_f (fun hg => ?_) (fun hg => ?_)) <;> simp only [go_sem, hg]) | (refine K_condA (fun hc => ?_) (fun hc => ?_) <;> try (exact absurd hc (by decide))))
 refine AW_nil 5 3 (by rw [hE]; decide) (by simp only [go_sem]) ?_
 refine K_loop (X := Nat) (fun i => i ≤ one.length) (fun i => mkSt [(0, .sl (mgl one)), (1, .sl (mgl two)), (5, .rw 0), (6, AV.i i)] [(0, .row 3 (mgl ((compM one two).take i)))] 1) (fun i => one.length - i) 0 (Nat.zero_le _) (fun i => 3145728) (by refine ent_mk (by simp [go_sem, mgl]) (by simp [go_sem, mgl]) (by simp) (by simp [hN])) ?_
 intro i hi
 by_cases hlt : i < one.length
 case neg =>
  obtain rfl : i = one.length := by omega
  have e : (compM one two).take one.length = compM one two := by rw [← compM_len one two, List.take_length]
  repeat' (first | apply nx | refine Kq_exit_ne (by decide) ?_ | rw [wrap64 (by omega) (by omega)] | ((first | refine hK _ ?_ | refine hKp _ _ ?_); clear hK hKp K Kp; try clear hanc anc) | ((with_reducible refine And.intro ?_ ?_); (focus (first | trivial | omega | (simp only [Fits]; omega) | assumption | (rw [hanc]; rfl)))) | ((first | refine K_regA hE fun K Kp hK hKp => ?_ | refine K_drwA false mixed hE fun K Kp hK hKp anc hanc => ?_); simp only [go_sem, ge_dec]) | ((first | refine onG_split_t (fun hg => ?_) (fun hg => ?_) | refine onG_split_f (fun hg => ?_) (fun hg => ?_)) <;> simp only [go_sem, ge_dec, hg]) | (refine K_condA (fun hc => ?_) (fun hc => ?_) <;> try (exact absurd hc (by decide))) | (refine K_ret ?_; refine (hQ _ ⟨_, by (try simp only [go_sem, ↓reduceIte, Nat.reduceEqDiff]); rfl, by simp [go_sem], ?_, by first | rfl | assumption⟩).1))
  simp [AV.snap, go_sem, e]
 obtain ⟨x, hx⟩ := get?_of hlt
 obtain ⟨y, hy, hxy⟩ := hc x (List.mem_of_getElem? hx)
 obtain ⟨di, hdi, hy2⟩ := at_some hy
 have hBx := hB1.2 x (List.mem_of_getElem? hx)
 have hBy := hB2.2 y (List.mem_of_getElem? hy2)
 have hz := compM_get hx hy
 have hzl := comp1_len x y
 have hzd : (comp1 x y).data = y.data := rfl
 repeat' (first | apply nx | refine Kq_exit_ne (by decide) ?_ | rw [wrap64 (by omega) (by omega)] | ((first | refine hK _ ?_ | refine hKp _ _ ?_); clear hK hKp K Kp; try clear hanc anc) | ((with_reducible refine And.intro ?_ ?_); (focus (first | trivial | omega | (simp only [Fits]; omega) | assumption | (rw [hanc]; rfl)))) | ((first | refine K_regA hE fun K Kp hK hKp => ?_ | refine K_drwA true mixed hE fun K Kp hK hKp anc hanc => ?_ | refine K_drwA false mixed hE fun K Kp hK hKp anc hanc => ?_); simp only [go_sem, lt_dec hlt, hx, hy2, hdi, Mg.av, Mg.cs_eq]) | ((first | refine onG_split_t (fun hg => ?_) (fun hg => ?_) | refine onG_split_f (fun hg => ?_) (fun hg => ?_)) <;> simp only [go_sem, lt_dec hlt, hx, hy2, hdi, Mg.av, Mg.cs_eq, hg]) | (refine K_condA (fun hc => ?_) (fun hc => ?_) <;> try (exact absurd hc (by decide))))
 refine AW_nilc 20971521 1 1 (by simp [go_sem]; rfl) rfl ?_
 refine AW_nilc 20971521 2 1 (by simp [go_sem]; rfl) rfl ?_
 refine K_loop (X := Nat) (fun k => k ≤ x.vars.length) (fun k => mkSt [(0, .sl (mgl one)), (1, .sl (mgl two)), (5, .rw 0), (6, AV.i i), (7, .ptr 1 0), (8, .ptr 2 0), (9, .ptr 3 0), (10, AV.i k)]
  [(0, .row 3 (mgl ((compM one two).take i))), (1, .cells [.i di, .sl (il x.vars), .sl (ill x.fss)]), (2, .cells [.i y.data, .sl (il y.vars), .sl (ill y.fss)]), (3, .cells [.i y.data, .rw 4, .rw 5]), (4, .row 1 (il ((comp1 x y).vars.take k))), (5, .row 1 (ill ((comp1 x y).fss.take k)))] 6)
  (fun k => x.vars.length - k) 0 (Nat.zero_le _) (fun i => if i = 1 then 8388609 else if i = 2 then 15728641 else if i = 3 then 20971521 else if i = 4 then 24117249 else if i = 5 then 24117250 else i) (by refine ent_mk (by simp [go_sem, hdi, il, ill]) (by simp [go_sem, hdi, il, ill]) (by simp) (by simp [hN])) ?_
 intro k hk
 by_cases hlk : k < x.vars.length
 case neg =>
  obtain rfl : k = x.vars.length := by omega
  have e1 : (comp1 x y).vars.take x.vars.length = (comp1 x y).vars := by rw [← hzl.1, List.take_length]
  have e2 : (comp1 x y).fss.take x.vars.length = (comp1 x y).fss := by rw [← hzl.2, List.take_length]
  rw [e1, e2]
  have e3 : mgl ((compM one two).take i) ++ [.agg [.i y.data, .sl (il (comp1 x y).vars), .sl (ill (comp1 x y).fss)]] = mgl ((compM one two).take (i + 1)) := by
   rw [take_snoc hz, ← mgl_app]; rfl
  have hml : ((compM one two).take i).length = i := by rw [List.length_take, compM_len]; omega
  repeat' (first | apply nx | refine Kq_exit_ne (by decide) ?_ | rw [wrap64 (by omega) (by omega)] | ((first | refine hK _ ?_ | refine hKp _ _ ?_); clear hK hKp K Kp; try clear hanc anc) | ((with_reducible refine And.intro ?_ ?_); (focus (first | trivial | omega | (simp only [Fits]; omega) | assumption | (rw [hanc]; rfl)))) | ((fail_if_success refine K_stop 21 ?_); (first | refine K_regA hE fun K Kp hK hKp => ?_ | refine K_drwA true mixed hE fun K Kp hK hKp anc hanc => ?_ | refine K_drwA false mixed hE fun K Kp hK hKp anc hanc => ?_); simp only [go_sem, ge_dec]) | ((first | refine onG_split_t (fun hg => ?_) (fun hg => ?_) | refine onG_split_f (fun hg => ?_) (fun hg => ?_)) <;> simp only [go_sem, ge_dec, hg]) | (refine K_condA (fun hc => ?_) (fun hc => ?_) <;> try (exact absurd hc (by decide))))
  refine AW_frzCell 3 1 4 (sz := 1) (l := [.i y.data, .rw 4, .rw 5]) (xs := il (comp1 x y).vars) (by simp only [go_sem]) rfl (by simp only [go_sem]) (by decide) (clo_il _) ?_
  refine AW_frzCell 3 2 5 (sz := 1) (l := [.i y.data, .sl (il (comp1 x y).vars), .rw 5]) (xs := ill (comp1 x y).fss) (by simp only [go_sem]) rfl (by simp only [go_sem]) (by decide) (clo_ill _) ?_
  repeat' (first | apply nx | refine Kq_exit_ne (by decide) ?_ | rw [wrap64 (by omega) (by omega)] | ((first | refine hK _ ?_ | refine hKp _ _ ?_); clear hK hKp K Kp; try clear hanc anc) | ((with_reducible refine And.intro ?_ ?_); (focus (first | trivial | omega | (simp only [Fits]; omega) | assumption | (rw [hanc]; rfl)))) | ((first | refine K_regA hE fun K Kp hK hKp => ?_ | refine K_drwA true mixed hE fun K Kp hK hKp anc hanc => ?_ | refine K_drwA false mixed hE fun K Kp hK hKp anc hanc => ?_); simp only [go_sem, e3, hml]) | ((first | refine onG_split_t (fun hg => ?_) (fun hg => ?_) | refine onG_split_f (fun hg => ?_) (fun hg => ?_)) <;> simp only [go_sem, e3, hml, hg]) | (refine K_condA (fun hc => ?_) (fun hc => ?_) <;> try (exact absurd hc (by decide))))
  exact ⟨i + 1, by omega, by omega, fun i => 8388614, by refine ent_mk (by simp [go_sem]) (by simp [go_sem]) (by simp) (by simp [hN])⟩
 obtain ⟨v, hv⟩ := get?_of hlk
 obtain ⟨f, hf⟩ := get?_of (show k < x.fss.length by rw [hxy.len]; exact hlk)
 obtain ⟨w, g, hw, hg, hgf⟩ := hxy.ok k v f hv hf
 obtain ⟨hz1, hz2⟩ := comp1_get hxy hv hf hw hg
 obtain ⟨vi, rfl, hw2⟩ := at_some hw
 rw [at_nat] at hg
 have hBg := hBy.2.2 g (List.mem_of_getElem? hg)
 have ez1 := (take_snoc hz1).symm
 have ez2 := take_snoc hz2
 have hvt : ((comp1 x y).vars.take k).length = k := by rw [List.length_take, hzl.1]; omega
 have hft : ((comp1 x y).fss.take k).length = k := by rw [List.length_take, hzl.2]; omega
 repeat' (first | apply nx | refine Kq_exit_ne (by decide) ?_ | rw [wrap64 (by omega) (by omega)] | ((first | refine hK _ ?_ | refine hKp _ _ ?_); clear hK hKp K Kp; try clear hanc anc) | ((with_reducible refine And.intro ?_ ?_); (focus (first | trivial | omega | (simp only [Fits]; omega) | assumption | (rw [hanc]; rfl)))) | ((first | refine K_regA hE fun K Kp hK hKp => ?_ | refine K_drwA true mixed hE fun K Kp hK hKp anc hanc => ?_ | refine K_drwA false mixed hE fun K Kp hK hKp anc hanc => ?_); simp only [go_sem, lt_dec hlk, hv, hw2, hg, hvt, ez1]) | ((first | refine onG_split_t (fun hg => ?_) (fun hg => ?_) | refine onG_split_f (fun hg => ?_) (fun hg => ?_)) <;> simp only [go_sem, lt_dec hlk, hv, hw2, hg, hvt, ez1, hg]) | (refine K_condA (fun hc => ?_) (fun hc => ?_) <;> try (exact absurd hc (by decide))))
 refine AW_nil 11 1 (by rw [hE]; decide) (by simp only [go_sem]) ?_
 have hcg : (compF g f).length = g.length := by simp [compF]
 refine K_loop (X := Nat) (fun j => j ≤ g.length) (fun j => mkSt [(0, .sl (mgl one)), (1, .sl (mgl two)), (5, .rw 0), (6, AV.i i), (7, .ptr 1 0), (8, .ptr 2 0), (9, .ptr 3 0), (10, AV.i k), (11, .rw 6), (12, .sl (il g)), (13, AV.i j)]
  [(0, .row 3 (mgl ((compM one two).take i))), (1, .cells [.i di, .sl (il x.vars), .sl (ill x.fss)]), (2, .cells [.i y.data, .sl (il y.vars), .sl (ill y.fss)]), (3, .cells [.i y.data, .rw 4, .rw 5]), (4, .row 1 (il ((comp1 x y).vars.take (k + 1)))), (5, .row 1 (ill ((comp1 x y).fss.take k))), (6, .row 1 (il ((compF g f).take j)))] 7)
  (fun j => g.length - j) 0 (Nat.zero_le _) (fun i => if i = 4 then 17825798 else if i = 6 then 33554438 else i) (by refine ent_mk (by simp [go_sem]) (by simp [go_sem]) (by simp) (by simp [hN])) ?_
 intro j hj
 by_cases hlj : j < g.length
 case neg =>
  obtain rfl : j = g.length := by omega
  have e1 : (compF g f).take g.length = compF g f := by rw [← hcg, List.take_length]
  have e2 := ill_app ((comp1 x y).fss.take k) (compF g f)
  rw [← ez2] at e2
  rw [e1]
  repeat' (first | apply nx | refine Kq_exit_ne (by decide) ?_ | rw [wrap64 (by omega) (by omega)] | ((first | refine hK _ ?_ | refine hKp _ _ ?_); clear hK hKp K Kp; try clear hanc anc) | ((with_reducible refine And.intro ?_ ?_); (focus (first | trivial | omega | (simp only [Fits]; omega) | assumption | (rw [hanc]; rfl)))) | ((fail_if_success refine K_stop 20 ?_); (first | refine K_regA hE fun K Kp hK hKp => ?_ | refine K_drwA true mixed hE fun K Kp hK hKp anc hanc => ?_ | refine K_drwA false mixed hE fun K Kp hK hKp anc hanc => ?_); simp only [go_sem, ge_dec]) | ((first | refine onG_split_t (fun hg => ?_) (fun hg => ?_) | refine onG_split_f (fun hg => ?_) (fun hg => ?_)) <;> simp only [go_sem, ge_dec, hg]) | (refine K_condA (fun hc => ?_) (fun hc => ?_) <;> try (exact absurd hc (by decide))))
  refine AW_frzSlot 11 6 (sz := 1) (xs := il (compF g f)) (by simp only [go_sem]) (by simp only [go_sem]) (clo_il _) ?_
  repeat' (first | apply nx | refine Kq_exit_ne (by decide) ?_ | rw [wrap64 (by omega) (by omega)] | ((first | refine hK _ ?_ | refine hKp _ _ ?_); clear hK hKp K Kp; try clear hanc anc) | ((with_reducible refine And.intro ?_ ?_); (focus (first | trivial | omega | (simp only [Fits]; omega) | assumption | (rw [hanc]; rfl)))) | ((first | refine K_regA hE fun K Kp hK hKp => ?_ | refine K_drwA true mixed hE fun K Kp hK hKp anc hanc => ?_ | refine K_drwA false mixed hE fun K Kp hK hKp anc hanc => ?_); simp only [go_sem, e2, hft]) | ((first | refine onG_split_t (fun hg => ?_) (fun hg => ?_) | refine onG_split_f (fun hg => ?_) (fun hg => ?_)) <;> simp only [go_sem, e2, hft, hg]) | (refine K_condA (fun hc => ?_) (fun hc => ?_) <;> try (exact absurd hc (by decide))))
  exact ⟨k + 1, by omega, by omega, fun i => if i = 5 then 8388615 else i, by refine ent_mk (by simp [go_sem]) (by simp [go_sem]) (by simp) (by simp [hN])⟩
 obtain ⟨m, hm⟩ := get?_of hlj
 have hgt : ((compF g f).take j).length = j := by rw [List.length_take, hcg]; omega
 have hcj : (compF g f)[j]? = some ((at? f m).getD m) := by simp [compF, hm]
 have ecj := (take_snoc hcj).symm
 by_cases hm0 : m < 0
 ·have q1 : decide (m < 0) = true := by simpa using hm0
  rw [at_neg _ hm0, Option.getD_none] at ecj
  repeat' (first | apply nx | refine Kq_exit_ne (by decide) ?_ | rw [wrap64 (by omega) (by omega)] | ((first | refine hK _ ?_ | refine hKp _ _ ?_); clear hK hKp K Kp; try clear hanc anc) | ((with_reducible refine And.intro ?_ ?_); (focus (first | trivial | omega | (simp only [Fits]; omega) | assumption | (rw [hanc]; rfl)))) | ((first | refine K_regA hE fun K Kp hK hKp => ?_ | refine K_drwA true mixed hE fun K Kp hK hKp anc hanc => ?_ | refine K_drwA false mixed hE fun K Kp hK hKp anc hanc => ?_); simp only [go_sem, lt_dec hlj, hm, q1, hgt, ecj]) | ((first | refine onG_split_t (fun hg => ?_) (fun hg => ?_) | refine onG_split_f (fun hg => ?_) (fun hg => ?_)) <;> simp only [go_sem, lt_dec hlj, hm, q1, hgt, ecj, hg]) | (refine K_condA (fun hc => ?_) (fun hc => ?_) <;> try (exact absurd hc (by decide))))
  exact ⟨j + 1, by omega, by omega, fun i => if i = 6 then 15728647 else i, by refine ent_mk (by simp [go_sem]) (by simp [go_sem]) (by simp) (by simp [hN])⟩
 ·have q1 : decide (m < 0) = false := by simpa using hm0
  obtain ⟨a, rfl⟩ := Int.eq_ofNat_of_zero_le (show 0 ≤ m by omega)
  have hal := hgf a (List.mem_of_getElem? hm)
  obtain ⟨b, hb⟩ := get?_of (show a < f.length by omega)
  rw [at_nat, hb, Option.getD_some] at ecj
  repeat' (first | apply nx | refine Kq_exit_ne (by decide) ?_ | rw [wrap64 (by omega) (by omega)] | ((first | refine hK _ ?_ | refine hKp _ _ ?_); clear hK hKp K Kp; try clear hanc anc) | ((with_reducible refine And.intro ?_ ?_); (focus (first | trivial | omega | (simp only [Fits]; omega) | assumption | (rw [hanc]; rfl)))) | ((first | refine K_regA hE fun K Kp hK hKp => ?_ | refine K_drwA true mixed hE fun K Kp hK hKp anc hanc => ?_ | refine K_drwA false mixed hE fun K Kp hK hKp anc hanc => ?_); simp only [go_sem, lt_dec hlj, hm, hf, hb, q1, hgt, ecj]) | ((first | refine onG_split_t (fun hg => ?_) (fun hg => ?_) | refine onG_split_f (fun hg => ?_) (fun hg => ?_)) <;> simp only [go_sem, lt_dec hlj, hm, hf, hb, q1, hgt, ecj, hg]) | (refine K_condA (fun hc => ?_) (fun hc => ?_) <;> try (exact absurd hc (by decide))))
  exact ⟨j + 1, by omega, by omega, fun i => if i = 6 then 23068679 else i, by refine ent_mk (by simp [go_sem]) (by simp [go_sem]) (by simp) (by simp [hN])⟩
end Go.Proofs.Ytlhhahocjfgmdaa

set_option linter.unusedSimpArgs false
set_option linter.unusedVariables false
set_option maxHeartbeats 4000000
set_option maxRecDepth 100000
namespace Go.Proofs.Ytlhhahocjfgmdaa
open Nat (reduceAdd reduceMul reduceEqDiff reduceLT reduceLeDiff reduceSub reduceDiv)
open Int (reduceBNe reduceLE reduceEq)
open Go.Am Go.Proofs Go.Hv Go.Mv
open Classical
attribute [local irreducible] AW CallP CallB CallY
theorem mgl_comp {one two : List Mg} (hc : CmpOk one two) (h1 : MgL one) (h2 : MgL two) : MgL (compM one two) := by
 refine ⟨by rw [compM_len]; exact h1.1, fun z hz => ?_⟩
 obtain ⟨i, hi⟩ := List.getElem?_of_mem hz
 have hil := (List.getElem?_eq_some_iff.1 hi).1
 rw [compM_len] at hil
 obtain ⟨x, hx⟩ := get?_of hil
 obtain ⟨y, hy, hxy⟩ := hc x (List.mem_of_getElem? hx)
 rw [compM_get hx hy] at hi
 cases hi
 obtain ⟨m, _, hm⟩ := at_some hy
 have hBx := h1.2 x (List.mem_of_getElem? hx)
 have hBy := h2.2 y (List.mem_of_getElem? hm)
 refine ⟨by rw [(comp1_len x y).1]; exact hBx.1, by rw [(comp1_len x y).2]; exact hBx.1, fun f hf => ?_⟩
 simp only [comp1, List.mem_map] at hf
 obtain ⟨k, _, rfl⟩ := hf
 rw [compF, List.length_map]
 cases hg : at? y.fss (x.vars.getD k 0) with
 | none => exact Nat.zero_le _
 | some g =>
  obtain ⟨q, _, hq⟩ := at_some hg
  exact hBy.2.2 g (List.mem_of_getElem? hq)
theorem composes_pc (a b c : List Dd) (one two : List Mg) (t : Ty) (v : Vl) (ha : SzD a) (hb : SzD b) (hcc : SzD c) (h1 : MgL one) (h2 : MgL two) (hts : t.sz ≤ 2 ^ 30) (hvs : v.sz ≤ 2 ^ 20) : PCall Try.prog 5 [.sl (ddl a), .sl (ddl b), .sl (ddl c), .sl (mgl one), .sl (mgl two), t.av, v.av] (.bool true) := by
 have f1 := few_call a b one v (by omega)
 have f2 := few_call b c two v (by omega)
 have c1 := rcheck_call a b one ha hb h1
 have c2 := rcheck_call b c two hb hcc h2
 have s1 := rstored_call (2 ^ 40) t a.length 8 (by omega) (Nat.le_refl _) (by decide)
 have y1 := rtyped_call (2 ^ 40) a t v (by omega) (Nat.le_refl _) (by have := ha.le; omega)
 rw [Vl.av_eq] at f1 f2
 rw [Ty.av_eq] at s1
 rw [Ty.av_eq, Vl.av_eq] at y1
 rw [Ty.av_eq, Vl.av_eq]
 generalize hg1 : (decide (FewP a one) && (decide (FewP b []) && decide (sizeV v 60 ≤ 60))) = b1 at f1
 generalize hg2 : (decide (FewP b two) && (decide (FewP c []) && decide (sizeV v 60 ≤ 60))) = b2 at f2
 refine PCall.intro Try.func5 rfl isf5 (by simp [Try.f5]) (by simp [AV.cloL, AV.clo]) fun E Q hE hN hQ => K_start ?_
 cases b1
 ·repeat' (first | apply nx | refine Kq_exit_ne (by decide) ?_ | rw [wrap64 (by omega) (by omega)] | ((first | refine hK _ ?_ | refine hKp _ _ ?_); clear hK hKp K Kp; try clear hanc anc) | ((with_reducible refine And.intro ?_ ?_); (focus (first | trivial | omega | (simp only [Fits]; omega) | assumption | (rw [hanc]; rfl)))) | ((first | refine K_regA hE fun K Kp hK hKp => ?_ | refine K_drwA false mixed hE fun K Kp hK hKp anc hanc => ?_ | ((first | apply CallP_mk | apply CallB_mk); (focus (simp only [go_sem] <;> rfl)); (focus (first | exact head_call | exact f1)); (focus (first | (simp [go_sem]; done) | (simp [go_sem, CloRow, AV.cells, AV.clo]; done))); (focus (first | exact .inl rfl | (right; simp [go_sem]))))); simp only [go_sem]) | ((first | refine onG_split_t (fun hg => ?_) (fun hg => ?_) | refine onG_split_f (fun hg => ?_) (fun hg => ?_)) <;> simp only [go_sem, hg]) | (refine K_condA (fun hc => ?_) (fun hc => ?_) <;> try (exact absurd hc (by decide))) | (refine K_ret ?_; refine (hQ _ ⟨_, by (try simp only [go_sem, ↓reduceIte, Nat.reduceEqDiff]); rfl, by simp [go_sem], ?_, by first | rfl | assumption⟩).1))
  simp [AV.snap]
 cases b2
 ·repeat' (first | apply nx | refine Kq_exit_ne (by decide) ?_ | rw [wrap64 (by omega) (by omega)] | ((first | refine hK _ ?_ | refine hKp _ _ ?_); clear hK hKp K Kp; try clear hanc anc) | ((with_reducible refine And.intro ?_ ?_); (focus (first | trivial | omega | (simp only [Fits]; omega) | assumption | (rw [hanc]; rfl)))) | ((first | refine K_regA hE fun K Kp hK hKp => ?_ | refine K_drwA false mixed hE fun K Kp hK hKp anc hanc => ?_ | ((first | apply CallP_mk | apply CallB_mk); (focus (simp only [go_sem] <;> rfl)); (focus (first | exact head_call | exact f1 | exact f2)); (focus (first | (simp [go_sem]; done) | (simp [go_sem, CloRow, AV.cells, AV.clo]; done))); (focus (first | exact .inl rfl | (right; simp [go_sem]))))); simp only [go_sem]) | ((first | refine onG_split_t (fun hg => ?_) (fun hg => ?_) | refine onG_split_f (fun hg => ?_) (fun hg => ?_)) <;> simp only [go_sem, hg]) | (refine K_condA (fun hc => ?_) (fun hc => ?_) <;> try (exact absurd hc (by decide))) | (refine K_ret ?_; refine (hQ _ ⟨_, by (try simp only [go_sem, ↓reduceIte, Nat.reduceEqDiff]); rfl, by simp [go_sem], ?_, by first | rfl | assumption⟩).1))
  all_goals simp [AV.snap]
 by_cases hz1 : chkN a b one = 0
 case neg =>
  have q2 : (chkN a b one != 0) = true := by simp [hz1]
  repeat' (first | apply nx | refine Kq_exit_ne (by decide) ?_ | rw [wrap64 (by omega) (by omega)] | ((first | refine hK _ ?_ | refine hKp _ _ ?_); clear hK hKp K Kp; try clear hanc anc) | ((with_reducible refine And.intro ?_ ?_); (focus (first | trivial | omega | (simp only [Fits]; omega) | assumption | (rw [hanc]; rfl)))) | ((first | refine K_regA hE fun K Kp hK hKp => ?_ | refine K_drwA false mixed hE fun K Kp hK hKp anc hanc => ?_ | ((first | apply CallP_mk | apply CallB_mk); (focus (simp only [go_sem] <;> rfl)); (focus (first | exact head_call | exact f1 | exact f2 | exact c1)); (focus (first | (simp [go_sem]; done) | (simp [go_sem, CloRow, AV.cells, AV.clo]; done))); (focus (first | exact .inl rfl | (right; simp [go_sem]))))); simp only [go_sem, q2]) | ((first | refine onG_split_t (fun hg => ?_) (fun hg => ?_) | refine onG_split_f (fun hg => ?_) (fun hg => ?_)) <;> simp only [go_sem, q2, hg]) | (refine K_condA (fun hc => ?_) (fun hc => ?_) <;> try (exact absurd hc (by decide))) | (refine K_ret ?_; refine (hQ _ ⟨_, by (try simp only [go_sem, ↓reduceIte, Nat.reduceEqDiff]); rfl, by simp [go_sem], ?_, by first | rfl | assumption⟩).1))
  all_goals simp [AV.snap]
 rw [hz1] at c1
 by_cases hz2 : chkN b c two = 0
 case neg =>
  have q2 : (chkN b c two != 0) = true := by simp [hz2]
  repeat' (first | apply nx | refine Kq_exit_ne (by decide) ?_ | rw [wrap64 (by omega) (by omega)] | ((first | refine hK _ ?_ | refine hKp _ _ ?_); clear hK hKp K Kp; try clear hanc anc) | ((with_reducible refine And.intro ?_ ?_); (focus (first | trivial | omega | (simp only [Fits]; omega) | assumption | (rw [hanc]; rfl)))) | ((first | refine K_regA hE fun K Kp hK hKp => ?_ | refine K_drwA false mixed hE fun K Kp hK hKp anc hanc => ?_ | ((first | apply CallP_mk | apply CallB_mk); (focus (simp only [go_sem] <;> rfl)); (focus (first | exact head_call | exact f1 | exact f2 | exact c1 | exact c2)); (focus (first | (simp [go_sem]; done) | (simp [go_sem, CloRow, AV.cells, AV.clo]; done))); (focus (first | exact .inl rfl | (right; simp [go_sem]))))); simp only [go_sem, q2]) | ((first | refine onG_split_t (fun hg => ?_) (fun hg => ?_) | refine onG_split_f (fun hg => ?_) (fun hg => ?_)) <;> simp only [go_sem, q2, hg]) | (refine K_condA (fun hc => ?_) (fun hc => ?_) <;> try (exact absurd hc (by decide))) | (refine K_ret ?_; refine (hQ _ ⟨_, by (try simp only [go_sem, ↓reduceIte, Nat.reduceEqDiff]); rfl, by simp [go_sem], ?_, by first | rfl | assumption⟩).1))
  all_goals simp [AV.snap]
 rw [hz2] at c2
 cases h3 : stB a.length t 8
 ·rw [h3] at s1
  repeat' (first | apply nx | refine Kq_exit_ne (by decide) ?_ | rw [wrap64 (by omega) (by omega)] | ((first | refine hK _ ?_ | refine hKp _ _ ?_); clear hK hKp K Kp; try clear hanc anc) | ((with_reducible refine And.intro ?_ ?_); (focus (first | trivial | omega | (simp only [Fits]; omega) | assumption | (rw [hanc]; rfl)))) | ((first | refine K_regA hE fun K Kp hK hKp => ?_ | refine K_drwA false mixed hE fun K Kp hK hKp anc hanc => ?_ | ((first | apply CallP_mk | apply CallB_mk); (focus (simp only [go_sem] <;> rfl)); (focus (first | exact head_call | exact f1 | exact f2 | exact c1 | exact c2 | exact s1)); (focus (first | (simp [go_sem]; done) | (simp [go_sem, CloRow, AV.cells, AV.clo]; done))); (focus (first | exact .inl rfl | (right; simp [go_sem]))))); simp only [go_sem]) | ((first | refine onG_split_t (fun hg => ?_) (fun hg => ?_) | refine onG_split_f (fun hg => ?_) (fun hg => ?_)) <;> simp only [go_sem, hg]) | (refine K_condA (fun hc => ?_) (fun hc => ?_) <;> try (exact absurd hc (by decide))) | (refine K_ret ?_; refine (hQ _ ⟨_, by (try simp only [go_sem, ↓reduceIte, Nat.reduceEqDiff]); rfl, by simp [go_sem], ?_, by first | rfl | assumption⟩).1))
  all_goals simp [AV.snap]
 rw [h3] at s1
 cases h4 : tdB a t v
 ·rw [h4] at y1
  repeat' (first | apply nx | refine Kq_exit_ne (by decide) ?_ | rw [wrap64 (by omega) (by omega)] | ((first | refine hK _ ?_ | refine hKp _ _ ?_); clear hK hKp K Kp; try clear hanc anc) | ((with_reducible refine And.intro ?_ ?_); (focus (first | trivial | omega | (simp only [Fits]; omega) | assumption | (rw [hanc]; rfl)))) | ((first | refine K_regA hE fun K Kp hK hKp => ?_ | refine K_drwA false mixed hE fun K Kp hK hKp anc hanc => ?_ | ((first | apply CallP_mk | apply CallB_mk); (focus (simp only [go_sem] <;> rfl)); (focus (first | exact head_call | exact f1 | exact f2 | exact c1 | exact c2 | exact s1 | exact y1)); (focus (first | (simp [go_sem]; done) | (simp [go_sem, CloRow, AV.cells, AV.clo]; done))); (focus (first | exact .inl rfl | (right; simp [go_sem]))))); simp only [go_sem]) | ((first | refine onG_split_t (fun hg => ?_) (fun hg => ?_) | refine onG_split_f (fun hg => ?_) (fun hg => ?_)) <;> simp only [go_sem, hg]) | (refine K_condA (fun hc => ?_) (fun hc => ?_) <;> try (exact absurd hc (by decide))) | (refine K_ret ?_; refine (hQ _ ⟨_, by (try simp only [go_sem, ↓reduceIte, Nat.reduceEqDiff]); rfl, by simp [go_sem], ?_, by first | rfl | assumption⟩).1))
  all_goals simp [AV.snap]
 rw [h4] at y1
 obtain ⟨da, db, k1⟩ := chk_zero hz1
 obtain ⟨_, dc, k2⟩ := chk_zero hz2
 have hok := cmp_ok k1 k2
 have hcp := comp_p hok
 have k3 := chk_comp k1 k2 hcp (fun old ho ov hv t' ht => ⟨8, dtB_st da ho hv ht⟩)
 have hz3 := chk_one da dc k3
 have m1 := composed_call one two hok h1 h2
 have h5 := mgl_comp hok h1 h2
 have g1 := mig_ok hz1 h3 h4
 have g2 := types_ok k2 _ _ g1.2.1
 have g3 := types_ok k3 v t h4
 have e1 := valM_comp k1 k2 hcp v t h4
 have e2 := tyM_comp hcp t 8 (by rw [k1.len]; exact h3)
 simp only [Bool.and_eq_true, decide_eq_true_eq] at hg1 hg2
 have z1 := val_sz (few_le hg1.1) v g1.1
 have z2 := val_sz (few_le hg2.1) (valM one v).1 g2.1
 have v1 := value_call (2 ^ 38) v one (by omega) (Nat.le_refl _) (mig_b h1 hz1)
 have v2 := value_call (2 ^ 38) (valM one v).1 two (by omega) (Nat.le_refl _) (mig_b h2 hz2)
 have v3 := value_call (2 ^ 38) v (compM one two) (by omega) (Nat.le_refl _) (mig_b h5 hz3)
 have ck := check_call a c (compM one two) ha hcc h5
 rw [hz3] at ck
 rw [resV, if_pos g1.1] at v1
 rw [resV, if_pos g2.1] at v2
 rw [resV, if_pos g3.1] at v3
 rw [e1] at v3
 have sv := sameV_call (2 ^ 40) (valM two (valM one v).1).1 (valM two (valM one v).1).1 (by omega) (Nat.le_refl _)
 rw [decide_eq_true rfl] at sv
 have t1 := type_call (2 ^ 40) t (compM one two) (by omega) (Nat.le_refl _)
 have t2 := type_call (2 ^ 40) t one (by omega) (Nat.le_refl _)
 have t3 := type_call (2 ^ 40) (tyM one t) two (by rw [tyM_sz]; omega) (Nat.le_refl _)
 have st := sameT_call (2 ^ 40) (tyM two (tyM one t)) (tyM two (tyM one t)) (by rw [tyM_sz, tyM_sz]; omega) (Nat.le_refl _)
 rw [decide_eq_true rfl] at st
 rw [e2] at t1
 generalize (valM (compM one two) v).2 = r3 at v3
 generalize (valM two (valM one v).1).1 = yv at v2 v3 sv
 generalize (valM two (valM one v).1).2 = r2 at v2
 generalize (valM one v).1 = xv at v1 v2
 generalize (valM one v).2 = r1 at v1
 generalize tyM two (tyM one t) = ty2 at t1 t3 st
 generalize tyM one t = ty1 at t2 t3
 rw [Vl.av_eq v, Vl.av_eq xv] at v1
 rw [Vl.av_eq xv, Vl.av_eq yv] at v2
 rw [Vl.av_eq v, Vl.av_eq yv] at v3
 rw [Vl.av_eq yv] at sv
 rw [Ty.av_eq t, Ty.av_eq ty2] at t1
 rw [Ty.av_eq t, Ty.av_eq ty1] at t2
 rw [Ty.av_eq ty1, Ty.av_eq ty2] at t3
 rw [Ty.av_eq ty2] at st
 repeat' (first | apply nx | refine Kq_exit_ne (by decide) ?_ | rw [wrap64 (by omega) (by omega)] | ((first | refine hK _ ?_ | refine hKp _ _ ?_); clear hK hKp K Kp; try clear hanc anc) | ((with_reducible refine And.intro ?_ ?_); (focus (first | trivial | omega | (simp only [Fits]; omega) | assumption | (rw [hanc]; rfl)))) | ((first | refine K_regA hE fun K Kp hK hKp => ?_ | refine K_drwA false mixed hE fun K Kp hK hKp anc hanc => ?_ | ((first | apply CallP_mk | apply CallB_mk); (focus (simp only [go_sem] <;> rfl)); (focus (first | exact head_call | exact f1 | exact f2 | exact c1 | exact c2 | exact s1 | exact y1 | exact m1 | exact v1 | exact v2 | exact v3 | exact ck | exact sv | exact t1 | exact t2 | exact t3 | exact st)); (focus (first | (simp [go_sem]; done) | (simp [go_sem, CloRow, AV.cells, AV.clo]; done))); (focus (first | exact .inl rfl | (right; simp [go_sem]))))); simp only [go_sem]) | ((first | refine onG_split_t (fun hg => ?_) (fun hg => ?_) | refine onG_split_f (fun hg => ?_) (fun hg => ?_)) <;> simp only [go_sem, hg]) | (refine K_condA (fun hc => ?_) (fun hc => ?_) <;> try (exact absurd hc (by decide))) | (refine K_ret ?_; refine (hQ _ ⟨_, by (try simp only [go_sem, ↓reduceIte, Nat.reduceEqDiff]); rfl, by simp [go_sem], ?_, by first | rfl | assumption⟩).1))
 all_goals simp [AV.snap]
end Go.Proofs.Ytlhhahocjfgmdaa
