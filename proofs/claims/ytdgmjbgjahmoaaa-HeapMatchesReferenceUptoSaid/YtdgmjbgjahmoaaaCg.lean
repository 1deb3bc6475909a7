/- A part of the proof: an abstract machine for the walks, and what the walked functions compute. -/
import Derived.Test.YtdgmjbgjahmoaaaCf
set_option linter.unusedVariables false
set_option linter.unusedSimpArgs false
set_option maxHeartbeats 4000000
set_option maxRecDepth 100000
namespace Go.Proofs.Ytdgmjbgjahmoaaa
open Nat (reduceAdd reduceMul reduceEqDiff reduceLT reduceLeDiff reduceSub reduceDiv)
open Int (reduceBNe reduceLE reduceEq)
open Go.Am Go.Proofs Go.Hv
open Classical
attribute [local irreducible] AW CallP CallB CallY
def D0 : List Dt := [⟨⟨#[]⟩, 0, 0, [], 7⟩, ⟨⟨#[]⟩, 0, 0, [], -1⟩]
def wh (n : Int) (l : List Vl) : Vl := .mk 2 n 0 0 l false [] []
def CA : List Cl := [⟨true, -1, wh 0 []⟩]
def CZ : List Cl := [Cl.zero]
def hA : Hp := ⟨CA, []⟩
theorem CA_len : CA.length = 1 := rfl
theorem CZ_len : CZ.length = 1 := rfl
theorem CA_0 : CA[0]? = some ⟨true, -1, wh 0 []⟩ := rfl
theorem CZ_0 : CZ[0]? = some Cl.zero := rfl
theorem e_alloc : allocS hp0 (-1) (wh 0 []) = (hA, 0, 0) := by
 simp [allocS, hp0, hA, CA, wh, liveN, firstDead, putC]
theorem e_alloc2 : allocS hA 0 (numV 1 1) = (hp0, 0, 1) := by
 simp [allocS, hp0, hA]
theorem e_drop1 : dropS D0 hA (wh 0 [numV 3 0, numV 1 5]) = (⟨CZ, []⟩, ⟨[7, 7], 2, false⟩, 0) := by
 rfl
theorem e_drop2 : dropS D0 hA (wh 1 [numV 3 0]) = (⟨CZ, []⟩, ⟨[], 1, true⟩, 0) := by
 rfl
theorem e_drop3 : dropS D0 hA (wh 0 [numV 3 0, numV 3 0]) = (hp0, Fa.nil, 1) := by
 rfl
theorem e_open : openS hA = (⟨CA, [true]⟩, 0, 0) := by
 simp [openS, hA, openN, firstF, putB]
theorem e_free1 : freeS hA 0 = (⟨CZ, []⟩, wh 0 [], 0) := by
 simp [freeS, hA, CA, CZ]
theorem e_free2 : freeS ⟨CZ, []⟩ 0 = (hp0, zeroV, 18) := by
 simp [freeS, CZ, Cl.zero]
theorem e_count : countS hA (numV 3 0) = 1 := by rfl
theorem e_reach : reachS hA (numV 3 0) = [0] := by
 show reachN 1 [0] = [0]
 rw [reachN_succ, reachN]; simp
theorem smA (v : Vl) (hv : v.sz ≤ 2 ^ 20) : Sm hA v := ⟨by decide, by decide, fun c hc => by simp [hA, CA] at hc; subst hc; decide, hv⟩
theorem lA : hA.cells.length ≤ 2 ^ 20 := by decide
theorem lA2 : hA.arenas.length ≤ 2 ^ 20 := by decide
abbrev vv (k i n : Int) (l : List AV) : AV := .agg [.i k, .i i, .i 0, .i n, .sl l, .bool false, .sl [], .sl []]
theorem c_box : PCall Try.prog 21 [.i 0] (vv 3 0 0 []) := box_call 0
theorem c_num5 : PCall Try.prog 38 [.i 5] (vv 1 0 5 []) := number_call 5
theorem c_num1 : PCall Try.prog 38 [.i 1] (vv 1 0 1 []) := number_call 1
theorem c_wh0 : PCall Try.prog 37 [.i 0, .sl []] (vv 2 0 0 []) := whole_call 0 []
theorem c_wh1 : PCall Try.prog 37 [.i 0, .sl [vv 3 0 0 [], vv 1 0 5 []]] (vv 2 0 0 [vv 3 0 0 [], vv 1 0 5 []]) := whole_call 0 [numV 3 0, numV 1 5]
theorem c_wh2 : PCall Try.prog 37 [.i 1, .sl [vv 3 0 0 []]] (vv 2 1 0 [vv 3 0 0 []]) := whole_call 1 [numV 3 0]
theorem c_wh3 : PCall Try.prog 37 [.i 0, .sl [vv 3 0 0 [], vv 3 0 0 []]] (vv 2 0 0 [vv 3 0 0 [], vv 3 0 0 []]) := whole_call 0 [numV 3 0, numV 3 0]
theorem c_new : PCall Try.prog 34 [] (.agg [.sl [], .sl []]) := new_call
theorem c_alloc1 : PCall Try.prog 11 [.agg [.sl [], .sl []], .i (-1), vv 2 0 0 []] (.tup [.agg [.sl (cl CA), .sl []], .i 0, .i 0]) := by
 have := alloc_call hp0 (-1) (wh 0 []) (by decide) (by decide)
 rw [e_alloc] at this
 exact this
theorem c_alloc2 : PCall Try.prog 11 [.agg [.sl (cl CA), .sl []], .i 0, vv 1 0 1 []] (.tup [.agg [.sl [], .sl []], .i 0, .i 1]) := by
 have := alloc_call hA 0 (numV 1 1) lA lA2
 rw [e_alloc2] at this
 exact this
theorem c_drop1 : PCall Try.prog 17 [.sl (dl D0), .agg [.sl (cl CA), .sl []], vv 2 0 0 [vv 3 0 0 [], vv 1 0 5 []]] (.tup [.agg [.sl (cl CZ), .sl []], .sl [.i 7, .i 7], .i 2, .bool false, .i 0]) := by
 have := drop_call D0 hA (wh 0 [numV 3 0, numV 1 5]) (smA _ (by decide)) (by decide)
 rw [e_drop1] at this
 exact this
theorem c_drop2 : PCall Try.prog 17 [.sl (dl D0), .agg [.sl (cl CA), .sl []], vv 2 1 0 [vv 3 0 0 []]] (.tup [.agg [.sl (cl CZ), .sl []], .sl [], .i 1, .bool true, .i 0]) := by
 have := drop_call D0 hA (wh 1 [numV 3 0]) (smA _ (by decide)) (by decide)
 rw [e_drop2] at this
 exact this
theorem c_drop3 : PCall Try.prog 17 [.sl (dl D0), .agg [.sl (cl CA), .sl []], vv 2 0 0 [vv 3 0 0 [], vv 3 0 0 []]] (.tup [.agg [.sl [], .sl []], .sl [], .i 0, .bool false, .i 1]) := by
 have := drop_call D0 hA (wh 0 [numV 3 0, numV 3 0]) (smA _ (by decide)) (by decide)
 rw [e_drop3] at this
 exact this
theorem c_open : PCall Try.prog 24 [.agg [.sl (cl CA), .sl []]] (.tup [.agg [.sl (cl CA), .sl [.bool true]], .i 0, .i 0]) := by
 have := open_call hA lA lA2
 rw [e_open] at this
 exact this
theorem c_free1 : PCall Try.prog 15 [.agg [.sl (cl CA), .sl []], .i 0] (.tup [.agg [.sl (cl CZ), .sl []], vv 2 0 0 [], .i 0]) := by
 have := free_call hA 0 lA lA2
 rw [e_free1] at this
 exact this
theorem c_free2 : PCall Try.prog 15 [.agg [.sl (cl CZ), .sl []], .i 0] (.tup [.agg [.sl [], .sl []], vv 0 0 0 [], .i 18]) := by
 have := free_call ⟨CZ, []⟩ 0 (by decide) (by decide)
 rw [e_free2] at this
 exact this
theorem c_ints7 : PCall Try.prog 20 [.sl [.i 7, .i 7], .sl [.i 7, .i 7]] (.bool true) := by
 have := ints_call [7, 7] [7, 7] (by decide)
 rw [decide_eq_true rfl] at this
 exact this
theorem c_ints0 : PCall Try.prog 20 [.sl [.i 0], .sl [.i 0]] (.bool true) := by
 have := ints_call [0] [0] (by decide)
 rw [decide_eq_true rfl] at this
 exact this
theorem c_sameV : PCall Try.prog 16 [vv 2 0 0 [], vv 2 0 0 []] (.bool true) := by
 have := sameV_call 100 (wh 0 []) (wh 0 []) (by decide) (by decide)
 rw [decide_eq_true rfl] at this
 exact this
theorem c_count : PCall Try.prog 30 [.agg [.sl (cl CA), .sl []], vv 3 0 0 []] (.i 1) := by
 have := count_call hA (numV 3 0) (smA _ (by decide))
 rw [e_count] at this
 exact this
theorem c_reach : PCall Try.prog 32 [.agg [.sl (cl CA), .sl []], vv 3 0 0 []] (.sl [.i 0]) := by
 have := reach_call hA (numV 3 0) (smA _ (by decide))
 rw [e_reach] at this
 exact this
theorem clo_dl (l : List Dt) : CloRow (dl l) := by
 intro x hx c hc
 obtain ⟨p, _, rfl⟩ := List.mem_map.1 hx
 simp only [AV.cells, Dt.av, List.mem_cons, List.not_mem_nil, or_false] at hc
 rcases hc with rfl | rfl | rfl | rfl | rfl <;> rfl
def I5  (D : Nat → Bool) (σ : St) : Prop :=
 σ.nx = 1 ∧ σ.fr 0 = some (.bool false) ∧ σ.fr 1 = some (.sl (dl D0)) ∧ σ.fr 2 = some (.ptr 0 0) ∧ σ.fr 3 = some (.i 0) ∧ σ.fr 4 = some (.i 0) ∧ σ.hp 0 = some (.cells [.sl (cl CA), .sl []]) ∧ (D 0 = true → σ.fr 65 = some (.sl (dl D0))) ∧ (D 1 = true → σ.fr 66 = some (.agg [.sl (cl CA), .sl []])) ∧ (D 2 = true → σ.fr 67 = some (vv 3 0 0 [])) ∧ (D 3 = true → σ.fr 68 = some (vv 1 0 5 [])) ∧ (D 4 = true → σ.fr 69 = some (.rw 4194305)) ∧ (D 5 = true → σ.fr 70 = some (vv 2 0 0 [vv 3 0 0 [], vv 1 0 5 []])) ∧ (D 6 = true → σ.fr 71 = some (.tup [.agg [.sl (cl CZ), .sl []], .sl [.i 7, .i 7], .i 2, .bool false, .i 0])) ∧ (D 7 = true → σ.fr 64 = some (.tup [.agg [.sl (cl CZ), .sl []], .sl [.i 7, .i 7], .i 2, .bool false, .i 0])) ∧ (D 8 = true → σ.fr 72 = some (.agg [.sl (cl CZ), .sl []])) ∧ (D 9 = true → σ.fr 73 = some (.sl [.i 7, .i 7])) ∧ (D 10 = true → σ.fr 74 = some (.i 2)) ∧ (D 11 = true → σ.fr 75 = some (.bool false)) ∧ (D 12 = true → σ.fr 76 = some (.i 0)) ∧ (D 13 = true → σ.fr 5 = some (.ptr 13631489 0)) ∧ (D 15 = true → σ.fr 6 = some (.sl [.i 7, .i 7])) ∧ (D 16 = true → σ.fr 7 = some (.i 2)) ∧ (D 17 = true → σ.fr 8 = some (.bool false)) ∧ (D 18 = true → σ.fr 9 = some (.i 0)) ∧ (D 4 = true → D 5 = false → σ.hp 4194305 = some (.row 8 [vv 3 0 0 [], vv 1 0 5 []])) ∧ (D 13 = true → D 14 = false → σ.hp 13631489 = some (.cells [.nilsl, .nilsl])) ∧ (D 14 = true → D 13 = true) ∧ (D 13 = true → D 14 = true → σ.hp 13631489 = some (.cells [.sl (cl CZ), .sl []]))
def I6  (D : Nat → Bool) (σ : St) : Prop :=
 σ.nx = 2 ∧ σ.fr 0 = some (.bool false) ∧ σ.fr 1 = some (.sl (dl D0)) ∧ σ.fr 2 = some (.ptr 0 0) ∧ σ.fr 3 = some (.i 0) ∧ σ.fr 4 = some (.i 0) ∧ σ.fr 5 = some (.ptr 1 0) ∧ σ.fr 6 = some (.sl [.i 7, .i 7]) ∧ σ.fr 7 = some (.i 2) ∧ σ.fr 8 = some (.bool false) ∧ σ.fr 9 = some (.i 0) ∧ σ.hp 0 = some (.cells [.sl (cl CA), .sl []]) ∧ σ.hp 1 = some (.cells [.sl (cl CZ), .sl []]) ∧ (D 0 = true → σ.fr 78 = some (.sl (dl D0))) ∧ (D 1 = true → σ.fr 79 = some (.agg [.sl (cl CA), .sl []])) ∧ (D 2 = true → σ.fr 80 = some (vv 3 0 0 [])) ∧ (D 3 = true → σ.fr 81 = some (.rw 3145730)) ∧ (D 4 = true → σ.fr 82 = some (vv 2 1 0 [vv 3 0 0 []])) ∧ (D 5 = true → σ.fr 83 = some (.tup [.agg [.sl (cl CZ), .sl []], .sl [], .i 1, .bool true, .i 0])) ∧ (D 6 = true → σ.fr 77 = some (.tup [.agg [.sl (cl CZ), .sl []], .sl [], .i 1, .bool true, .i 0])) ∧ (D 7 = true → σ.fr 84 = some (.agg [.sl (cl CZ), .sl []])) ∧ (D 8 = true → σ.fr 85 = some (.sl [])) ∧ (D 9 = true → σ.fr 86 = some (.i 1)) ∧ (D 10 = true → σ.fr 87 = some (.bool true)) ∧ (D 11 = true → σ.fr 88 = some (.i 0)) ∧ (D 12 = true → σ.fr 10 = some (.ptr 12582914 0)) ∧ (D 14 = true → σ.fr 11 = some (.sl [])) ∧ (D 15 = true → σ.fr 12 = some (.i 1)) ∧ (D 16 = true → σ.fr 13 = some (.bool true)) ∧ (D 17 = true → σ.fr 14 = some (.i 0)) ∧ (D 3 = true → D 4 = false → σ.hp 3145730 = some (.row 8 [vv 3 0 0 []])) ∧ (D 12 = true → D 13 = false → σ.hp 12582914 = some (.cells [.nilsl, .nilsl])) ∧ (D 13 = true → D 12 = true) ∧ (D 12 = true → D 13 = true → σ.hp 12582914 = some (.cells [.sl (cl CZ), .sl []]))
def I7  (D : Nat → Bool) (σ : St) : Prop :=
 σ.nx = 3 ∧ σ.fr 0 = some (.bool false) ∧ σ.fr 1 = some (.sl (dl D0)) ∧ σ.fr 2 = some (.ptr 0 0) ∧ σ.fr 3 = some (.i 0) ∧ σ.fr 4 = some (.i 0) ∧ σ.fr 5 = some (.ptr 1 0) ∧ σ.fr 6 = some (.sl [.i 7, .i 7]) ∧ σ.fr 7 = some (.i 2) ∧ σ.fr 8 = some (.bool false) ∧ σ.fr 9 = some (.i 0) ∧ σ.fr 10 = some (.ptr 2 0) ∧ σ.fr 11 = some (.sl []) ∧ σ.fr 12 = some (.i 1) ∧ σ.fr 13 = some (.bool true) ∧ σ.fr 14 = some (.i 0) ∧ σ.hp 0 = some (.cells [.sl (cl CA), .sl []]) ∧ σ.hp 1 = some (.cells [.sl (cl CZ), .sl []]) ∧ σ.hp 2 = some (.cells [.sl (cl CZ), .sl []]) ∧ (D 0 = true → σ.fr 90 = some (.sl (dl D0))) ∧ (D 1 = true → σ.fr 91 = some (.agg [.sl (cl CA), .sl []])) ∧ (D 2 = true → σ.fr 92 = some (vv 3 0 0 [])) ∧ (D 3 = true → σ.fr 93 = some (vv 3 0 0 [])) ∧ (D 4 = true → σ.fr 94 = some (.rw 4194307)) ∧ (D 5 = true → σ.fr 95 = some (vv 2 0 0 [vv 3 0 0 [], vv 3 0 0 []])) ∧ (D 6 = true → σ.fr 96 = some (.tup [.agg [.sl [], .sl []], .sl [], .i 0, .bool false, .i 1])) ∧ (D 7 = true → σ.fr 89 = some (.tup [.agg [.sl [], .sl []], .sl [], .i 0, .bool false, .i 1])) ∧ (D 8 = true → σ.fr 97 = some (.agg [.sl [], .sl []])) ∧ (D 9 = true → σ.fr 98 = some (.sl [])) ∧ (D 10 = true → σ.fr 99 = some (.i 0)) ∧ (D 11 = true → σ.fr 100 = some (.bool false)) ∧ (D 12 = true → σ.fr 101 = some (.i 1)) ∧ (D 13 = true → σ.fr 15 = some (.ptr 13631491 0)) ∧ (D 15 = true → σ.fr 16 = some (.sl [])) ∧ (D 16 = true → σ.fr 17 = some (.i 0)) ∧ (D 17 = true → σ.fr 18 = some (.bool false)) ∧ (D 18 = true → σ.fr 19 = some (.i 1)) ∧ (D 4 = true → D 5 = false → σ.hp 4194307 = some (.row 8 [vv 3 0 0 [], vv 3 0 0 []])) ∧ (D 13 = true → D 14 = false → σ.hp 13631491 = some (.cells [.nilsl, .nilsl])) ∧ (D 14 = true → D 13 = true) ∧ (D 13 = true → D 14 = true → σ.hp 13631491 = some (.cells [.sl [], .sl []]))
theorem nc0 : ((0 : Nat) : Int) = 0 := rfl
theorem head_pc : PCall Try.prog 9 [] (.bool true) := by
 refine PCall.intro Try.func9 rfl isf9 (by simp [Try.f9]) (by simp [AV.cloL, AV.clo]) fun E Q hE hN hQ => K_start ?_
 repeat' (first | apply nx | refine Kq_exit_ne (by decide) ?_ | rw [wrap64 (by omega) (by omega)] | ((first | refine hK _ ?_ | refine hKp _ _ ?_); clear hK hKp K Kp; try clear hanc anc) | ((with_reducible refine And.intro ?_ ?_); (focus (first | trivial | omega | (simp only [Fits]; omega) | assumption | (rw [hanc]; rfl)))) | ((fail_if_success refine K_stop 2 ?_); (first | refine K_regA hE fun K Kp hK hKp => ?_ | refine K_drwA true mixed hE fun K Kp hK hKp anc hanc => ?_ | refine K_drwA false mixed hE fun K Kp hK hKp anc hanc => ?_); simp only [go_sem]) | ((first | refine onG_split_t (fun hg => ?_) (fun hg => ?_) | refine onG_split_f (fun hg => ?_) (fun hg => ?_)) <;> simp only [go_sem, hg]) | (refine K_condA (fun hc => ?_) (fun hc => ?_) <;> try (exact absurd hc (by decide))))
 refine AW_snpRow 3145728 (dl D0) (by simp only [updo, if_true]; rfl) (by rfl) ?_ ?_
 ·intro i hi
  match i, hi with
  | 0, _ => exact .inr ⟨by simp [AV.snapOk, AV.snapOkL], rfl⟩
  | 1, _ => exact .inr ⟨by simp [AV.snapOk, AV.snapOkL], rfl⟩
 refine AW_frz1 1 3145728 (sz := 5) (xs := dl D0) (by simp only [go_sem]) (by simp only [go_sem]) (clo_dl D0) ?_
 refine AW.ent (σ' := mkSt [(0, .bool false), (1, .sl (dl D0))] [] 0) (fun i => i) (by refine ent_mk (by simp [go_sem]) (by simp [go_sem]) (by simp) (by simp [hN])) ?_
 repeat' (first | apply nx | refine Kq_exit_ne (by decide) ?_ | rw [wrap64 (by omega) (by omega)] | ((first | refine hK _ ?_ | refine hKp _ _ ?_); clear hK hKp K Kp; try clear hanc anc) | ((with_reducible refine And.intro ?_ ?_); (focus (first | trivial | omega | (simp only [Fits]; omega) | assumption | (rw [hanc]; rfl)))) | ((fail_if_success refine K_stop 3 ?_); (first | refine K_regA hE fun K Kp hK hKp => ?_ | refine K_drwA true mixed hE fun K Kp hK hKp anc hanc => ?_ | refine K_drwA false mixed hE fun K Kp hK hKp anc hanc => ?_ | ((first | apply CallP_mk | apply CallB_mk); (focus (simp only [go_sem] <;> rfl)); (focus (first | exact c_new | exact c_wh0 | exact c_alloc1)); (focus (first | (simp [go_sem]; done) | (simp [go_sem, CloRow, AV.cells, AV.clo]; done))); (focus (first | exact .inl rfl | (right; simp [go_sem]))))); simp only [go_sem]) | ((first | refine onG_split_t (fun hg => ?_) (fun hg => ?_) | refine onG_split_f (fun hg => ?_) (fun hg => ?_)) <;> simp only [go_sem, hg]) | (refine K_condA (fun hc => ?_) (fun hc => ?_) <;> try (exact absurd hc (by decide))))
 refine AW.ent (σ' := mkSt [(0, .bool false), (1, .sl (dl D0)), (2, .ptr 0 0), (3, .i 0), (4, .i 0)] [(0, .cells [.sl (cl CA), .sl []])] 1) (fun i => 7340032) (by refine ent_mk (by simp [go_sem]) (by simp [go_sem]) (by simp) (by simp [hN])) ?_
 repeat' (first | apply nx | refine Kq_exit_ne (by decide) ?_ | rw [wrap64 (by omega) (by omega)] | ((first | refine hK _ ?_ | refine hKp _ _ ?_); clear hK hKp K Kp; try clear hanc anc) | ((with_reducible refine And.intro ?_ ?_); (focus (first | trivial | omega | (simp only [Fits]; omega) | assumption | (rw [hanc]; rfl)))) | ((fail_if_success refine K_stop 5 ?_); (first | refine K_regA hE fun K Kp hK hKp => ?_ | refine K_drwA true mixed hE fun K Kp hK hKp anc hanc => ?_ | refine K_drwA false mixed hE fun K Kp hK hKp anc hanc => ?_); simp only [go_sem, CA_len, CA_0, Cl.av, Cl.cs_eq, Int.cast_ofNat_Int, Int.reduceToNat]) | ((first | refine onG_split_t (fun hg => ?_) (fun hg => ?_) | refine onG_split_f (fun hg => ?_) (fun hg => ?_)) <;> simp only [go_sem, CA_len, CA_0, Cl.av, Cl.cs_eq, Int.cast_ofNat_Int, Int.reduceToNat, hg]) | (refine K_condA (fun hc => ?_) (fun hc => ?_) <;> try (exact absurd hc (by decide))))
 refine AW.ent (σ' := mkSt [(0, .bool false), (1, .sl (dl D0)), (2, .ptr 0 0), (3, .i 0), (4, .i 0)] [(0, .cells [.sl (cl CA), .sl []])] 1) (fun i => i) (by refine ent_mk (by simp [go_sem]) (by simp [go_sem]) (by simp) (by simp [hN])) ?_
 repeat (first | apply w1 | apply w2)
 refine K_inv (n := 19) I5 mixed hE ?_ ?_ (fun Kp hKp => ?_) ?_ rfl
 ·intro D D' σ h
  have := fun j => (h j).symm
  unfold I5
  simp only [this]
  exact fun h => h
 ·simp [I5, go_sem, List.getElem?_cons_zero, List.getElem?_cons_succ]
 ·refine ⟨?_, ?_, ?_, ?_, ?_, ?_, ?_, ?_, ?_, ?_, ?_, ?_, ?_, ?_, ?_, ?_, ?_, ?_, ?_, trivial⟩
  all_goals rintro D' ⟨fr, hp, nx⟩ hD' hr ⟨hn, f0, f1, f2, f3, f4, h0, d0, d1, d2, d3, d4, d5, d6, d7, d8, d9, d10, d11, d12, d13, d15, d16, d17, d18, e4, e13, o14, s14⟩
  all_goals simp [Region.binds] at hn f0 f1 f2 f3 f4 h0 d0 d1 d2 d3 d4 d5 d6 d7 d8 d9 d10 d11 d12 d13 d15 d16 d17 d18 e4 e13 o14 s14 hD' hr
  all_goals subst hn
  all_goals try clear hQ
  ·skip
   simp only [go_sem, f1, List.getElem?_cons_zero, List.getElem?_cons_succ]
   (simp only [I5, upd, updo]; simp [f0, f1, f2, f3, f4, h0]; simp_all)
  ·skip
   simp only [go_sem, f2, h0, List.getElem?_cons_zero, List.getElem?_cons_succ]
   (simp only [I5, upd, updo]; simp [f0, f1, f2, f3, f4, h0]; simp_all)
  ·skip
   simp only [go_sem, List.getElem?_cons_zero, List.getElem?_cons_succ]
   refine CallB_mk (by simp only [go_sem] <;> rfl) c_box (by simp [go_sem]) (by first | exact .inl rfl | exact .inr rfl | (right; simp [go_sem])) ?_
   simp only [go_sem]
   (simp only [I5, upd, updo]; simp [f0, f1, f2, f3, f4, h0]; simp_all)
  ·skip
   simp only [go_sem, List.getElem?_cons_zero, List.getElem?_cons_succ]
   refine CallB_mk (by simp only [go_sem] <;> rfl) c_num5 (by simp [go_sem]) (by first | exact .inl rfl | exact .inr rfl | (right; simp [go_sem])) ?_
   simp only [go_sem]
   (simp only [I5, upd, updo]; simp [f0, f1, f2, f3, f4, h0]; simp_all)
  ·skip
   have zd2 := d2 (by simp [hr, hD'])
   have zd3 := d3 (by simp [hr, hD'])
   simp only [go_sem, zd2, zd3, List.getElem?_cons_zero, List.getElem?_cons_succ]
   (simp only [I5, upd, updo]; simp [f0, f1, f2, f3, f4, h0]; simp_all)
  ·skip
   have zd4 := d4 (by simp [hr, hD'])
   have ze4 := e4 (by simp [hr, hD']) (by simp [hr, hD'])
   simp only [go_sem, zd4, ze4, List.getElem?_cons_zero, List.getElem?_cons_succ]
   refine Hold.mk (CallB.dpure [4194305] 8 c_wh1 (by simp only [go_sem, List.mem_cons, List.not_mem_nil, or_false, zd4, ze4, List.getElem?_cons_zero, List.getElem?_cons_succ] <;> rfl) (by simp [go_sem, zd4, ze4]) (fun _ => rfl) (fun _ => by simp [AV.snapOkL, AV.snapOk]) rfl ?_)
   simp only [go_sem]
   (simp only [I5, upd, updo, notIn_at, List.mem_cons, List.not_mem_nil, or_false]; simp [f0, f1, f2, f3, f4, h0]; simp_all)
  ·skip
   have zd0 := d0 (by simp [hr, hD'])
   have zd1 := d1 (by simp [hr, hD'])
   have zd5 := d5 (by simp [hr, hD'])
   simp only [go_sem, zd0, zd1, zd5, List.getElem?_cons_zero, List.getElem?_cons_succ]
   refine CallB_mk (by simp only [go_sem] <;> rfl) c_drop1 (by simp [go_sem, zd0, zd1, zd5]) (by first | exact .inl rfl | exact .inr rfl | (right; simp [go_sem])) ?_
   simp only [go_sem]
   (simp only [I5, upd, updo]; simp [f0, f1, f2, f3, f4, h0]; simp_all)
  ·skip
   have zd6 := d6 (by simp [hr, hD'])
   simp only [go_sem, zd6, List.getElem?_cons_zero, List.getElem?_cons_succ]
   (simp only [I5, upd, updo]; simp [f0, f1, f2, f3, f4, h0]; simp_all)
  ·skip
   have zd7 := d7 (by simp [hr, hD'])
   simp only [go_sem, zd7, List.getElem?_cons_zero, List.getElem?_cons_succ]
   (simp only [I5, upd, updo]; simp [f0, f1, f2, f3, f4, h0]; simp_all)
  ·skip
   have zd7 := d7 (by simp [hr, hD'])
   simp only [go_sem, zd7, List.getElem?_cons_zero, List.getElem?_cons_succ]
   (simp only [I5, upd, updo]; simp [f0, f1, f2, f3, f4, h0]; simp_all)
  ·skip
   have zd7 := d7 (by simp [hr, hD'])
   simp only [go_sem, zd7, List.getElem?_cons_zero, List.getElem?_cons_succ]
   (simp only [I5, upd, updo]; simp [f0, f1, f2, f3, f4, h0]; simp_all)
  ·skip
   have zd7 := d7 (by simp [hr, hD'])
   simp only [go_sem, zd7, List.getElem?_cons_zero, List.getElem?_cons_succ]
   (simp only [I5, upd, updo]; simp [f0, f1, f2, f3, f4, h0]; simp_all)
  ·skip
   have zd7 := d7 (by simp [hr, hD'])
   simp only [go_sem, zd7, List.getElem?_cons_zero, List.getElem?_cons_succ]
   (simp only [I5, upd, updo]; simp [f0, f1, f2, f3, f4, h0]; simp_all)
  ·skip
   simp only [go_sem, List.getElem?_cons_zero, List.getElem?_cons_succ]
   (simp only [I5, upd, updo]; simp [f0, f1, f2, f3, f4, h0]; simp_all)
  ·skip
   have zd8 := d8 (by simp [hr, hD'])
   have zd13 := d13 (by simp [hr, hD'])
   have ze13 := e13 (by simp [hr, hD']) (by simp [hr, hD'])
   simp only [go_sem, zd8, zd13, ze13, List.getElem?_cons_zero, List.getElem?_cons_succ]
   (simp only [I5, upd, updo]; simp [f0, f1, f2, f3, f4, h0]; simp_all)
  ·skip
   have zd9 := d9 (by simp [hr, hD'])
   simp only [go_sem, zd9, List.getElem?_cons_zero, List.getElem?_cons_succ]
   (simp only [I5, upd, updo]; simp [f0, f1, f2, f3, f4, h0]; simp_all)
  ·skip
   have zd10 := d10 (by simp [hr, hD'])
   simp only [go_sem, zd10, List.getElem?_cons_zero, List.getElem?_cons_succ]
   (simp only [I5, upd, updo]; simp [f0, f1, f2, f3, f4, h0]; simp_all)
  ·skip
   have zd11 := d11 (by simp [hr, hD'])
   simp only [go_sem, zd11, List.getElem?_cons_zero, List.getElem?_cons_succ]
   (simp only [I5, upd, updo]; simp [f0, f1, f2, f3, f4, h0]; simp_all)
  ·skip
   have zd12 := d12 (by simp [hr, hD'])
   simp only [go_sem, zd12, List.getElem?_cons_zero, List.getElem?_cons_succ]
   (simp only [I5, upd, updo]; simp [f0, f1, f2, f3, f4, h0]; simp_all)
 rintro ⟨fr, hp, nx⟩ D' hD' ⟨hn, f0, f1, f2, f3, f4, h0, d0, d1, d2, d3, d4, d5, d6, d7, d8, d9, d10, d11, d12, d13, d15, d16, d17, d18, e4, e13, o14, s14⟩
 simp only at hn f0 f1 f2 f3 f4 h0 d0 d1 d2 d3 d4 d5 d6 d7 d8 d9 d10 d11 d12 d13 d15 d16 d17 d18 e4 e13 o14 s14
 have zd0 := d0 (hD' 0)
 have zd1 := d1 (hD' 1)
 have zd2 := d2 (hD' 2)
 have zd3 := d3 (hD' 3)
 have zd4 := d4 (hD' 4)
 have zd5 := d5 (hD' 5)
 have zd6 := d6 (hD' 6)
 have zd7 := d7 (hD' 7)
 have zd8 := d8 (hD' 8)
 have zd9 := d9 (hD' 9)
 have zd10 := d10 (hD' 10)
 have zd11 := d11 (hD' 11)
 have zd12 := d12 (hD' 12)
 have zd13 := d13 (hD' 13)
 have zd15 := d15 (hD' 15)
 have zd16 := d16 (hD' 16)
 have zd17 := d17 (hD' 17)
 have zd18 := d18 (hD' 18)
 have zs14 := s14 (hD' 13) (hD' 14)
 first | refine Kq_norm_code ?_ | refine Kq_norm_blk ?_ | refine Kq_norm_lp ?_
 refine AW.ent (σ' := mkSt [(0, .bool false), (1, .sl (dl D0)), (2, .ptr 0 0), (3, .i 0), (4, .i 0), (5, .ptr 1 0), (6, .sl [.i 7, .i 7]), (7, .i 2), (8, .bool false), (9, .i 0)] [(0, .cells [.sl (cl CA), .sl []]), (1, .cells [.sl (cl CZ), .sl []])] 2) (fun i => if i = 0 then 0 else 13631489) (by refine ent_mk (by simp [go_sem, f0, f1, f2, f3, f4, h0, zd0, zd1, zd2, zd3, zd4, zd5, zd6, zd7, zd8, zd9, zd10, zd11, zd12, zd13, zd15, zd16, zd17, zd18, zs14, List.getElem?_cons_zero, List.getElem?_cons_succ]) (by simp [go_sem, f0, f1, f2, f3, f4, h0, zd0, zd1, zd2, zd3, zd4, zd5, zd6, zd7, zd8, zd9, zd10, zd11, zd12, zd13, zd15, zd16, zd17, zd18, zs14, List.getElem?_cons_zero, List.getElem?_cons_succ]) (by simp) (by simp [hN])) ?_
 clear zd0 zd1 zd2 zd3 zd4 zd5 zd6 zd7 zd8 zd9 zd10 zd11 zd12 zd13 zd15 zd16 zd17 zd18 zs14 hn f0 f1 f2 f3 f4 h0 d0 d1 d2 d3 d4 d5 d6 d7 d8 d9 d10 d11 d12 d13 d15 d16 d17 d18 e4 e13 o14 s14 hD' fr hp nx D'
 repeat (first | apply w1 | apply w2)
 refine K_inv (n := 18) I6 mixed hE ?_ ?_ (fun Kp hKp => ?_) ?_ rfl
 ·intro D D' σ h
  have := fun j => (h j).symm
  unfold I6
  simp only [this]
  exact fun h => h
 ·simp [I6, go_sem, List.getElem?_cons_zero, List.getElem?_cons_succ]
 ·refine ⟨?_, ?_, ?_, ?_, ?_, ?_, ?_, ?_, ?_, ?_, ?_, ?_, ?_, ?_, ?_, ?_, ?_, ?_, trivial⟩
  all_goals rintro D' ⟨fr, hp, nx⟩ hD' hr ⟨hn, f0, f1, f2, f3, f4, f5, f6, f7, f8, f9, h0, h1, d0, d1, d2, d3, d4, d5, d6, d7, d8, d9, d10, d11, d12, d14, d15, d16, d17, e3, e12, o13, s13⟩
  all_goals simp [Region.binds] at hn f0 f1 f2 f3 f4 f5 f6 f7 f8 f9 h0 h1 d0 d1 d2 d3 d4 d5 d6 d7 d8 d9 d10 d11 d12 d14 d15 d16 d17 e3 e12 o13 s13 hD' hr
  all_goals subst hn
  all_goals try clear hQ
  ·skip
   simp only [go_sem, f1, List.getElem?_cons_zero, List.getElem?_cons_succ]
   (simp only [I6, upd, updo]; simp [f0, f1, f2, f3, f4, f5, f6, f7, f8, f9, h0, h1]; simp_all)
  ·skip
   simp only [go_sem, f2, h0, List.getElem?_cons_zero, List.getElem?_cons_succ]
   (simp only [I6, upd, updo]; simp [f0, f1, f2, f3, f4, f5, f6, f7, f8, f9, h0, h1]; simp_all)
  ·skip
   simp only [go_sem, List.getElem?_cons_zero, List.getElem?_cons_succ]
   refine CallB_mk (by simp only [go_sem] <;> rfl) c_box (by simp [go_sem]) (by first | exact .inl rfl | exact .inr rfl | (right; simp [go_sem])) ?_
   simp only [go_sem]
   (simp only [I6, upd, updo]; simp [f0, f1, f2, f3, f4, f5, f6, f7, f8, f9, h0, h1]; simp_all)
  ·skip
   have zd2 := d2 (by simp [hr, hD'])
   simp only [go_sem, zd2, List.getElem?_cons_zero, List.getElem?_cons_succ]
   (simp only [I6, upd, updo]; simp [f0, f1, f2, f3, f4, f5, f6, f7, f8, f9, h0, h1]; simp_all)
  ·skip
   have zd3 := d3 (by simp [hr, hD'])
   have ze3 := e3 (by simp [hr, hD']) (by simp [hr, hD'])
   simp only [go_sem, zd3, ze3, List.getElem?_cons_zero, List.getElem?_cons_succ]
   refine Hold.mk (CallB.dpure [3145730] 8 c_wh2 (by simp only [go_sem, List.mem_cons, List.not_mem_nil, or_false, zd3, ze3, List.getElem?_cons_zero, List.getElem?_cons_succ] <;> rfl) (by simp [go_sem, zd3, ze3]) (fun _ => rfl) (fun _ => by simp [AV.snapOkL, AV.snapOk]) rfl ?_)
   simp only [go_sem]
   (simp only [I6, upd, updo, notIn_at, List.mem_cons, List.not_mem_nil, or_false]; simp [f0, f1, f2, f3, f4, f5, f6, f7, f8, f9, h0, h1]; simp_all)
  ·skip
   have zd0 := d0 (by simp [hr, hD'])
   have zd1 := d1 (by simp [hr, hD'])
   have zd4 := d4 (by simp [hr, hD'])
   simp only [go_sem, zd0, zd1, zd4, List.getElem?_cons_zero, List.getElem?_cons_succ]
   refine CallB_mk (by simp only [go_sem] <;> rfl) c_drop2 (by simp [go_sem, zd0, zd1, zd4]) (by first | exact .inl rfl | exact .inr rfl | (right; simp [go_sem])) ?_
   simp only [go_sem]
   (simp only [I6, upd, updo]; simp [f0, f1, f2, f3, f4, f5, f6, f7, f8, f9, h0, h1]; simp_all)
  ·skip
   have zd5 := d5 (by simp [hr, hD'])
   simp only [go_sem, zd5, List.getElem?_cons_zero, List.getElem?_cons_succ]
   (simp only [I6, upd, updo]; simp [f0, f1, f2, f3, f4, f5, f6, f7, f8, f9, h0, h1]; simp_all)
  ·skip
   have zd6 := d6 (by simp [hr, hD'])
   simp only [go_sem, zd6, List.getElem?_cons_zero, List.getElem?_cons_succ]
   (simp only [I6, upd, updo]; simp [f0, f1, f2, f3, f4, f5, f6, f7, f8, f9, h0, h1]; simp_all)
  ·skip
   have zd6 := d6 (by simp [hr, hD'])
   simp only [go_sem, zd6, List.getElem?_cons_zero, List.getElem?_cons_succ]
   (simp only [I6, upd, updo]; simp [f0, f1, f2, f3, f4, f5, f6, f7, f8, f9, h0, h1]; simp_all)
  ·skip
   have zd6 := d6 (by simp [hr, hD'])
   simp only [go_sem, zd6, List.getElem?_cons_zero, List.getElem?_cons_succ]
   (simp only [I6, upd, updo]; simp [f0, f1, f2, f3, f4, f5, f6, f7, f8, f9, h0, h1]; simp_all)
  ·skip
   have zd6 := d6 (by simp [hr, hD'])
   simp only [go_sem, zd6, List.getElem?_cons_zero, List.getElem?_cons_succ]
   (simp only [I6, upd, updo]; simp [f0, f1, f2, f3, f4, f5, f6, f7, f8, f9, h0, h1]; simp_all)
  ·skip
   have zd6 := d6 (by simp [hr, hD'])
   simp only [go_sem, zd6, List.getElem?_cons_zero, List.getElem?_cons_succ]
   (simp only [I6, upd, updo]; simp [f0, f1, f2, f3, f4, f5, f6, f7, f8, f9, h0, h1]; simp_all)
  ·skip
   simp only [go_sem, List.getElem?_cons_zero, List.getElem?_cons_succ]
   (simp only [I6, upd, updo]; simp [f0, f1, f2, f3, f4, f5, f6, f7, f8, f9, h0, h1]; simp_all)
  ·skip
   have zd7 := d7 (by simp [hr, hD'])
   have zd12 := d12 (by simp [hr, hD'])
   have ze12 := e12 (by simp [hr, hD']) (by simp [hr, hD'])
   simp only [go_sem, zd7, zd12, ze12, List.getElem?_cons_zero, List.getElem?_cons_succ]
   (simp only [I6, upd, updo]; simp [f0, f1, f2, f3, f4, f5, f6, f7, f8, f9, h0, h1]; simp_all)
  ·skip
   have zd8 := d8 (by simp [hr, hD'])
   simp only [go_sem, zd8, List.getElem?_cons_zero, List.getElem?_cons_succ]
   (simp only [I6, upd, updo]; simp [f0, f1, f2, f3, f4, f5, f6, f7, f8, f9, h0, h1]; simp_all)
  ·skip
   have zd9 := d9 (by simp [hr, hD'])
   simp only [go_sem, zd9, List.getElem?_cons_zero, List.getElem?_cons_succ]
   (simp only [I6, upd, updo]; simp [f0, f1, f2, f3, f4, f5, f6, f7, f8, f9, h0, h1]; simp_all)
  ·skip
   have zd10 := d10 (by simp [hr, hD'])
   simp only [go_sem, zd10, List.getElem?_cons_zero, List.getElem?_cons_succ]
   (simp only [I6, upd, updo]; simp [f0, f1, f2, f3, f4, f5, f6, f7, f8, f9, h0, h1]; simp_all)
  ·skip
   have zd11 := d11 (by simp [hr, hD'])
   simp only [go_sem, zd11, List.getElem?_cons_zero, List.getElem?_cons_succ]
   (simp only [I6, upd, updo]; simp [f0, f1, f2, f3, f4, f5, f6, f7, f8, f9, h0, h1]; simp_all)
 rintro ⟨fr, hp, nx⟩ D' hD' ⟨hn, f0, f1, f2, f3, f4, f5, f6, f7, f8, f9, h0, h1, d0, d1, d2, d3, d4, d5, d6, d7, d8, d9, d10, d11, d12, d14, d15, d16, d17, e3, e12, o13, s13⟩
 simp only at hn f0 f1 f2 f3 f4 f5 f6 f7 f8 f9 h0 h1 d0 d1 d2 d3 d4 d5 d6 d7 d8 d9 d10 d11 d12 d14 d15 d16 d17 e3 e12 o13 s13
 have zd0 := d0 (hD' 0)
 have zd1 := d1 (hD' 1)
 have zd2 := d2 (hD' 2)
 have zd3 := d3 (hD' 3)
 have zd4 := d4 (hD' 4)
 have zd5 := d5 (hD' 5)
 have zd6 := d6 (hD' 6)
 have zd7 := d7 (hD' 7)
 have zd8 := d8 (hD' 8)
 have zd9 := d9 (hD' 9)
 have zd10 := d10 (hD' 10)
 have zd11 := d11 (hD' 11)
 have zd12 := d12 (hD' 12)
 have zd14 := d14 (hD' 14)
 have zd15 := d15 (hD' 15)
 have zd16 := d16 (hD' 16)
 have zd17 := d17 (hD' 17)
 have zs13 := s13 (hD' 12) (hD' 13)
 first | refine Kq_norm_code ?_ | refine Kq_norm_blk ?_ | refine Kq_norm_lp ?_
 refine AW.ent (σ' := mkSt [(0, .bool false), (1, .sl (dl D0)), (2, .ptr 0 0), (3, .i 0), (4, .i 0), (5, .ptr 1 0), (6, .sl [.i 7, .i 7]), (7, .i 2), (8, .bool false), (9, .i 0), (10, .ptr 2 0), (11, .sl []), (12, .i 1), (13, .bool true), (14, .i 0)] [(0, .cells [.sl (cl CA), .sl []]), (1, .cells [.sl (cl CZ), .sl []]), (2, .cells [.sl (cl CZ), .sl []])] 3) (fun i => if i = 0 then 0 else if i = 1 then 1 else 12582914) (by refine ent_mk (by simp [go_sem, f0, f1, f2, f3, f4, f5, f6, f7, f8, f9, h0, h1, zd0, zd1, zd2, zd3, zd4, zd5, zd6, zd7, zd8, zd9, zd10, zd11, zd12, zd14, zd15, zd16, zd17, zs13, List.getElem?_cons_zero, List.getElem?_cons_succ]) (by simp [go_sem, f0, f1, f2, f3, f4, f5, f6, f7, f8, f9, h0, h1, zd0, zd1, zd2, zd3, zd4, zd5, zd6, zd7, zd8, zd9, zd10, zd11, zd12, zd14, zd15, zd16, zd17, zs13, List.getElem?_cons_zero, List.getElem?_cons_succ]) (by simp) (by simp [hN])) ?_
 clear zd0 zd1 zd2 zd3 zd4 zd5 zd6 zd7 zd8 zd9 zd10 zd11 zd12 zd14 zd15 zd16 zd17 zs13 hn f0 f1 f2 f3 f4 f5 f6 f7 f8 f9 h0 h1 d0 d1 d2 d3 d4 d5 d6 d7 d8 d9 d10 d11 d12 d14 d15 d16 d17 e3 e12 o13 s13 hD' fr hp nx D'
 repeat (first | apply w1 | apply w2)
 refine K_inv (n := 19) I7 mixed hE ?_ ?_ (fun Kp hKp => ?_) ?_ rfl
 ·intro D D' σ h
  have := fun j => (h j).symm
  unfold I7
  simp only [this]
  exact fun h => h
 ·simp [I7, go_sem, List.getElem?_cons_zero, List.getElem?_cons_succ]
 ·refine ⟨?_, ?_, ?_, ?_, ?_, ?_, ?_, ?_, ?_, ?_, ?_, ?_, ?_, ?_, ?_, ?_, ?_, ?_, ?_, trivial⟩
  all_goals rintro D' ⟨fr, hp, nx⟩ hD' hr ⟨hn, f0, f1, f2, f3, f4, f5, f6, f7, f8, f9, f10, f11, f12, f13, f14, h0, h1, h2, d0, d1, d2, d3, d4, d5, d6, d7, d8, d9, d10, d11, d12, d13, d15, d16, d17, d18, e4, e13, o14, s14⟩
  all_goals simp [Region.binds] at hn f0 f1 f2 f3 f4 f5 f6 f7 f8 f9 f10 f11 f12 f13 f14 h0 h1 h2 d0 d1 d2 d3 d4 d5 d6 d7 d8 d9 d10 d11 d12 d13 d15 d16 d17 d18 e4 e13 o14 s14 hD' hr
  all_goals subst hn
  all_goals try clear hQ
  ·skip
   simp only [go_sem, f1, List.getElem?_cons_zero, List.getElem?_cons_succ]
   (simp only [I7, upd, updo]; simp [f0, f1, f2, f3, f4, f5, f6, f7, f8, f9, f10, f11, f12, f13, f14, h0, h1, h2]; simp_all)
  ·skip
   simp only [go_sem, f2, h0, List.getElem?_cons_zero, List.getElem?_cons_succ]
   (simp only [I7, upd, updo]; simp [f0, f1, f2, f3, f4, f5, f6, f7, f8, f9, f10, f11, f12, f13, f14, h0, h1, h2]; simp_all)
  ·skip
   simp only [go_sem, List.getElem?_cons_zero, List.getElem?_cons_succ]
   refine CallB_mk (by simp only [go_sem] <;> rfl) c_box (by simp [go_sem]) (by first | exact .inl rfl | exact .inr rfl | (right; simp [go_sem])) ?_
   simp only [go_sem]
   (simp only [I7, upd, updo]; simp [f0, f1, f2, f3, f4, f5, f6, f7, f8, f9, f10, f11, f12, f13, f14, h0, h1, h2]; simp_all)
  ·skip
   simp only [go_sem, List.getElem?_cons_zero, List.getElem?_cons_succ]
   refine CallB_mk (by simp only [go_sem] <;> rfl) c_box (by simp [go_sem]) (by first | exact .inl rfl | exact .inr rfl | (right; simp [go_sem])) ?_
   simp only [go_sem]
   (simp only [I7, upd, updo]; simp [f0, f1, f2, f3, f4, f5, f6, f7, f8, f9, f10, f11, f12, f13, f14, h0, h1, h2]; simp_all)
  ·skip
   have zd2 := d2 (by simp [hr, hD'])
   have zd3 := d3 (by simp [hr, hD'])
   simp only [go_sem, zd2, zd3, List.getElem?_cons_zero, List.getElem?_cons_succ]
   (simp only [I7, upd, updo]; simp [f0, f1, f2, f3, f4, f5, f6, f7, f8, f9, f10, f11, f12, f13, f14, h0, h1, h2]; simp_all)
  ·skip
   have zd4 := d4 (by simp [hr, hD'])
   have ze4 := e4 (by simp [hr, hD']) (by simp [hr, hD'])
   simp only [go_sem, zd4, ze4, List.getElem?_cons_zero, List.getElem?_cons_succ]
   refine Hold.mk (CallB.dpure [4194307] 8 c_wh3 (by simp only [go_sem, List.mem_cons, List.not_mem_nil, or_false, zd4, ze4, List.getElem?_cons_zero, List.getElem?_cons_succ] <;> rfl) (by simp [go_sem, zd4, ze4]) (fun _ => rfl) (fun _ => by simp [AV.snapOkL, AV.snapOk]) rfl ?_)
   simp only [go_sem]
   (simp only [I7, upd, updo, notIn_at, List.mem_cons, List.not_mem_nil, or_false]; simp [f0, f1, f2, f3, f4, f5, f6, f7, f8, f9, f10, f11, f12, f13, f14, h0, h1, h2]; simp_all)
  ·skip
   have zd0 := d0 (by simp [hr, hD'])
   have zd1 := d1 (by simp [hr, hD'])
   have zd5 := d5 (by simp [hr, hD'])
   simp only [go_sem, zd0, zd1, zd5, List.getElem?_cons_zero, List.getElem?_cons_succ]
   refine CallB_mk (by simp only [go_sem] <;> rfl) c_drop3 (by simp [go_sem, zd0, zd1, zd5]) (by first | exact .inl rfl | exact .inr rfl | (right; simp [go_sem])) ?_
   simp only [go_sem]
   (simp only [I7, upd, updo]; simp [f0, f1, f2, f3, f4, f5, f6, f7, f8, f9, f10, f11, f12, f13, f14, h0, h1, h2]; simp_all)
  ·skip
   have zd6 := d6 (by simp [hr, hD'])
   simp only [go_sem, zd6, List.getElem?_cons_zero, List.getElem?_cons_succ]
   (simp only [I7, upd, updo]; simp [f0, f1, f2, f3, f4, f5, f6, f7, f8, f9, f10, f11, f12, f13, f14, h0, h1, h2]; simp_all)
  ·skip
   have zd7 := d7 (by simp [hr, hD'])
   simp only [go_sem, zd7, List.getElem?_cons_zero, List.getElem?_cons_succ]
   (simp only [I7, upd, updo]; simp [f0, f1, f2, f3, f4, f5, f6, f7, f8, f9, f10, f11, f12, f13, f14, h0, h1, h2]; simp_all)
  ·skip
   have zd7 := d7 (by simp [hr, hD'])
   simp only [go_sem, zd7, List.getElem?_cons_zero, List.getElem?_cons_succ]
   (simp only [I7, upd, updo]; simp [f0, f1, f2, f3, f4, f5, f6, f7, f8, f9, f10, f11, f12, f13, f14, h0, h1, h2]; simp_all)
  ·skip
   have zd7 := d7 (by simp [hr, hD'])
   simp only [go_sem, zd7, List.getElem?_cons_zero, List.getElem?_cons_succ]
   (simp only [I7, upd, updo]; simp [f0, f1, f2, f3, f4, f5, f6, f7, f8, f9, f10, f11, f12, f13, f14, h0, h1, h2]; simp_all)
  ·skip
   have zd7 := d7 (by simp [hr, hD'])
   simp only [go_sem, zd7, List.getElem?_cons_zero, List.getElem?_cons_succ]
   (simp only [I7, upd, updo]; simp [f0, f1, f2, f3, f4, f5, f6, f7, f8, f9, f10, f11, f12, f13, f14, h0, h1, h2]; simp_all)
  ·skip
   have zd7 := d7 (by simp [hr, hD'])
   simp only [go_sem, zd7, List.getElem?_cons_zero, List.getElem?_cons_succ]
   (simp only [I7, upd, updo]; simp [f0, f1, f2, f3, f4, f5, f6, f7, f8, f9, f10, f11, f12, f13, f14, h0, h1, h2]; simp_all)
  ·skip
   simp only [go_sem, List.getElem?_cons_zero, List.getElem?_cons_succ]
   (simp only [I7, upd, updo]; simp [f0, f1, f2, f3, f4, f5, f6, f7, f8, f9, f10, f11, f12, f13, f14, h0, h1, h2]; simp_all)
  ·skip
   have zd8 := d8 (by simp [hr, hD'])
   have zd13 := d13 (by simp [hr, hD'])
   have ze13 := e13 (by simp [hr, hD']) (by simp [hr, hD'])
   simp only [go_sem, zd8, zd13, ze13, List.getElem?_cons_zero, List.getElem?_cons_succ]
   (simp only [I7, upd, updo]; simp [f0, f1, f2, f3, f4, f5, f6, f7, f8, f9, f10, f11, f12, f13, f14, h0, h1, h2]; simp_all)
  ·skip
   have zd9 := d9 (by simp [hr, hD'])
   simp only [go_sem, zd9, List.getElem?_cons_zero, List.getElem?_cons_succ]
   (simp only [I7, upd, updo]; simp [f0, f1, f2, f3, f4, f5, f6, f7, f8, f9, f10, f11, f12, f13, f14, h0, h1, h2]; simp_all)
  ·skip
   have zd10 := d10 (by simp [hr, hD'])
   simp only [go_sem, zd10, List.getElem?_cons_zero, List.getElem?_cons_succ]
   (simp only [I7, upd, updo]; simp [f0, f1, f2, f3, f4, f5, f6, f7, f8, f9, f10, f11, f12, f13, f14, h0, h1, h2]; simp_all)
  ·skip
   have zd11 := d11 (by simp [hr, hD'])
   simp only [go_sem, zd11, List.getElem?_cons_zero, List.getElem?_cons_succ]
   (simp only [I7, upd, updo]; simp [f0, f1, f2, f3, f4, f5, f6, f7, f8, f9, f10, f11, f12, f13, f14, h0, h1, h2]; simp_all)
  ·skip
   have zd12 := d12 (by simp [hr, hD'])
   simp only [go_sem, zd12, List.getElem?_cons_zero, List.getElem?_cons_succ]
   (simp only [I7, upd, updo]; simp [f0, f1, f2, f3, f4, f5, f6, f7, f8, f9, f10, f11, f12, f13, f14, h0, h1, h2]; simp_all)
 rintro ⟨fr, hp, nx⟩ D' hD' ⟨hn, f0, f1, f2, f3, f4, f5, f6, f7, f8, f9, f10, f11, f12, f13, f14, h0, h1, h2, d0, d1, d2, d3, d4, d5, d6, d7, d8, d9, d10, d11, d12, d13, d15, d16, d17, d18, e4, e13, o14, s14⟩
 simp only at hn f0 f1 f2 f3 f4 f5 f6 f7 f8 f9 f10 f11 f12 f13 f14 h0 h1 h2 d0 d1 d2 d3 d4 d5 d6 d7 d8 d9 d10 d11 d12 d13 d15 d16 d17 d18 e4 e13 o14 s14
 have zd0 := d0 (hD' 0)
 have zd1 := d1 (hD' 1)
 have zd2 := d2 (hD' 2)
 have zd3 := d3 (hD' 3)
 have zd4 := d4 (hD' 4)
 have zd5 := d5 (hD' 5)
 have zd6 := d6 (hD' 6)
 have zd7 := d7 (hD' 7)
 have zd8 := d8 (hD' 8)
 have zd9 := d9 (hD' 9)
 have zd10 := d10 (hD' 10)
 have zd11 := d11 (hD' 11)
 have zd12 := d12 (hD' 12)
 have zd13 := d13 (hD' 13)
 have zd15 := d15 (hD' 15)
 have zd16 := d16 (hD' 16)
 have zd17 := d17 (hD' 17)
 have zd18 := d18 (hD' 18)
 have zs14 := s14 (hD' 13) (hD' 14)
 first | refine Kq_norm_code ?_ | refine Kq_norm_blk ?_ | refine Kq_norm_lp ?_
 refine AW.ent (σ' := mkSt [(0, .bool false), (1, .sl (dl D0)), (2, .ptr 0 0), (3, .i 0), (4, .i 0), (5, .ptr 1 0), (6, .sl [.i 7, .i 7]), (7, .i 2), (8, .bool false), (9, .i 0), (10, .ptr 2 0), (11, .sl []), (12, .i 1), (13, .bool true), (14, .i 0), (15, .ptr 3 0), (16, .sl []), (17, .i 0), (18, .bool false), (19, .i 1)] [(0, .cells [.sl (cl CA), .sl []]), (1, .cells [.sl (cl CZ), .sl []]), (2, .cells [.sl (cl CZ), .sl []]), (3, .cells [.sl [], .sl []])] 4) (fun i => if i = 0 then 0 else if i = 1 then 1 else if i = 2 then 2 else 13631491) (by refine ent_mk (by simp [go_sem, f0, f1, f2, f3, f4, f5, f6, f7, f8, f9, f10, f11, f12, f13, f14, h0, h1, h2, zd0, zd1, zd2, zd3, zd4, zd5, zd6, zd7, zd8, zd9, zd10, zd11, zd12, zd13, zd15, zd16, zd17, zd18, zs14, List.getElem?_cons_zero, List.getElem?_cons_succ]) (by simp [go_sem, f0, f1, f2, f3, f4, f5, f6, f7, f8, f9, f10, f11, f12, f13, f14, h0, h1, h2, zd0, zd1, zd2, zd3, zd4, zd5, zd6, zd7, zd8, zd9, zd10, zd11, zd12, zd13, zd15, zd16, zd17, zd18, zs14, List.getElem?_cons_zero, List.getElem?_cons_succ]) (by simp) (by simp [hN])) ?_
 clear zd0 zd1 zd2 zd3 zd4 zd5 zd6 zd7 zd8 zd9 zd10 zd11 zd12 zd13 zd15 zd16 zd17 zd18 zs14 hn f0 f1 f2 f3 f4 f5 f6 f7 f8 f9 f10 f11 f12 f13 f14 h0 h1 h2 d0 d1 d2 d3 d4 d5 d6 d7 d8 d9 d10 d11 d12 d13 d15 d16 d17 d18 e4 e13 o14 s14 hD' fr hp nx D'
 repeat' (first | apply nx | refine Kq_exit_ne (by decide) ?_ | rw [wrap64 (by omega) (by omega)] | ((first | refine hK _ ?_ | refine hKp _ _ ?_); clear hK hKp K Kp; try clear hanc anc) | ((with_reducible refine And.intro ?_ ?_); (focus (first | trivial | omega | (simp only [Fits]; omega) | assumption | (rw [hanc]; rfl)))) | ((fail_if_success refine K_stop 12 ?_); (first | refine K_regA hE fun K Kp hK hKp => ?_ | refine K_drwA true mixed hE fun K Kp hK hKp anc hanc => ?_ | refine K_drwA false mixed hE fun K Kp hK hKp anc hanc => ?_ | ((first | apply CallP_mk | apply CallB_mk); (focus (simp only [go_sem] <;> rfl)); (focus (first | exact c_num1 | exact c_alloc2 | exact c_open | exact c_free1 | exact c_free2)); (focus (first | (simp [go_sem]; done) | (simp [go_sem, CloRow, AV.cells, AV.clo]; done))); (focus (first | exact .inl rfl | (right; simp [go_sem]))))); simp only [go_sem]) | ((first | refine onG_split_t (fun hg => ?_) (fun hg => ?_) | refine onG_split_f (fun hg => ?_) (fun hg => ?_)) <;> simp only [go_sem, hg]) | (refine K_condA (fun hc => ?_) (fun hc => ?_) <;> try (exact absurd hc (by decide))))
 refine AW.ent (σ' := mkSt [(2, .ptr 0 0), (5, .ptr 1 0), (6, .sl [.i 7, .i 7]), (7, .i 2), (8, .bool false), (9, .i 0), (11, .sl []), (12, .i 1), (13, .bool true), (14, .i 0), (19, .i 1), (22, .i 1), (23, .ptr 2 0), (24, .i 0), (25, .i 0), (27, .ptr 3 0), (28, .i 0), (31, .i 18)] [(0, .cells [.sl (cl CA), .sl []]), (1, .cells [.sl (cl CZ), .sl []]), (2, .cells [.sl (cl CA), .sl [.bool true]]), (3, .cells [.i 2, .i 0, .i 0, .i 0, .sl [], .bool false, .sl [], .sl []])] 4) (fun i => if i = 0 then 0 else if i = 1 then 1 else if i = 2 then 17825796 else 29360132) (by refine ent_mk (by simp [go_sem]) (by simp [go_sem]) (by simp) (by simp [hN])) ?_
 repeat' (first | apply nx | refine Kq_exit_ne (by decide) ?_ | rw [wrap64 (by omega) (by omega)] | ((first | refine hK _ ?_ | refine hKp _ _ ?_); clear hK hKp K Kp; try clear hanc anc) | ((with_reducible refine And.intro ?_ ?_); (focus (first | trivial | omega | (simp only [Fits]; omega) | assumption | (rw [hanc]; rfl)))) | ((first | refine K_regA hE fun K Kp hK hKp => ?_ | refine K_drwA false mixed hE fun K Kp hK hKp anc hanc => ?_ | ((first | apply CallP_mk | apply CallB_mk); (focus (simp only [go_sem] <;> rfl)); (focus (first | exact c_ints7 | exact c_wh0 | exact c_sameV | exact c_box | exact c_count | exact c_reach | exact c_ints0)); (focus (first | (simp [go_sem]; done) | (simp [go_sem, CloRow, AV.cells, AV.clo]; done))); (focus (first | exact .inl rfl | (right; simp [go_sem]))))); simp only [go_sem, CA_len, CZ_len, CA_0, CZ_0, Cl.av, Cl.cs_eq, Cl.zero, Int.cast_ofNat_Int, nc0, Int.reduceToNat, List.length_cons, List.length_nil]) | ((first | refine onG_split_t (fun hg => ?_) (fun hg => ?_) | refine onG_split_f (fun hg => ?_) (fun hg => ?_)) <;> simp only [go_sem, CA_len, CZ_len, CA_0, CZ_0, Cl.av, Cl.cs_eq, Cl.zero, Int.cast_ofNat_Int, nc0, Int.reduceToNat, List.length_cons, List.length_nil, hg]) | (refine K_condA (fun hc => ?_) (fun hc => ?_) <;> try (exact absurd hc (by decide))) | (refine K_ret ?_; refine (hQ _ ⟨_, by (try simp only [go_sem, ↓reduceIte, Nat.reduceEqDiff]); rfl, by simp [go_sem], ?_, by first | rfl | assumption⟩).1))
 all_goals rfl
end Go.Proofs.Ytdgmjbgjahmoaaa

set_option maxHeartbeats 4000000
set_option maxRecDepth 100000
namespace Go.Proofs.Ytdgmjbgjahmoaaa
open Go.Am Go.Proofs Go.Hv
open Classical
attribute [local irreducible] AW CallP CallB CallY
abbrev vC8 (v : Vl) : AObj := .cells [.i v.kind, .i v.id, .i v.var, .i v.n, .sl (Vl.avL v.fs), .bool v.excl, .sl (il v.path), .sl (il v.loans)]
structure HB (h : Hp) : Prop where
 l : h.cells.length ≤ 2 ^ 20
 a : h.arenas.length ≤ 2 ^ 20
 m : ∀ c, c ∈ h.cells → c.v.sz ≤ 2 ^ 20
theorem HB.sm {h : Hp} (hb : HB h) {v : Vl} (hv : v.sz ≤ 2 ^ 20) : Sm h v := ⟨hb.l, hb.a, hb.m, hv⟩
theorem HB.z {h : Hp} (hb : HB h) : ∀ c, c ∈ h.cells → c.v.sz < 2 ^ 40 := fun c hc => by have := hb.m c hc; omega
theorem HB.same {h : Hp} (hb : HB h) (a : Hp) : PCall Try.prog 18 [h.av, a.av] (.bool (decide (h = a))) := same_call h a hb.l hb.a hb.z
theorem HB.hp0 : HB hp0 := ⟨by decide, by decide, fun c hc => by cases hc⟩
theorem zero_sz : Cl.zero.v.sz ≤ 2 ^ 20 := by decide
theorem HB.set {h : Hp} (hb : HB h) (n : Nat) (c : Cl) (hc : c.v.sz ≤ 2 ^ 20) (l : List Bool) (hl : l.length ≤ 2 ^ 20) : HB ⟨h.cells.set n c, l⟩ := by
 refine ⟨by simp only [List.length_set]; exact hb.l, hl, fun x hx => ?_⟩
 rcases List.mem_or_eq_of_mem_set hx with hx | rfl
 ·exact hb.m x hx
 ·exact hc
theorem HB.closed {h : Hp} (hb : HB h) (o : Ow) : HB (closedS h o) := by
 refine ⟨by simp only [closedS, clrC_len]; exact hb.l, by simp only [closedS, clrA_len]; exact hb.a, fun c hc => ?_⟩
 obtain ⟨i, hi⟩ := List.getElem?_of_mem hc
 simp only [closedS] at hi
 rw [clrC_get] at hi
 split at hi
 ·cases hi; exact zero_sz
 ·exact hb.m c (List.mem_of_getElem? hi)
theorem HB.alloc {h : Hp} (hb : HB h) (hl : h.cells.length < 2 ^ 20) (ar : Int) {v : Vl} (hv : v.sz ≤ 2 ^ 20) : HB (allocS h ar v).1 := by
 unfold allocS
 split
 ·exact HB.hp0
 split
 ·exact HB.hp0
 split
 ·exact HB.hp0
 simp only
 unfold putC
 split
 ·refine ⟨by simp only [List.length_append, List.length_singleton]; omega, hb.a, fun x hx => ?_⟩
  rcases List.mem_append.1 hx with hx | hx
  ·exact hb.m x hx
  ·simp at hx; subst hx; exact hv
 ·exact hb.set _ _ hv _ hb.a
theorem HB.open {h : Hp} (hb : HB h) (hl : h.arenas.length < 2 ^ 20) : HB (openS h).1 := by
 unfold openS
 split
 ·exact HB.hp0
 simp only
 refine ⟨hb.l, ?_, hb.m⟩
 unfold putB
 split
 ·simp only [List.length_append, List.length_singleton]; omega
 ·simp only [List.length_set]; exact hb.a
theorem HB.free {h : Hp} (hb : HB h) (c : Int) : HB (freeS h c).1 ∧ (freeS h c).2.1.sz ≤ 2 ^ 20 := by
 unfold freeS
 split
 ·exact ⟨HB.hp0, by decide⟩
 split
 ·rename_i x hx
  split
  ·exact ⟨hb.set _ _ zero_sz _ hb.a, hb.m x (List.mem_of_getElem? hx)⟩
  ·exact ⟨HB.hp0, by decide⟩
 ·exact ⟨HB.hp0, by decide⟩
theorem HB.drop {h : Hp} (hb : HB h) (D : List Dt) (v : Vl) : HB (dropS D h v).1 := by
 unfold dropS
 split
 ·exact HB.hp0
 ·split
  ·exact HB.hp0
  ·exact hb.closed _
theorem HB.close {h : Hp} (hb : HB h) (v : Vl) : HB (closeS h v).1 := by
 unfold closeS
 split
 ·exact hb.closed _
 ·exact HB.hp0
theorem few_lt {h : Hp} {v : Vl} (hf : fewB h v) : h.cells.length ≤ 60 ∧ h.arenas.length ≤ 30 := ⟨hf.1, hf.2.1⟩
theorem decide_refl {α : Type} [DecidableEq α] (a : α) : decide (a = a) = true := decide_eq_true rfl
theorem walk_len {h : Hp} {v : Vl} (hm : Sm h v) (h60 : h.cells.length ≤ 100) {o : Ow} (hs : walkS h v = some o) : o.ids.length ≤ 2 ^ 30 := by
 have := (visV_bud (visE_keeps h _) (visE_bud hm.m _) v Ow.nil o (Ow.nil_ok h) hs)
 rw [bud_nil] at this
 have h1 : o.ids.length ≤ bud (2 ^ 20) h o := Nat.le_add_right _ _
 have := hm.v
 omega
theorem drop_len (D : List Dt) {h : Hp} {v : Vl} (hm : Sm h v) (h60 : h.cells.length ≤ 100) : (dropS D h v).2.1.out.length ≤ (dropS D h v).2.1.cnt ∧ (dropS D h v).2.1.cnt ≤ 2 ^ 30 := by
 unfold dropS
 split
 ·exact ⟨by simp [Fa.nil], by simp [Fa.nil]⟩
 ·rename_i o hs
  split
  ·exact ⟨by simp [Fa.nil], by simp [Fa.nil]⟩
  ·have hF := dropV_le (d := drs D) (visE_keeps h _) (dropE_le (d := drs D) h.cells.length) v Ow.nil o Fa.nil (Ow.nil_ok h) hs (Fle.nil _)
   have := walk_len hm h60 hs
   exact ⟨hF.out, Nat.le_trans hF.cnt this⟩
end Go.Proofs.Ytdgmjbgjahmoaaa
