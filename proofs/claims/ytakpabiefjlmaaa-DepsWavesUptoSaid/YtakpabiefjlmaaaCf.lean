/- A part of the proof: an abstract machine for the walks, and what the walked functions compute. -/
import Derived.Test.YtakpabiefjlmaaaCe
set_option linter.unusedVariables false
set_option linter.unusedSimpArgs false
/- Chapter 22: Waves. -/
set_option linter.unusedSimpArgs false
set_option linter.unusedVariables false
set_option maxHeartbeats 4000000
set_option maxRecDepth 100000
namespace Go.Proofs.Ytakpabiefjlmaaa
open Go.Am Go.Proofs
attribute [local irreducible] AW CallP CallB

def gv (F : Int → Option Int) (n : Int) : Int := (F n).getD 0
def rkm (ρ : Int → Int) : List Int → Int → Int
  | [], a => a
  | n :: l, a => rkm ρ l (max a (ρ n + 1))
def addW (W : List (List Int)) (r : Nat) (m : Int) : List (List Int) := if r < W.length then W.set r (W.getD r [] ++ [m]) else W ++ [[m]]
def wGo (u : List (List Int)) : List Int → (Int → Int) → List (List Int) → List (List Int)
  | [], _, W => W
  | m :: r, ρ, W => wGo u r (fun n => if n = m then rkm ρ (u.getD m.toNat []) 0 else ρ n) (addW W (rkm ρ (u.getD m.toNat []) 0).toNat m)
def waves (u : List (List Int)) : List (List Int) := if (order u).2 = 0 then (wGo u (order u).1 (fun _ => 0) []).map srt else []

@[go_sem] theorem lk_g (F : Int → Option Int) (n : Int) : lkRes false (.int .i64 0) ((F n).map AV.i) = AV.i (gv F n) := by
  unfold gv
  cases F n <;> rfl
def iel (W : List (List Int)) : List (List AV) := W.map il
theorem iel_len (W : List (List Int)) : (iel W).length = W.length := by simp [iel]
theorem iel_get {W : List (List Int)} {i : Nat} {r : List Int} (h : W[i]? = some r) : (iel W)[i]? = some (il r) := by simp [iel, h]
theorem iel_clo (W : List (List Int)) : ∀ r, r ∈ iel W → AV.cloL r = true := fun r hr => by
  obtain ⟨q, _, rfl⟩ := List.mem_map.1 hr
  exact il_clo q
theorem iel_cloR (W : List (List Int)) : ∀ r, r ∈ iel W → CloRow r := fun r hr => by
  obtain ⟨q, _, rfl⟩ := List.mem_map.1 hr
  exact clo_il q
theorem iel_get_iff {W : List (List Int)} {k : Nat} {r : List AV} (h : (iel W)[k]? = some r) : ∃ q, W[k]? = some q ∧ r = il q := by
  rw [iel, List.getElem?_map] at h
  cases hq : W[k]? with
  | none => simp [hq] at h
  | some q => simp [hq] at h; exact ⟨q, rfl, h.symm⟩

end Go.Proofs.Ytakpabiefjlmaaa


/- Chapter 22: Waves, its walk. -/
set_option linter.unusedSimpArgs false
set_option linter.unusedVariables false
set_option maxHeartbeats 4000000
set_option maxRecDepth 100000
namespace Go.Proofs.Ytakpabiefjlmaaa
open Nat (reduceAdd reduceMul reduceEqDiff reduceLT reduceLeDiff reduceSub reduceDiv)
open Int (reduceBNe reduceLE reduceEq)
open Go.Am Go.Proofs
attribute [local irreducible] AW CallP CallB

theorem rwl_set {N q : Nat} : ∀ {k : Nat}, q < k → AV.renL (fun j => if j = q + 1 then N else j) (rwl k) = (rwl k).set q (.rw N)
  | 0, h => absurd h (Nat.not_lt_zero _)
  | k + 1, h => by
    rw [rwl_succ, renL_append]
    by_cases hq : q < k
    · rw [rwl_set hq, List.set_append_left _ _ (by rw [rwl_len]; exact hq)]
      simp only [AV.renL, AV.ren]
      rw [if_neg (by omega)]
    · obtain rfl : q = k := by omega
      rw [rwl_ren (fun i h1 h2 => if_neg (by omega)), List.set_append_right _ _ (by rw [rwl_len]; exact Nat.le_refl _), rwl_len, Nat.sub_self]
      simp [AV.renL, AV.ren]
/-- The rows are given up, and with them the row of rows. -/
theorem AW_frzRowsG {P : Program} {E : En} {c : Code} {Q : AEx → St → Prop} {fr : Nat → Option AV} {hp : Nat → Option AObj} {R : List (List AV)} {nx : Nat} (t : Nat) (ht : fr t = some (.rw 0)) (h0 : hp 0 = some (.row 1 (rwl R.length))) (hs : ∀ k r, R[k]? = some r → hp (k + 1) = some (.row 1 r)) (hc : ∀ r, r ∈ R → CloRow r)
    (h : AW P E c Q ⟨upd fr t (.sl (R.map AV.sl)), fun _ => none, nx⟩) : AW P E c Q ⟨fr, hp, nx⟩ := by
  refine AW.frz (σ' := ⟨fr, mkHp [(0, .row 1 (R.map AV.sl))], nx⟩) (fun id => if id = 0 then none else hp id) ?_ ?_ ?_ rfl ?_
  · intro id o ho
    split at ho
    · cases ho
    · exact ho
  · intro t x' hx; exact ⟨x', hx, .inl rfl⟩
  · intro id o ho
    simp only [mkHp, updo] at ho
    split at ho
    · rename_i e
      cases ho
      subst e
      refine ⟨if_pos rfl, _, h0, rfl, by simp [rwl], fun i hi => .inr ?_⟩
      rw [rwl_len] at hi
      have e1 : (rwl R.length).getD i default = .rw (i + 1) := by simp [List.getD_eq_getElem?_getD, rwl_get hi]
      have e2 : hp (i + 1) = some (.row 1 R[i]) := hs i _ (by simp [hi])
      rw [e1]
      refine ⟨?_, ?_⟩
      · rw [AV.snapOk]
        simp only [e2]
        exact hc _ (List.getElem_mem hi)
      · rw [AV.snap]
        simp [e2, List.getD_eq_getElem?_getD, hi]
    · cases ho
  · refine AW_frz1 t 0 ht (sz := 1) (xs := R.map AV.sl) rfl ?_ ?_
    · intro x hx c hc'
      obtain ⟨r, hr, rfl⟩ := List.mem_map.1 hx
      simp only [AV.cells, List.mem_cons, List.not_mem_nil, or_false] at hc'
      subst hc'
      exact rfl
    · have e : updo (mkHp [(0, AObj.row 1 (R.map AV.sl))]) 0 none = fun _ => none := by
        funext id
        simp only [updo, mkHp]
        split <;> rfl
      simp only [e]
      exact h

theorem waves_call (u : List (List Int)) (hu : u.length ≤ 2 ^ 40) (hl : ∀ l, l ∈ u → l.length ≤ 2 ^ 40) : PCall Try.prog 20 [.sl (ill u)] (.sl (ill (waves u))) := by
  have ho := order_call u hu hl
  have hom := order_mem u
  have hol := order_len u
  have htp := order_topo u
  by_cases h : (order u).2 = 0
  · have hvm := valid_mem (order_valid h)
    have h16 : u.length ≤ 16 := by
      have := order_valid h
      unfold valid at this
      simp only [Bool.and_eq_true, decide_eq_true_eq] at this
      exact this.1
    have hst : waves u = (wGo u (order u).1 (fun _ => 0) []).map srt := if_pos h
    rw [hst]
    clear hst
    rw [h] at ho
    generalize (order u).1 = o at *
    refine PCall.intro Try.func20 rfl isf20 (by simp [Try.f20]) (by simp [AV.cloL, AV.clo]) fun E Q hE hN hQ => K_start ?_
    repeat' (first | apply w1 | apply w2 | apply w3 | apply w4 | apply w5 | apply w6 | apply w7 | refine Kq_exit_ne (by decide) ?_ | apply w8 | apply w9 | apply w0 | rw [wrap64 (by omega) (by omega)] | ((first | refine hK _ ?_ | refine hKp _ _ ?_); clear hK hKp K Kp; try clear hanc anc) | ((with_reducible refine And.intro ?_ ?_); (focus (first | trivial | omega | (simp only [Fits]; omega) | assumption | (rw [hanc]; rfl)))) | ((first | refine K_regA hE fun K Kp hK hKp => ?_ | refine K_drwA true mixed hE fun K Kp hK hKp anc hanc => ?_ | refine K_drwA false mixed hE fun K Kp hK hKp anc hanc => ?_ | ((first | apply CallP_mk | apply CallB_mk); (focus (simp only [go_sem]; rfl)); (focus (exact ho)); (focus (simp [go_sem])); (focus (first | exact .inl rfl | (right; simp [go_sem]))))); simp only [go_sem, ↓reduceIte, reduceCtorEq, reduceAdd, reduceMul, reduceEqDiff, reduceLT, reduceLeDiff, reduceSub, reduceDiv, Nat.reduceBEq, Int.reduceBEq, reduceBNe, Int.reduceLT, reduceLE, reduceEq]) | ((first | refine onG_split_t (fun hg => ?_) (fun hg => ?_) | refine onG_split_f (fun hg => ?_) (fun hg => ?_)) <;> simp only [go_sem, ↓reduceIte, reduceCtorEq, reduceAdd, reduceMul, reduceEqDiff, reduceLT, reduceLeDiff, reduceSub, reduceDiv, Nat.reduceBEq, Int.reduceBEq, reduceBNe, Int.reduceLT, reduceLE, reduceEq, hg]) | (refine K_condA (fun hc => ?_) (fun hc => ?_) <;> try (exact absurd hc (by decide))))
    refine AW_nil 6 1 (by rw [hE]; decide) (by simp only [go_sem, ↓reduceIte, reduceCtorEq, reduceAdd, reduceMul, reduceEqDiff, reduceLT, reduceLeDiff, reduceSub, reduceDiv, Nat.reduceBEq, Int.reduceBEq, reduceBNe, Int.reduceLT, reduceLE, reduceEq]) ?_
    refine K_loop (X := Nat × (Int → Option Int) × List (List Int) × List (AV × AV)) (fun x => x.1 ≤ o.length ∧ MapIs x.2.2.2 (fun n => (x.2.1 n).map AV.i) ∧ EsClo x.2.2.2 ∧ x.2.2.1.length ≤ x.1 ∧ (∀ n, n ∈ o.take x.1 → 0 ≤ gv x.2.1 n ∧ gv x.2.1 n < x.2.2.1.length) ∧ (∀ n, n ∉ o.take x.1 → gv x.2.1 n = 0) ∧ (∀ r, r ∈ x.2.2.1 → r.length ≤ x.1) ∧ wGo u (o.drop x.1) (gv x.2.1) x.2.2.1 = wGo u o (fun _ => 0) []) (fun x => ⟨mkFr [(0, .sl (ill u)), (5, .mp 31), (6, .rw 0), (21, .sl (il o)), (22, AV.i o.length), (23, AV.i x.1)], qHp (rwl x.2.2.1.length) (iel x.2.2.1) x.2.2.2, 32⟩) (fun x => o.length - x.1) (0, fun _ => none, [], []) ⟨Nat.zero_le _, MapIs.nil, EsClo.nil, Nat.zero_le _, by simp, fun n _ => rfl, by simp, rfl⟩ (fun i => if i = 31 then 10485760 else if i = 0 then 16777216 else i) (ent_q hN (by simp [iel]) (iel_clo _) EsClo.nil trivial (by simp [go_sem]) (by simp [go_sem, rwl, iel]) (fun k r h => by simp [iel] at h) (by simp [go_sem]) (fun i j h1 h2 e => by split at e <;> split at e <;> (try split at e) <;> (try split at e) <;> omega)) ?_
    rintro ⟨i, F, W, es⟩ ⟨hi, hm, hec, hWl, hF1, hF2, hWr, hgo⟩
    simp only at hi hm hec hWl hF1 hF2 hWr hgo
    by_cases hlt : i < o.length
    · obtain ⟨m0, hx⟩ := get?_of hlt
      have hne := htp.ne hx
      obtain ⟨⟨x0, x1⟩, hus⟩ := htp.us i m0 hx
      obtain ⟨m, rfl⟩ := Int.eq_ofNat_of_zero_le x0
      obtain ⟨l, hul⟩ := get?_of (show m < u.length by omega)
      have hgl : u.getD (m : Int).toNat [] = l := by simp [List.getD_eq_getElem?_getD, hul]
      rw [hgl] at hus
      rw [drop_of hx, wGo, hgl] at hgo
      have hll := hl l (List.mem_of_getElem? hul)
      have hFm := hF2 m hne
      repeat' (first | apply w1 | apply w2 | apply w3 | apply w4 | apply w5 | apply w6 | apply w7 | refine Kq_exit_ne (by decide) ?_ | apply w8 | apply w9 | apply w0 | rw [wrap64 (by omega) (by omega)] | ((first | refine hK _ ?_ | refine hKp _ _ ?_); clear hK hKp K Kp; try clear hanc anc) | ((with_reducible refine And.intro ?_ ?_); (focus (first | trivial | omega | (simp only [Fits]; omega) | assumption | (rw [hanc]; rfl)))) | ((first | refine K_regA hE fun K Kp hK hKp => ?_ | refine K_drwA true mixed hE fun K Kp hK hKp anc hanc => ?_ | refine K_drwA false mixed hE fun K Kp hK hKp anc hanc => ?_); simp only [go_sem, ↓reduceIte, reduceCtorEq, reduceAdd, reduceMul, reduceEqDiff, reduceLT, reduceLeDiff, reduceSub, reduceDiv, Nat.reduceBEq, Int.reduceBEq, reduceBNe, Int.reduceLT, reduceLE, reduceEq, lt_dec hlt, hx, hul]) | ((first | refine onG_split_t (fun hg => ?_) (fun hg => ?_) | refine onG_split_f (fun hg => ?_) (fun hg => ?_)) <;> simp only [go_sem, ↓reduceIte, reduceCtorEq, reduceAdd, reduceMul, reduceEqDiff, reduceLT, reduceLeDiff, reduceSub, reduceDiv, Nat.reduceBEq, Int.reduceBEq, reduceBNe, Int.reduceLT, reduceLE, reduceEq, lt_dec hlt, hx, hul, hg]) | (refine K_condA (fun hc => ?_) (fun hc => ?_) <;> try (exact absurd hc (by decide))))
      refine K_loop (X := Nat × (Int → Option Int) × List (AV × AV)) (fun x => x.1 ≤ l.length ∧ MapIs x.2.2 (fun n => (x.2.1 n).map AV.i) ∧ EsClo x.2.2 ∧ (∀ n, n ≠ (m : Int) → x.2.1 n = F n) ∧ rkm (gv F) (l.drop x.1) (gv x.2.1 m) = rkm (gv F) l 0 ∧ 0 ≤ gv x.2.1 m ∧ gv x.2.1 m ≤ W.length) (fun x => ⟨mkFr [(0, .sl (ill u)), (5, .mp 31), (6, .rw 0), (8, AV.i m), (21, .sl (il o)), (22, AV.i o.length), (23, AV.i i), (30, .sl (il l)), (31, AV.i l.length), (32, AV.i x.1)], qHp (rwl W.length) (iel W) x.2.2, 32⟩) (fun x => l.length - x.1) (0, F, es) ⟨Nat.zero_le _, hm, hec, fun _ _ => rfl, by rw [hFm]; rfl, by rw [hFm]; exact Int.le_refl _, by rw [hFm]; simp⟩ (fun i => i) (ent_qI hN (by rw [iel_len]; omega) (iel_clo _) hec (rwl_ids (by omega)) (by simp [go_sem]) rfl) ?_
      clear hm hec
      rintro ⟨k, F1, es1⟩ ⟨hk, hm, hec, hFn, hrk, hm0, hm1⟩
      simp only at hk hm hec hFn hrk hm0 hm1
      have hmm := hm m
      simp only at hmm
      by_cases hlk : k < l.length
      · obtain ⟨n, hn⟩ := get?_of hlk
        have hnu := hus n (List.mem_of_getElem? hn)
        have hnm : n ≠ (m : Int) := fun e => hne (e ▸ hnu)
        have hgn : gv F1 n = gv F n := by unfold gv; rw [hFn n hnm]
        have hn1 := hF1 n hnu
        have hmn := hm n
        simp only at hmn
        rw [drop_of hn, rkm] at hrk
        have hmx : max (gv F1 m) (gv F n + 1) ≤ W.length := by omega
        have hmx0 : 0 ≤ max (gv F1 m) (gv F n + 1) := by omega
        have ew : IntKind.i64.wrap (gv F n + 1) = gv F n + 1 := wrap64 (by omega) (by omega)
        have hm' := hm.put m (AV.i (max (gv F1 m) (gv F n + 1)))
        have hc' := hec.put (m : Int) (x := AV.i (max (gv F1 m) (gv F n + 1))) rfl ((F1 m).map AV.i)
        repeat' (first | apply w1 | apply w2 | apply w3 | apply w4 | apply w5 | apply w6 | apply w7 | refine Kq_exit_ne (by decide) ?_ | apply w8 | apply w9 | apply w0 | rw [wrap64 (by omega) (by omega)] | ((first | refine hK _ ?_ | refine hKp _ _ ?_); clear hK hKp K Kp; try clear hanc anc) | ((with_reducible refine And.intro ?_ ?_); (focus (first | trivial | omega | (simp only [Fits]; omega) | assumption | (rw [hanc]; rfl)))) | ((first | refine K_regA hE fun K Kp hK hKp => ?_ | refine K_drwA true mixed hE fun K Kp hK hKp anc hanc => ?_ | refine K_drwA false mixed hE fun K Kp hK hKp anc hanc => ?_); simp only [go_sem, ↓reduceIte, reduceCtorEq, reduceAdd, reduceMul, reduceEqDiff, reduceLT, reduceLeDiff, reduceSub, reduceDiv, Nat.reduceBEq, Int.reduceBEq, reduceBNe, Int.reduceLT, reduceLE, reduceEq, lt_dec hlk, hn, hmm, hmn, qHp_m, hgn, ew]) | ((first | refine onG_split_t (fun hg => ?_) (fun hg => ?_) | refine onG_split_f (fun hg => ?_) (fun hg => ?_)) <;> simp only [go_sem, ↓reduceIte, reduceCtorEq, reduceAdd, reduceMul, reduceEqDiff, reduceLT, reduceLeDiff, reduceSub, reduceDiv, Nat.reduceBEq, Int.reduceBEq, reduceBNe, Int.reduceLT, reduceLE, reduceEq, lt_dec hlk, hn, hmm, hmn, qHp_m, hgn, ew, hg]) | (refine K_condA (fun hc => ?_) (fun hc => ?_) <;> try (exact absurd hc (by decide))))
        have hfe : (fun q => if q = (m : Int) then some (AV.i (max (gv F1 m) (gv F n + 1))) else (F1 q).map AV.i) = fun q => ((fun q => if q = (m : Int) then some (max (gv F1 m) (gv F n + 1)) else F1 q) q).map AV.i := by
          funext q
          by_cases hq : q = (m : Int) <;> simp [hq]
        rw [hfe] at hm'
        have hg2 : gv (fun q => if q = (m : Int) then some (max (gv F1 m) (gv F n + 1)) else F1 q) m = max (gv F1 m) (gv F n + 1) := by simp [gv]
        exact ⟨(k + 1, (fun q => if q = (m : Int) then some (max (gv F1 m) (gv F n + 1)) else F1 q), putE .i64 (m : Int) (AV.i (max (gv F1 m) (gv F n + 1))) es1 ((F1 m).map AV.i)), ⟨by simp only; omega, hm', hc', fun q hq => by simp only [if_neg hq]; exact hFn q hq, by simp only [hg2]; exact hrk, by simp only [hg2]; exact hmx0, by simp only [hg2]; exact hmx⟩, by simp only; omega, fun i => i, ent_qI hN (by rw [iel_len]; omega) (iel_clo _) hc' (rwl_ids (by omega)) (by simp [go_sem]) (upd_qm _ _ _ _)⟩
      · obtain rfl : k = l.length := by omega
        rw [List.drop_length, rkm] at hrk
        repeat' (first | apply w1 | apply w2 | apply w3 | apply w4 | apply w5 | apply w6 | apply w7 | refine Kq_exit_ne (by decide) ?_ | apply w8 | apply w9 | apply w0 | rw [wrap64 (by omega) (by omega)] | ((first | refine hK _ ?_ | refine hKp _ _ ?_); clear hK hKp K Kp; try clear hanc anc) | ((with_reducible refine And.intro ?_ ?_); (focus (first | trivial | omega | (simp only [Fits]; omega) | assumption | (rw [hanc]; rfl)))) | ((first | refine K_regA hE fun K Kp hK hKp => ?_ | refine K_drwA true mixed hE fun K Kp hK hKp anc hanc => ?_ | refine K_drwA false mixed hE fun K Kp hK hKp anc hanc => ?_); simp only [go_sem, ↓reduceIte, reduceCtorEq, reduceAdd, reduceMul, reduceEqDiff, reduceLT, reduceLeDiff, reduceSub, reduceDiv, Nat.reduceBEq, Int.reduceBEq, reduceBNe, Int.reduceLT, reduceLE, reduceEq, ge_dec]) | ((first | refine onG_split_t (fun hg => ?_) (fun hg => ?_) | refine onG_split_f (fun hg => ?_) (fun hg => ?_)) <;> simp only [go_sem, ↓reduceIte, reduceCtorEq, reduceAdd, reduceMul, reduceEqDiff, reduceLT, reduceLeDiff, reduceSub, reduceDiv, Nat.reduceBEq, Int.reduceBEq, reduceBNe, Int.reduceLT, reduceLE, reduceEq, ge_dec, hg]) | (refine K_condA (fun hc => ?_) (fun hc => ?_) <;> try (exact absurd hc (by decide))))
        refine K_loop (X := Nat) (fun j => j = 0 ∨ (j = 1 ∧ gv F1 m = W.length)) (fun j => ⟨mkFr [(0, .sl (ill u)), (5, .mp 31), (6, .rw 0), (8, AV.i m), (21, .sl (il o)), (22, AV.i o.length), (23, AV.i i)], qHp (rwl W.length ++ List.replicate j .nilsl) (iel W) es1, 32⟩) (fun j => 1 - j) 0 (.inl rfl) (fun i => i) (ent_qI hN (by rw [iel_len]; omega) (iel_clo _) hec (by simpa using rwl_ids (by omega)) (by simp [go_sem]) (by simp)) ?_
        obtain ⟨q, hq⟩ := Int.eq_ofNat_of_zero_le hm0
        have hrk2 : rkm (gv F) l 0 = (q : Int) := by rw [← hrk, hq]
        rw [hrk2, Int.toNat_natCast] at hgo
        have hql : q ≤ W.length := by omega
        have hszm := szok_il [(m : Int)]
        have htk : ∀ n, n ∈ o.take (i + 1) ↔ n ∈ o.take i ∨ n = (m : Int) := by
          intro n
          rw [List.take_add_one, hx]
          simp
        have hgF : ∀ n, n ≠ (m : Int) → gv F1 n = gv F n := fun n hn => by unfold gv; rw [hFn n hn]
        have hF1' : ∀ N : Nat, W.length ≤ N → q < N → ∀ n, n ∈ o.take (i + 1) → 0 ≤ gv F1 n ∧ gv F1 n < N := by
          intro N h1 h2 n hn
          by_cases hnm : n = (m : Int)
          · rw [hnm, hq]; omega
          · rw [hgF n hnm]
            have := hF1 n (((htk n).1 hn).resolve_right hnm)
            omega
        have hF2' : ∀ n, n ∉ o.take (i + 1) → gv F1 n = 0 := by
          intro n hn
          have h1 : n ≠ (m : Int) := fun e => hn ((htk n).2 (.inr e))
          rw [hgF n h1]
          exact hF2 n fun h => hn ((htk n).2 (.inl h))
        have hfun : (fun n => if n = (m : Int) then (q : Int) else gv F n) = gv F1 := by
          funext n
          by_cases hnm : n = (m : Int)
          · rw [if_pos hnm, hnm, hq]
          · rw [if_neg hnm, hgF n hnm]
        rw [hfun] at hgo
        rintro j hj
        rcases hj with rfl | ⟨rfl, hj⟩
        · simp only [List.replicate_zero, List.append_nil]
          by_cases hr : q < W.length
          · have q1 : decide ((W.length : Int) ≤ (q : Int)) = false := by simp; omega
            obtain ⟨w, hw⟩ := get?_of hr
            have gs := qHp_s (z := rwl W.length) (es := es1) (R := iel W) (by rw [iel_len]; omega) (iel_get hw)
            have hwl := hWr w (List.mem_of_getElem? hw)
            have hd1 : decide (q + 1 < 6291488) = true := by simp; omega
            have hd2 : (q = 17825823) = False := by simp; omega
            have hszw := szok_il w
            repeat' (first | apply w1 | apply w2 | apply w3 | apply w4 | apply w5 | apply w6 | apply w7 | refine Kq_exit_ne (by decide) ?_ | apply w8 | apply w9 | apply w0 | rw [wrap64 (by omega) (by omega)] | ((first | refine hK _ ?_ | refine hKp _ _ ?_); clear hK hKp K Kp; try clear hanc anc) | ((with_reducible refine And.intro ?_ ?_); (focus (first | trivial | omega | (simp only [Fits]; omega) | assumption | (rw [hanc]; rfl)))) | ((first | refine K_regA hE fun K Kp hK hKp => ?_ | refine K_drwA true mixed hE fun K Kp hK hKp anc hanc => ?_ | refine K_drwA false mixed hE fun K Kp hK hKp anc hanc => ?_); simp only [go_sem, ↓reduceIte, reduceCtorEq, reduceAdd, reduceMul, reduceEqDiff, reduceLT, reduceLeDiff, reduceSub, reduceDiv, Nat.reduceBEq, Int.reduceBEq, reduceBNe, Int.reduceLT, reduceLE, reduceEq, qHp_0, qHp_m, hmm, hq, q1, gs, rwl_get hr, hd1, hd2]) | ((first | refine onG_split_t (fun hg => ?_) (fun hg => ?_) | refine onG_split_f (fun hg => ?_) (fun hg => ?_)) <;> simp only [go_sem, ↓reduceIte, reduceCtorEq, reduceAdd, reduceMul, reduceEqDiff, reduceLT, reduceLeDiff, reduceSub, reduceDiv, Nat.reduceBEq, Int.reduceBEq, reduceBNe, Int.reduceLT, reduceLE, reduceEq, qHp_0, qHp_m, hmm, hq, q1, gs, rwl_get hr, hd1, hd2, hg]) | (refine K_condA (fun hc => ?_) (fun hc => ?_) <;> try (exact absurd hc (by decide))))
            have hgw : W.getD q [] = w := by simp [List.getD_eq_getElem?_getD, hw]
            rw [addW, if_pos hr, hgw] at hgo
            have hbig : ∀ k, k < 30 → (k + 1 = 17825824) = False ∧ (k + 1 = 18874400) = False := fun k hk => by constructor <;> (rw [eq_iff_iff, iff_false]; omega)
            have h30 : ¬ q = 30 := by omega
            refine ⟨(i + 1, F1, W.set q (w ++ [(m : Int)]), es1), ⟨by simp only; omega, hm, hec, by simp only [List.length_set]; omega, by simp only [List.length_set]; exact hF1' _ (Nat.le_refl _) hr, hF2', fun r hr' => ?_, hgo⟩, by simp only; omega, fun j => if j = q + 1 then 18874400 else j, ent_q hN (by rw [iel_len, List.length_set]; omega) (iel_clo _) hec (rwl_ids (by simp only [List.length_set]; omega)) (by simp [go_sem, h30, Ne.symm h30]) ?_ (fun k r hk => ?_) ?_ ?_⟩
            · rcases List.mem_or_eq_of_mem_set hr' with h1 | rfl
              · have := hWr r h1; omega
              · simp only [List.length_append, List.length_singleton]; omega
            · rw [List.length_set, rwl_set hr]
              simp [updo]
            · obtain ⟨r', hr1, rfl⟩ := iel_get_iff hk
              obtain ⟨h3, _⟩ := List.getElem?_eq_some_iff.1 hr1
              rw [List.length_set] at h3
              have hbg := hbig k (by omega)
              by_cases hkq : k = q
              · subst hkq
                rw [List.getElem?_set, if_pos rfl, if_pos hr] at hr1
                cases hr1
                simp [updo]
              · rw [List.getElem?_set, if_neg (Ne.symm hkq)] at hr1
                simp only [updo, Nat.add_right_cancel_iff, hkq, if_false, hbg.1, hbg.2, Nat.add_eq_zero_iff, and_false, Nat.one_ne_zero]
                exact qHp_s (by rw [iel_len]; omega) (iel_get hr1)
            · have : ¬ 31 = q + 1 := by omega
              simp [updo, this, h30, Ne.symm h30, qHp_m]
            · intro a b ha hb hab
              split at hab <;> split at hab <;> omega
          · obtain rfl : q = W.length := by omega
            have q1 : decide ((W.length : Int) ≤ (W.length : Int)) = true := by simp
            have hsn : SzOk [.nilsl] 1 := by intro x hx; rw [List.mem_singleton.1 hx]; rfl
            repeat' (first | apply w1 | apply w2 | apply w3 | apply w4 | apply w5 | apply w6 | apply w7 | refine Kq_exit_ne (by decide) ?_ | apply w8 | apply w9 | apply w0 | rw [wrap64 (by omega) (by omega)] | ((first | refine hK _ ?_ | refine hKp _ _ ?_); clear hK hKp K Kp; try clear hanc anc) | ((with_reducible refine And.intro ?_ ?_); (focus (first | trivial | omega | (simp only [Fits]; omega) | assumption | (rw [hanc]; rfl)))) | ((first | refine K_regA hE fun K Kp hK hKp => ?_ | refine K_drwA true mixed hE fun K Kp hK hKp anc hanc => ?_ | refine K_drwA false mixed hE fun K Kp hK hKp anc hanc => ?_); simp only [go_sem, ↓reduceIte, reduceCtorEq, reduceAdd, reduceMul, reduceEqDiff, reduceLT, reduceLeDiff, reduceSub, reduceDiv, Nat.reduceBEq, Int.reduceBEq, reduceBNe, Int.reduceLT, reduceLE, reduceEq, qHp_0, qHp_m, hmm, hq, q1]) | ((first | refine onG_split_t (fun hg => ?_) (fun hg => ?_) | refine onG_split_f (fun hg => ?_) (fun hg => ?_)) <;> simp only [go_sem, ↓reduceIte, reduceCtorEq, reduceAdd, reduceMul, reduceEqDiff, reduceLT, reduceLeDiff, reduceSub, reduceDiv, Nat.reduceBEq, Int.reduceBEq, reduceBNe, Int.reduceLT, reduceLE, reduceEq, qHp_0, qHp_m, hmm, hq, q1, hg]) | (refine K_condA (fun hc => ?_) (fun hc => ?_) <;> try (exact absurd hc (by decide))))
            refine ⟨1, .inr ⟨rfl, hq⟩, by omega, fun j => if j = 0 then 8388640 else j, ent_q hN (by rw [iel_len]; omega) (iel_clo _) hec ?_ (by simp [go_sem]) ?_ (fun k r hk => ?_) ?_ ?_⟩
            · refine idsL_all fun x hx => ?_
              rcases List.mem_append.1 hx with hx | hx
              · exact List.mem_map.1 hx |>.elim fun k hk => by
                  have := List.mem_range.1 hk.1
                  rw [← hk.2]
                  show k + 1 < 32
                  omega
              · rw [List.eq_of_mem_replicate hx]; trivial
            · rw [renL_append, rwl_ren fun i h1 h2 => if_neg (by omega)]
              simp [updo, AV.renL, AV.ren]
            · obtain ⟨h3, _⟩ := List.getElem?_eq_some_iff.1 hk
              rw [iel_len] at h3
              have h4 : (k + 1 = 7340064) = False := by rw [eq_iff_iff, iff_false]; omega
              have h5 : (k + 1 = 8388640) = False := by rw [eq_iff_iff, iff_false]; omega
              simp only [updo, h4, h5, if_false, Nat.add_eq_zero_iff, and_false, Nat.one_ne_zero]
              exact qHp_s (by rw [iel_len]; omega) hk
            · simp [updo, qHp_m]
            · intro a b ha hb hab
              split at hab <;> split at hab <;> omega
        · have q1 : decide (((W.length + 1 : Nat) : Int) ≤ (q : Int)) = false := by simp; omega
          obtain rfl : q = W.length := by omega
          have hz : rwl W.length ++ List.replicate 1 AV.nilsl = rwl W.length ++ [AV.nilsl] := rfl
          simp only [hz]
          have hgz : (rwl W.length ++ [AV.nilsl])[W.length]? = some AV.nilsl := by
            rw [List.getElem?_append_right (by rw [rwl_len]; omega), rwl_len, Nat.sub_self]; rfl
          repeat' (first | apply w1 | apply w2 | apply w3 | apply w4 | apply w5 | apply w6 | apply w7 | refine Kq_exit_ne (by decide) ?_ | apply w8 | apply w9 | apply w0 | rw [wrap64 (by omega) (by omega)] | ((first | refine hK _ ?_ | refine hKp _ _ ?_); clear hK hKp K Kp; try clear hanc anc) | ((with_reducible refine And.intro ?_ ?_); (focus (first | trivial | omega | (simp only [Fits]; omega) | assumption | (rw [hanc]; rfl)))) | ((first | refine K_regA hE fun K Kp hK hKp => ?_ | refine K_drwA true mixed hE fun K Kp hK hKp anc hanc => ?_ | refine K_drwA false mixed hE fun K Kp hK hKp anc hanc => ?_); simp only [go_sem, ↓reduceIte, reduceCtorEq, reduceAdd, reduceMul, reduceEqDiff, reduceLT, reduceLeDiff, reduceSub, reduceDiv, Nat.reduceBEq, Int.reduceBEq, reduceBNe, Int.reduceLT, reduceLE, reduceEq, qHp_0, qHp_m, hmm, hq, q1, hgz]) | ((first | refine onG_split_t (fun hg => ?_) (fun hg => ?_) | refine onG_split_f (fun hg => ?_) (fun hg => ?_)) <;> simp only [go_sem, ↓reduceIte, reduceCtorEq, reduceAdd, reduceMul, reduceEqDiff, reduceLT, reduceLeDiff, reduceSub, reduceDiv, Nat.reduceBEq, Int.reduceBEq, reduceBNe, Int.reduceLT, reduceLE, reduceEq, qHp_0, qHp_m, hmm, hq, q1, hgz, hg]) | (refine K_condA (fun hc => ?_) (fun hc => ?_) <;> try (exact absurd hc (by decide))))
          rw [addW, if_neg (Nat.lt_irrefl _)] at hgo
          have hbig : ∀ k, k < 30 → (k + 1 = 17825824) = False ∧ (k + 1 = 18874400) = False := fun k hk => by constructor <;> (rw [eq_iff_iff, iff_false]; omega)
          have hW1 : (W ++ [[(m : Int)]]).length = W.length + 1 := by simp
          have h30 : ¬ W.length = 30 := by omega
          refine ⟨(i + 1, F1, W ++ [[(m : Int)]], es1), ⟨by simp only; omega, hm, hec, by simp only [hW1]; omega, by simp only [hW1]; exact hF1' _ (by omega) (by omega), hF2', fun r hr' => ?_, hgo⟩, by simp only; omega, fun j => if j = W.length + 1 then 18874400 else j, ent_q hN (by rw [iel_len, hW1]; omega) (iel_clo _) hec (rwl_ids (by simp only [hW1]; omega)) (by simp [go_sem, h30, Ne.symm h30]) ?_ (fun k r hk => ?_) ?_ ?_⟩
          · rcases List.mem_append.1 hr' with h1 | h1
            · have := hWr r h1; omega
            · rw [List.mem_singleton.1 h1]; simp
          · rw [hW1, rwl_set (by omega), rwl_succ, List.set_append_right _ _ (by rw [rwl_len]; exact Nat.le_refl _), List.set_append_right _ _ (by rw [rwl_len]; exact Nat.le_refl _), rwl_len, Nat.sub_self]
            simp [updo]
          · obtain ⟨r', hr1, rfl⟩ := iel_get_iff hk
            obtain ⟨h3, _⟩ := List.getElem?_eq_some_iff.1 hr1
            rw [hW1] at h3
            have hbg := hbig k (by omega)
            by_cases hkq : k = W.length
            · subst hkq
              rw [List.getElem?_append_right (Nat.le_refl _), Nat.sub_self] at hr1
              cases hr1
              simp [updo, il]
            · rw [List.getElem?_append_left (by omega)] at hr1
              simp only [updo, Nat.add_right_cancel_iff, hkq, if_false, hbg.1, hbg.2, Nat.add_eq_zero_iff, and_false, Nat.one_ne_zero]
              exact qHp_s (by rw [iel_len]; omega) (iel_get hr1)
          · have : ¬ 31 = W.length + 1 := by omega
            simp [updo, this, h30, Ne.symm h30, qHp_m]
          · intro a b ha hb hab
            split at hab <;> split at hab <;> omega
    · obtain rfl : i = o.length := by omega
      rw [List.drop_length, wGo] at hgo
      rw [← hgo] at hQ
      repeat' (first | apply w1 | apply w2 | apply w3 | apply w4 | apply w5 | apply w6 | apply w7 | refine Kq_exit_ne (by decide) ?_ | apply w8 | apply w9 | apply w0 | rw [wrap64 (by omega) (by omega)] | ((first | refine hK _ ?_ | refine hKp _ _ ?_); clear hK hKp K Kp; try clear hanc anc) | ((with_reducible refine And.intro ?_ ?_); (focus (first | trivial | omega | (simp only [Fits]; omega) | assumption | (rw [hanc]; rfl)))) | ((first | refine K_regA hE fun K Kp hK hKp => ?_ | refine K_drwA true mixed hE fun K Kp hK hKp anc hanc => ?_ | refine K_drwA false mixed hE fun K Kp hK hKp anc hanc => ?_); simp only [go_sem, ↓reduceIte, reduceCtorEq, reduceAdd, reduceMul, reduceEqDiff, reduceLT, reduceLeDiff, reduceSub, reduceDiv, Nat.reduceBEq, Int.reduceBEq, reduceBNe, Int.reduceLT, reduceLE, reduceEq, ge_dec, qHp_0]) | ((first | refine onG_split_t (fun hg => ?_) (fun hg => ?_) | refine onG_split_f (fun hg => ?_) (fun hg => ?_)) <;> simp only [go_sem, ↓reduceIte, reduceCtorEq, reduceAdd, reduceMul, reduceEqDiff, reduceLT, reduceLeDiff, reduceSub, reduceDiv, Nat.reduceBEq, Int.reduceBEq, reduceBNe, Int.reduceLT, reduceLE, reduceEq, ge_dec, qHp_0, hg]) | (refine K_condA (fun hc => ?_) (fun hc => ?_) <;> try (exact absurd hc (by decide))))
      refine K_loop (X := Nat) (fun j => j ≤ W.length) (fun j => ⟨mkFr [(6, .rw 0), (71, .rw 0), (72, AV.i W.length), (73, AV.i j)], qHp (rwl W.length) (iel ((W.take j).map srt ++ W.drop j)) es, 32⟩) (fun j => W.length - j) 0 (Nat.zero_le _) (fun i => i) (ent_qI hN (by rw [iel_len]; simp; omega) (iel_clo _) hec (rwl_ids (by omega)) (by simp [go_sem]) (by simp)) ?_
      · intro j hj
        have hlen : ((W.take j).map srt ++ W.drop j).length = W.length := by simp; omega
        by_cases hlj : j < W.length
        · obtain ⟨w, hw⟩ := get?_of hlj
          have hwj : ((W.take j).map srt ++ W.drop j)[j]? = some w := by
            rw [List.getElem?_append_right (by simp; omega)]
            simp only [List.length_map, List.length_take, List.getElem?_drop]
            rw [show j + (j - min j W.length) = j by omega]
            exact hw
          have gs := qHp_s (z := rwl W.length) (es := es) (R := iel ((W.take j).map srt ++ W.drop j)) (by rw [iel_len, hlen]; omega) (iel_get hwj)
          have hww := hWr w (List.mem_of_getElem? hw)
          repeat' (first | apply w1 | apply w2 | apply w3 | apply w4 | apply w5 | apply w6 | apply w7 | refine Kq_exit_ne (by decide) ?_ | apply w8 | apply w9 | apply w0 | rw [wrap64 (by omega) (by omega)] | ((first | refine hK _ ?_ | refine hKp _ _ ?_); clear hK hKp K Kp; try clear hanc anc) | ((with_reducible refine And.intro ?_ ?_); (focus (first | trivial | omega | (simp only [Fits]; omega) | assumption | (rw [hanc]; rfl)))) | ((first | refine K_regA hE fun K Kp hK hKp => ?_ | refine K_drwA true mixed hE fun K Kp hK hKp anc hanc => ?_ | refine K_drwA false mixed hE fun K Kp hK hKp anc hanc => ?_); simp only [go_sem, ↓reduceIte, reduceCtorEq, reduceAdd, reduceMul, reduceEqDiff, reduceLT, reduceLeDiff, reduceSub, reduceDiv, Nat.reduceBEq, Int.reduceBEq, reduceBNe, Int.reduceLT, reduceLE, reduceEq, lt_dec hlj, qHp_0, rwl_get hlj, gs]) | ((first | refine onG_split_t (fun hg => ?_) (fun hg => ?_) | refine onG_split_f (fun hg => ?_) (fun hg => ?_)) <;> simp only [go_sem, ↓reduceIte, reduceCtorEq, reduceAdd, reduceMul, reduceEqDiff, reduceLT, reduceLeDiff, reduceSub, reduceDiv, Nat.reduceBEq, Int.reduceBEq, reduceBNe, Int.reduceLT, reduceLE, reduceEq, lt_dec hlj, qHp_0, rwl_get hlj, gs, hg]) | (refine K_condA (fun hc => ?_) (fun hc => ?_) <;> try (exact absurd hc (by decide))))
          refine Hold.mk (sort_use (l := w) (by omega) gs ?_)
          rintro ⟨fr', hp', nx'⟩ hnx hfr hp1 hold
          simp only at hnx hfr hp1 hold
          subst hnx hfr
          simp only [go_sem, ↓reduceIte, reduceCtorEq, reduceAdd, reduceMul, reduceEqDiff, reduceLT, reduceLeDiff, reduceSub, reduceDiv, Nat.reduceBEq, Int.reduceBEq, reduceBNe, Int.reduceLT, reduceLE, reduceEq]
          refine hK _ ?_; clear hK hKp K Kp; try clear hanc anc
          repeat (first | refine Kq_norm_code ?_ | refine Kq_norm_blk ?_ | refine Kq_norm_lp ?_)
          have hset : ((W.take j).map srt ++ W.drop j).set j (srt w) = (W.take (j + 1)).map srt ++ W.drop (j + 1) := by
            rw [List.set_append_right _ _ (by simp; omega)]
            have e1 : j - ((W.take j).map srt).length = 0 := by simp; omega
            rw [e1, drop_of hw, List.set_cons_zero, List.take_add_one, hw]
            simp
          refine AW.ent (fun i => i) (σ' := ⟨mkFr [(6, .rw 0), (71, .rw 0), (72, AV.i W.length), (73, AV.i j)], qHp (rwl W.length) (iel ((W.take (j + 1)).map srt ++ W.drop (j + 1))) es, 32⟩) (ent_q hN (by rw [iel_len, ← hset, List.length_set, hlen]; omega) (iel_clo _) hec (rwl_ids (by omega)) (by simp [go_sem]) (by rw [renL_id]; exact hold 0 _ (by omega) (qHp_0 _ _ _)) (fun k r hk => ?_) (hold 31 _ (by omega) (qHp_m _ _ _)) (fun _ _ _ _ h => h)) ?_
          · obtain ⟨r', hr1, rfl⟩ := iel_get_iff hk
            rw [← hset] at hr1
            by_cases hkj : k = j
            · subst hkj
              rw [List.getElem?_set, if_pos rfl, if_pos (by omega)] at hr1
              cases hr1
              exact hp1
            · rw [List.getElem?_set, if_neg (Ne.symm hkj)] at hr1
              exact hold (k + 1) _ (by omega) (qHp_s (by rw [iel_len, hlen]; omega) (iel_get hr1))
          · repeat' (first | apply w1 | apply w2 | apply w3 | apply w4 | apply w5 | apply w6 | apply w7 | refine Kq_exit_ne (by decide) ?_ | apply w8 | apply w9 | apply w0 | rw [wrap64 (by omega) (by omega)] | ((first | refine hK _ ?_ | refine hKp _ _ ?_); clear hK hKp K Kp; try clear hanc anc) | ((with_reducible refine And.intro ?_ ?_); (focus (first | trivial | omega | (simp only [Fits]; omega) | assumption | (rw [hanc]; rfl)))) | ((first | refine K_regA hE fun K Kp hK hKp => ?_ | refine K_drwA true mixed hE fun K Kp hK hKp anc hanc => ?_ | refine K_drwA false mixed hE fun K Kp hK hKp anc hanc => ?_); simp only [go_sem, ↓reduceIte, reduceCtorEq, reduceAdd, reduceMul, reduceEqDiff, reduceLT, reduceLeDiff, reduceSub, reduceDiv, Nat.reduceBEq, Int.reduceBEq, reduceBNe, Int.reduceLT, reduceLE, reduceEq]) | ((first | refine onG_split_t (fun hg => ?_) (fun hg => ?_) | refine onG_split_f (fun hg => ?_) (fun hg => ?_)) <;> simp only [go_sem, ↓reduceIte, reduceCtorEq, reduceAdd, reduceMul, reduceEqDiff, reduceLT, reduceLeDiff, reduceSub, reduceDiv, Nat.reduceBEq, Int.reduceBEq, reduceBNe, Int.reduceLT, reduceLE, reduceEq, hg]) | (refine K_condA (fun hc => ?_) (fun hc => ?_) <;> try (exact absurd hc (by decide))))
            exact ⟨j + 1, by omega, by omega, fun i => i, ent_qI hN (by rw [iel_len, ← hset, List.length_set, hlen]; omega) (iel_clo _) hec (rwl_ids (by omega)) (by simp [go_sem]) rfl⟩
        · obtain rfl : j = W.length := by omega
          repeat' (first | apply w1 | apply w2 | apply w3 | apply w4 | apply w5 | apply w6 | apply w7 | refine Kq_exit_ne (by decide) ?_ | apply w8 | apply w9 | apply w0 | rw [wrap64 (by omega) (by omega)] | ((first | refine hK _ ?_ | refine hKp _ _ ?_); clear hK hKp K Kp; try clear hanc anc) | ((with_reducible refine And.intro ?_ ?_); (focus (first | trivial | omega | (simp only [Fits]; omega) | assumption | (rw [hanc]; rfl)))) | ((fail_if_success refine K_stop 23 ?_); (first | refine K_regA hE fun K Kp hK hKp => ?_ | refine K_drwA true mixed hE fun K Kp hK hKp anc hanc => ?_ | refine K_drwA false mixed hE fun K Kp hK hKp anc hanc => ?_); simp only [go_sem, ↓reduceIte, reduceCtorEq, reduceAdd, reduceMul, reduceEqDiff, reduceLT, reduceLeDiff, reduceSub, reduceDiv, Nat.reduceBEq, Int.reduceBEq, reduceBNe, Int.reduceLT, reduceLE, reduceEq, ge_dec]) | ((first | refine onG_split_t (fun hg => ?_) (fun hg => ?_) | refine onG_split_f (fun hg => ?_) (fun hg => ?_)) <;> simp only [go_sem, ↓reduceIte, reduceCtorEq, reduceAdd, reduceMul, reduceEqDiff, reduceLT, reduceLeDiff, reduceSub, reduceDiv, Nat.reduceBEq, Int.reduceBEq, reduceBNe, Int.reduceLT, reduceLE, reduceEq, ge_dec, hg]) | (refine K_condA (fun hc => ?_) (fun hc => ?_) <;> try (exact absurd hc (by decide))))
          refine AW_frzRowsG (R := iel ((W.take W.length).map srt ++ W.drop W.length)) 6 (by simp only [go_sem, ↓reduceIte, reduceCtorEq, reduceAdd, reduceMul, reduceEqDiff, reduceLT, reduceLeDiff, reduceSub, reduceDiv, Nat.reduceBEq, Int.reduceBEq, reduceBNe, Int.reduceLT, reduceLE, reduceEq]) ?_ (fun k r hk => ?_) (iel_cloR _) ?_
          · rw [iel_len, hlen]; exact qHp_0 _ _ _
          · exact qHp_s (by rw [iel_len, hlen]; omega) hk
          · rw [List.take_length, List.drop_length, List.append_nil]
            have e2 : (iel (W.map srt)).map AV.sl = ill (W.map srt) := by simp [iel, ill]
            rw [e2]
            repeat' (first | apply w1 | apply w2 | apply w3 | apply w4 | apply w5 | apply w6 | apply w7 | refine Kq_exit_ne (by decide) ?_ | apply w8 | apply w9 | apply w0 | rw [wrap64 (by omega) (by omega)] | ((first | refine hK _ ?_ | refine hKp _ _ ?_); clear hK hKp K Kp; try clear hanc anc) | ((with_reducible refine And.intro ?_ ?_); (focus (first | trivial | omega | (simp only [Fits]; omega) | assumption | (rw [hanc]; rfl)))) | ((first | refine K_regA hE fun K Kp hK hKp => ?_ | refine K_drwA false mixed hE fun K Kp hK hKp anc hanc => ?_); simp only [go_sem, ↓reduceIte, reduceCtorEq, reduceAdd, reduceMul, reduceEqDiff, reduceLT, reduceLeDiff, reduceSub, reduceDiv, Nat.reduceBEq, Int.reduceBEq, reduceBNe, Int.reduceLT, reduceLE, reduceEq]) | ((first | refine onG_split_t (fun hg => ?_) (fun hg => ?_) | refine onG_split_f (fun hg => ?_) (fun hg => ?_)) <;> simp only [go_sem, ↓reduceIte, reduceCtorEq, reduceAdd, reduceMul, reduceEqDiff, reduceLT, reduceLeDiff, reduceSub, reduceDiv, Nat.reduceBEq, Int.reduceBEq, reduceBNe, Int.reduceLT, reduceLE, reduceEq, hg]) | (refine K_condA (fun hc => ?_) (fun hc => ?_) <;> try (exact absurd hc (by decide))) | (refine K_ret ?_; refine (hQ _ ⟨_, by (try simp only [go_sem, ↓reduceIte, Nat.reduceEqDiff]); rfl, by simp [go_sem], ?_, by first | rfl | assumption⟩).1))
            simp [AV.snap]
  · have hst : waves u = [] := if_neg h
    rw [hst]
    generalize (order u).1 = o at *
    generalize (order u).2 = e at *
    have q1 : (e != 0) = true := by simpa using h
    refine PCall.intro Try.func20 rfl isf20 (by simp [Try.f20]) (by simp [AV.cloL, AV.clo]) fun E Q hE hN hQ => K_start ?_
    repeat' (first | apply w1 | apply w2 | apply w3 | apply w4 | apply w5 | apply w6 | apply w7 | refine Kq_exit_ne (by decide) ?_ | apply w8 | apply w9 | apply w0 | rw [wrap64 (by omega) (by omega)] | ((first | refine hK _ ?_ | refine hKp _ _ ?_); clear hK hKp K Kp; try clear hanc anc) | ((with_reducible refine And.intro ?_ ?_); (focus (first | trivial | omega | (simp only [Fits]; omega) | assumption | (rw [hanc]; rfl)))) | ((first | refine K_regA hE fun K Kp hK hKp => ?_ | refine K_drwA false mixed hE fun K Kp hK hKp anc hanc => ?_ | ((first | apply CallP_mk | apply CallB_mk); (focus (simp only [go_sem]; rfl)); (focus (exact ho)); (focus (simp [go_sem])); (focus (first | exact .inl rfl | (right; simp [go_sem]))))); simp only [go_sem, ↓reduceIte, reduceCtorEq, reduceAdd, reduceMul, reduceEqDiff, reduceLT, reduceLeDiff, reduceSub, reduceDiv, Nat.reduceBEq, Int.reduceBEq, reduceBNe, Int.reduceLT, reduceLE, reduceEq, q1]) | ((first | refine onG_split_t (fun hg => ?_) (fun hg => ?_) | refine onG_split_f (fun hg => ?_) (fun hg => ?_)) <;> simp only [go_sem, ↓reduceIte, reduceCtorEq, reduceAdd, reduceMul, reduceEqDiff, reduceLT, reduceLeDiff, reduceSub, reduceDiv, Nat.reduceBEq, Int.reduceBEq, reduceBNe, Int.reduceLT, reduceLE, reduceEq, q1, hg]) | (refine K_condA (fun hc => ?_) (fun hc => ?_) <;> try (exact absurd hc (by decide))) | (refine K_ret ?_; refine (hQ _ ⟨_, by (try simp only [go_sem, ↓reduceIte, Nat.reduceEqDiff]); rfl, by simp [go_sem], ?_, by first | rfl | assumption⟩).1))
    simp [AV.snap, ill]
end Go.Proofs.Ytakpabiefjlmaaa


/- Chapter 22: the examples. -/
set_option linter.unusedSimpArgs false
set_option linter.unusedVariables false
set_option maxHeartbeats 4000000
set_option maxRecDepth 100000
namespace Go.Proofs.Ytakpabiefjlmaaa
open Nat (reduceAdd reduceMul reduceEqDiff reduceLT reduceLeDiff reduceSub reduceDiv)
open Int (reduceBNe reduceLE reduceEq)
open Go.Am Go.Proofs
attribute [local irreducible] AW CallP CallB

/-- The sort, in a form that computes. -/
def insI (x : Int) : List Int → List Int
  | [] => [x]
  | y :: l => if x ≤ y then x :: y :: l else y :: insI x l
def isrt : List Int → List Int
  | [] => []
  | x :: l => insI x (isrt l)
theorem insI_perm (x : Int) : ∀ l : List Int, (insI x l).Perm (x :: l)
  | [] => List.Perm.refl _
  | y :: l => by
    rw [insI]
    split
    · exact List.Perm.refl _
    · exact ((insI_perm x l).cons y).trans (List.Perm.swap _ _ _)
theorem isrt_perm : ∀ l : List Int, (isrt l).Perm l
  | [] => List.Perm.refl _
  | x :: l => (insI_perm x _).trans ((isrt_perm l).cons x)
theorem insI_so (x : Int) : ∀ l : List Int, l.Pairwise (· ≤ ·) → (insI x l).Pairwise (· ≤ ·)
  | [], _ => by simp [insI]
  | y :: l, h => by
    obtain ⟨h1, h2⟩ := List.pairwise_cons.1 h
    rw [insI]
    split
    · rename_i hx
      refine List.pairwise_cons.2 ⟨fun z hz => ?_, h⟩
      rcases List.mem_cons.1 hz with rfl | hz
      · exact hx
      · have := h1 z hz; omega
    · rename_i hx
      refine List.pairwise_cons.2 ⟨fun z hz => ?_, insI_so x l h2⟩
      rcases List.mem_cons.1 ((insI_perm x l).mem_iff.1 hz) with rfl | hz
      · omega
      · exact h1 z hz
theorem isrt_so : ∀ l : List Int, (isrt l).Pairwise (· ≤ ·)
  | [] => List.Pairwise.nil
  | x :: l => insI_so x _ (isrt_so l)
theorem srt_isrt (l : List Int) : srt l = isrt l := by
  have h1 : (srt l).Pairwise (· ≤ ·) := by
    have := List.pairwise_mergeSort (le := fun a b : Int => decide (a ≤ b)) (fun a b c h1 h2 => by simp at *; omega) (fun a b => by simp; omega) l
    exact List.Pairwise.imp (fun h => by simpa using h) this
  exact List.Perm.eq_of_pairwise (le := (· ≤ ·)) (fun a b _ _ h1 h2 => by omega) h1 (isrt_so l) ((List.mergeSort_perm l _).trans (isrt_perm l).symm)
def thrC (u : List (List Int)) (a : Int) : Nat → List Int → List (List Int) → List Int
  | 0, _, _ => []
  | _ + 1, _, [] => []
  | k + 1, us, path :: q => if a ∈ isrt (u.getD (lst path).toNat []) then path else thrC u a k (thrAdd path (isrt (u.getD (lst path).toNat [])) (us, path :: q)).1 ((thrAdd path (isrt (u.getD (lst path).toNat [])) (us, path :: q)).2.drop 1)
theorem thr_C (u : List (List Int)) (a : Int) : ∀ (k : Nat) (us : List Int) (q : List (List Int)), thr u a k us q = thrC u a k us q
  | 0, _, _ => rfl
  | _ + 1, _, [] => rfl
  | k + 1, us, path :: q => by simp only [thr, thrC, srt_isrt, thr_C u a k]
def cycC (u : List (List Int)) : Nat → Nat → List Int → List Int
  | 0, _, b => b
  | k + 1, m, b => cycC u k (m + 1) (betL (thrC u m (u.length + 2) [] [[(m : Int)]]) b)
theorem cyc_C (u : List (List Int)) : ∀ (k m : Nat) (b : List Int), cycGo u k m b = cycC u k m b
  | 0, _, _ => rfl
  | k + 1, m, b => by rw [cycGo, cycC, cyc_C u k, through, thr_C]

abbrev exA : List (List Int) := [[1], [], [0, 1], [2]]
abbrev exB : List (List Int) := [[1], [3], [0, 1], [2]]
theorem exA_order : order exA = ([1, 0, 2, 3], 0) := by decide +kernel
theorem exB_order : order exB = ([], 15) := by decide +kernel
theorem exC_order : order [[1]] = ([], 1) := by decide +kernel
theorem exB_cycle : cycle exB = [1, 3, 2] := by
  rw [cycle, cyc_C]
  decide +kernel
theorem exA_cycle : cycle exA = [] := by
  rw [cycle, cyc_C]
  decide +kernel
theorem exA_stale1 : stale exA [false, true, false, false] [false, false, false, false] = [1] := by
  rw [stale, srt_isrt]
  decide +kernel
theorem exA_stale2 : stale exA [false, true, false, false] [true, true, false, false] = [0, 1, 2] := by
  rw [stale, srt_isrt]
  decide +kernel
theorem exA_waves : waves exA = [[1], [0], [2], [3]] := by
  rw [waves, show srt = isrt from funext srt_isrt]
  decide +kernel

theorem ills (l : List (List Int)) : ∀ x, x ∈ l → x.length ≤ 2 ^ 20 → x.length ≤ 2 ^ 40 := fun x _ h => by omega
theorem exL (l : List (List Int)) (h : (l.all fun x => decide (x.length ≤ 1000)) = true) : ∀ x, x ∈ l → x.length ≤ 2 ^ 30 := fun x hx => by
  rw [List.all_eq_true] at h
  have := h x hx
  simp only [decide_eq_true_eq] at this
  omega
theorem exL40 (l : List (List Int)) (h : (l.all fun x => decide (x.length ≤ 1000)) = true) : ∀ x, x ∈ l → x.length ≤ 2 ^ 40 := fun x hx => by have := exL l h x hx; omega

theorem intsR (a : List Int) (h : a.length ≤ 2 ^ 40) : PCall Try.prog 21 [.sl (il a), .sl (il a)] (.bool true) := by
  have := ints_call a a h
  simpa using this
theorem listsR (a : List (List Int)) (h : a.length ≤ 2 ^ 40) (hl : ∀ l, l ∈ a → l.length ≤ 2 ^ 40) : PCall Try.prog 22 [.sl (ill a), .sl (ill a)] (.bool true) := by
  have := lists_call a a h hl
  simpa using this
theorem head_pc : PCall Try.prog 8 [] (.bool true) := by
  have o1 := order_call exA (by decide) (exL40 _ rfl)
  have o2 := order_call exB (by decide) (exL40 _ rfl)
  have o3 := order_call [[1]] (by decide) (exL40 _ rfl)
  have c1 := cycle_call exA (by decide) (exL _ rfl)
  have c2 := cycle_call exB (by decide) (exL _ rfl)
  have s1 := stale_call exA [false, true, false, false] [false, false, false, false] (by decide) (exL40 _ rfl) (by decide) (by decide)
  have s2 := stale_call exA [false, true, false, false] [true, true, false, false] (by decide) (exL40 _ rfl) (by decide) (by decide)
  have wv := waves_call exA (by decide) (exL40 _ rfl)
  have j1 := listsR [[1], [0], [2], [3]] (by decide) (exL40 _ rfl)
  have i1 := intsR [1, 0, 2, 3] (by decide)
  have i2 := intsR [1, 3, 2] (by decide)
  have i3 := intsR [1] (by decide)
  have i4 := intsR [0, 1, 2] (by decide)
  have q0 : (((0 : Nat) : Int) == 0) = true := rfl
  rw [exA_order] at o1
  rw [exB_order] at o2
  rw [exC_order] at o3
  rw [exA_cycle] at c1
  rw [exB_cycle] at c2
  rw [exA_stale1] at s1
  rw [exA_stale2] at s2
  rw [exA_waves] at wv
  refine PCall.intro Try.func8 rfl isf8 (by simp [Try.f8]) (by simp [AV.cloL, AV.clo]) fun E Q hE hN hQ => K_start ?_
  repeat' (first | apply w1 | apply w2 | apply w3 | apply w4 | apply w5 | apply w6 | apply w7 | refine Kq_exit_ne (by decide) ?_ | apply w8 | apply w9 | apply w0 | rw [wrap64 (by omega) (by omega)] | ((first | refine hK _ ?_ | refine hKp _ _ ?_); clear hK hKp K Kp; try clear hanc anc) | ((with_reducible refine And.intro ?_ ?_); (focus (first | trivial | omega | (simp only [Fits]; omega) | assumption | (rw [hanc]; rfl)))) | ((fail_if_success refine K_stop 2 ?_); (first | refine K_regA hE fun K Kp hK hKp => ?_ | refine K_drwA true mixed hE fun K Kp hK hKp anc hanc => ?_ | refine K_drwA false mixed hE fun K Kp hK hKp anc hanc => ?_); simp only [go_sem, ↓reduceIte, reduceCtorEq, reduceAdd, reduceMul, reduceEqDiff, reduceLT, reduceLeDiff, reduceSub, reduceDiv, Nat.reduceBEq, Int.reduceBEq, reduceBNe, Int.reduceLT, reduceLE, reduceEq]) | ((first | refine onG_split_t (fun hg => ?_) (fun hg => ?_) | refine onG_split_f (fun hg => ?_) (fun hg => ?_)) <;> simp only [go_sem, ↓reduceIte, reduceCtorEq, reduceAdd, reduceMul, reduceEqDiff, reduceLT, reduceLeDiff, reduceSub, reduceDiv, Nat.reduceBEq, Int.reduceBEq, reduceBNe, Int.reduceLT, reduceLE, reduceEq, hg]) | (refine K_condA (fun hc => ?_) (fun hc => ?_) <;> try (exact absurd hc (by decide))))
  refine AW.dfrL [1048576, 2097152, 3145728, 4194304, 5242880] 4 [(0, .bool false), (1, .sl (ill exA))] ?_ ?_
  · intro p hp
    simp only [List.mem_cons, List.not_mem_nil, or_false] at hp
    rcases hp with rfl | rfl
    · exact ⟨.bool false, by simp only [go_sem, ↓reduceIte, reduceCtorEq, reduceAdd, reduceMul, reduceEqDiff, reduceLT, reduceLeDiff, reduceSub, reduceDiv, Nat.reduceBEq, Int.reduceBEq, reduceBNe, Int.reduceLT, reduceLE, reduceEq], trivial, rfl⟩
    · exact ⟨.rw 5242880, by simp only [go_sem, ↓reduceIte, reduceCtorEq, reduceAdd, reduceMul, reduceEqDiff, reduceLT, reduceLeDiff, reduceSub, reduceDiv, Nat.reduceBEq, Int.reduceBEq, reduceBNe, Int.reduceLT, reduceLE, reduceEq], by simp [go_sem], by simp [go_sem]; rfl⟩
  refine AW.ent (σ' := mkSt [(0, .bool false), (1, .sl (ill exA))] [] 0) (fun i => i) (by refine ent_mk (by simp [go_sem]) (by simp [go_sem]) (by simp) (by simp [hN])) ?_
  repeat' (first | apply w1 | apply w2 | apply w3 | apply w4 | apply w5 | apply w6 | apply w7 | refine Kq_exit_ne (by decide) ?_ | apply w8 | apply w9 | apply w0 | rw [wrap64 (by omega) (by omega)] | ((first | refine hK _ ?_ | refine hKp _ _ ?_); clear hK hKp K Kp; try clear hanc anc) | ((with_reducible refine And.intro ?_ ?_); (focus (first | trivial | omega | (simp only [Fits]; omega) | assumption | (rw [hanc]; rfl)))) | ((fail_if_success refine K_stop 4 ?_); (first | refine K_regA hE fun K Kp hK hKp => ?_ | refine K_drwA true mixed hE fun K Kp hK hKp anc hanc => ?_ | refine K_drwA false mixed hE fun K Kp hK hKp anc hanc => ?_ | ((first | apply CallP_mk | apply CallB_mk); (focus (simp only [go_sem]; rfl)); (focus (exact o1)); (focus (simp [go_sem])); (focus (first | exact .inl rfl | (right; simp [go_sem]))))); simp only [go_sem, ↓reduceIte, reduceCtorEq, reduceAdd, reduceMul, reduceEqDiff, reduceLT, reduceLeDiff, reduceSub, reduceDiv, Nat.reduceBEq, Int.reduceBEq, reduceBNe, Int.reduceLT, reduceLE, reduceEq]) | ((first | refine onG_split_t (fun hg => ?_) (fun hg => ?_) | refine onG_split_f (fun hg => ?_) (fun hg => ?_)) <;> simp only [go_sem, ↓reduceIte, reduceCtorEq, reduceAdd, reduceMul, reduceEqDiff, reduceLT, reduceLeDiff, reduceSub, reduceDiv, Nat.reduceBEq, Int.reduceBEq, reduceBNe, Int.reduceLT, reduceLE, reduceEq, hg]) | (refine K_condA (fun hc => ?_) (fun hc => ?_) <;> try (exact absurd hc (by decide))))
  refine AW.dfrL [7340032, 8388608, 9437184, 10485760, 11534336] 4 [(0, .bool false), (1, .sl (ill exA)), (2, .sl (il [1, 0, 2, 3])), (3, .i 0), (4, .sl (ill exB))] ?_ ?_
  · intro p hp
    simp only [List.mem_cons, List.not_mem_nil, or_false] at hp
    rcases hp with rfl | rfl | rfl | rfl | rfl
    · exact ⟨.bool false, by simp only [go_sem, ↓reduceIte, reduceCtorEq, reduceAdd, reduceMul, reduceEqDiff, reduceLT, reduceLeDiff, reduceSub, reduceDiv, Nat.reduceBEq, Int.reduceBEq, reduceBNe, Int.reduceLT, reduceLE, reduceEq], trivial, rfl⟩
    · exact ⟨.sl (ill exA), by simp only [go_sem, ↓reduceIte, reduceCtorEq, reduceAdd, reduceMul, reduceEqDiff, reduceLT, reduceLeDiff, reduceSub, reduceDiv, Nat.reduceBEq, Int.reduceBEq, reduceBNe, Int.reduceLT, reduceLE, reduceEq], trivial, rfl⟩
    · exact ⟨.sl (il [1, 0, 2, 3]), by simp only [go_sem, ↓reduceIte, reduceCtorEq, reduceAdd, reduceMul, reduceEqDiff, reduceLT, reduceLeDiff, reduceSub, reduceDiv, Nat.reduceBEq, Int.reduceBEq, reduceBNe, Int.reduceLT, reduceLE, reduceEq], trivial, rfl⟩
    · exact ⟨.i 0, by simp only [go_sem, ↓reduceIte, reduceCtorEq, reduceAdd, reduceMul, reduceEqDiff, reduceLT, reduceLeDiff, reduceSub, reduceDiv, Nat.reduceBEq, Int.reduceBEq, reduceBNe, Int.reduceLT, reduceLE, reduceEq], trivial, rfl⟩
    · exact ⟨.rw 11534336, by simp only [go_sem, ↓reduceIte, reduceCtorEq, reduceAdd, reduceMul, reduceEqDiff, reduceLT, reduceLeDiff, reduceSub, reduceDiv, Nat.reduceBEq, Int.reduceBEq, reduceBNe, Int.reduceLT, reduceLE, reduceEq], by simp [go_sem], by simp [go_sem]; rfl⟩
  refine AW.ent (σ' := mkSt [(0, .bool false), (1, .sl (ill exA)), (2, .sl (il [1, 0, 2, 3])), (3, .i 0), (4, .sl (ill exB))] [] 0) (fun i => i) (by refine ent_mk (by simp [go_sem]) (by simp [go_sem]) (by simp) (by simp [hN])) ?_
  repeat' (first | apply w1 | apply w2 | apply w3 | apply w4 | apply w5 | apply w6 | apply w7 | refine Kq_exit_ne (by decide) ?_ | apply w8 | apply w9 | apply w0 | rw [wrap64 (by omega) (by omega)] | ((first | refine hK _ ?_ | refine hKp _ _ ?_); clear hK hKp K Kp; try clear hanc anc) | ((with_reducible refine And.intro ?_ ?_); (focus (first | trivial | omega | (simp only [Fits]; omega) | assumption | (rw [hanc]; rfl)))) | ((first | refine K_regA hE fun K Kp hK hKp => ?_ | refine K_drwA false mixed hE fun K Kp hK hKp anc hanc => ?_ | ((first | apply CallP_mk | apply CallB_mk); (focus (simp only [go_sem]; rfl)); (focus (exact o2)); (focus (simp [go_sem])); (focus (first | exact .inl rfl | (right; simp [go_sem]))))); simp only [go_sem, ↓reduceIte, reduceCtorEq, reduceAdd, reduceMul, reduceEqDiff, reduceLT, reduceLeDiff, reduceSub, reduceDiv, Nat.reduceBEq, Int.reduceBEq, reduceBNe, Int.reduceLT, reduceLE, reduceEq]) | ((first | refine onG_split_t (fun hg => ?_) (fun hg => ?_) | refine onG_split_f (fun hg => ?_) (fun hg => ?_)) <;> simp only [go_sem, ↓reduceIte, reduceCtorEq, reduceAdd, reduceMul, reduceEqDiff, reduceLT, reduceLeDiff, reduceSub, reduceDiv, Nat.reduceBEq, Int.reduceBEq, reduceBNe, Int.reduceLT, reduceLE, reduceEq, hg]) | (refine K_condA (fun hc => ?_) (fun hc => ?_) <;> try (exact absurd hc (by decide))) | (refine K_ret ?_; refine (hQ _ ⟨_, by (try simp only [go_sem, ↓reduceIte, Nat.reduceEqDiff]); rfl, by simp [go_sem], ?_, by first | rfl | assumption⟩).1))
  refine Hold.mk (CallB.dpure [7340032, 8388608] 8 o3 (by simp only [go_sem, ↓reduceIte, reduceCtorEq, reduceAdd, reduceMul, reduceEqDiff, reduceLT, reduceLeDiff, reduceSub, reduceDiv, Nat.reduceBEq, Int.reduceBEq, reduceBNe, Int.reduceLT, reduceLE, reduceEq, List.mem_cons, List.not_mem_nil, or_false]; rfl) (by simp [go_sem]) (fun _ => rfl) (fun _ => ⟨trivial, trivial⟩) rfl ?_)
  simp only [go_sem, ↓reduceIte, reduceCtorEq, reduceAdd, reduceMul, reduceEqDiff, reduceLT, reduceLeDiff, reduceSub, reduceDiv, Nat.reduceBEq, Int.reduceBEq, reduceBNe, Int.reduceLT, reduceLE, reduceEq]
  refine hK _ ?_; clear hK hKp K Kp; try clear hanc anc
  repeat (first | refine Kq_norm_code ?_ | refine Kq_norm_blk ?_ | refine Kq_norm_lp ?_)
  refine AW.ent (σ' := mkSt [(0, .bool false), (1, .sl (ill exA)), (2, .sl (il [1, 0, 2, 3])), (3, .i 0), (4, .sl (ill exB)), (5, .sl []), (6, .i 15), (7, .sl []), (8, .i 1)] [] 0) (fun i => i) (by refine ent_mk (by simp [go_sem]) (by simp [go_sem]) (by simp) (by simp [hN])) ?_
  repeat' (first | apply w1 | apply w2 | apply w3 | apply w4 | apply w5 | apply w6 | apply w7 | refine Kq_exit_ne (by decide) ?_ | apply w8 | apply w9 | apply w0 | rw [wrap64 (by omega) (by omega)] | ((first | refine hK _ ?_ | refine hKp _ _ ?_); clear hK hKp K Kp; try clear hanc anc) | ((with_reducible refine And.intro ?_ ?_); (focus (first | trivial | omega | (simp only [Fits]; omega) | assumption | (rw [hanc]; rfl)))) | ((fail_if_success refine K_stop 7 ?_); (first | refine K_regA hE fun K Kp hK hKp => ?_ | refine K_drwA true mixed hE fun K Kp hK hKp anc hanc => ?_ | refine K_drwA false mixed hE fun K Kp hK hKp anc hanc => ?_); simp only [go_sem, ↓reduceIte, reduceCtorEq, reduceAdd, reduceMul, reduceEqDiff, reduceLT, reduceLeDiff, reduceSub, reduceDiv, Nat.reduceBEq, Int.reduceBEq, reduceBNe, Int.reduceLT, reduceLE, reduceEq]) | ((first | refine onG_split_t (fun hg => ?_) (fun hg => ?_) | refine onG_split_f (fun hg => ?_) (fun hg => ?_)) <;> simp only [go_sem, ↓reduceIte, reduceCtorEq, reduceAdd, reduceMul, reduceEqDiff, reduceLT, reduceLeDiff, reduceSub, reduceDiv, Nat.reduceBEq, Int.reduceBEq, reduceBNe, Int.reduceLT, reduceLE, reduceEq, hg]) | (refine K_condA (fun hc => ?_) (fun hc => ?_) <;> try (exact absurd hc (by decide))))
  refine AW.dfrL [0] 4 [(0, .bool false), (1, .sl (ill exA)), (2, .sl (il [1, 0, 2, 3])), (3, .i 0), (4, .sl (ill exB)), (5, .sl []), (6, .i 15), (7, .sl []), (8, .i 1), (9, .sl (bl [false, true, false, false]))] ?_ ?_
  · intro p hp
    simp only [List.mem_cons, List.not_mem_nil, or_false] at hp
    rcases hp with rfl | rfl | rfl | rfl | rfl | rfl | rfl | rfl | rfl | rfl
    · exact ⟨.bool false, by simp only [go_sem, ↓reduceIte, reduceCtorEq, reduceAdd, reduceMul, reduceEqDiff, reduceLT, reduceLeDiff, reduceSub, reduceDiv, Nat.reduceBEq, Int.reduceBEq, reduceBNe, Int.reduceLT, reduceLE, reduceEq], trivial, rfl⟩
    · exact ⟨.sl (ill exA), by simp only [go_sem, ↓reduceIte, reduceCtorEq, reduceAdd, reduceMul, reduceEqDiff, reduceLT, reduceLeDiff, reduceSub, reduceDiv, Nat.reduceBEq, Int.reduceBEq, reduceBNe, Int.reduceLT, reduceLE, reduceEq], trivial, rfl⟩
    · exact ⟨.sl (il [1, 0, 2, 3]), by simp only [go_sem, ↓reduceIte, reduceCtorEq, reduceAdd, reduceMul, reduceEqDiff, reduceLT, reduceLeDiff, reduceSub, reduceDiv, Nat.reduceBEq, Int.reduceBEq, reduceBNe, Int.reduceLT, reduceLE, reduceEq], trivial, rfl⟩
    · exact ⟨.i 0, by simp only [go_sem, ↓reduceIte, reduceCtorEq, reduceAdd, reduceMul, reduceEqDiff, reduceLT, reduceLeDiff, reduceSub, reduceDiv, Nat.reduceBEq, Int.reduceBEq, reduceBNe, Int.reduceLT, reduceLE, reduceEq], trivial, rfl⟩
    · exact ⟨.sl (ill exB), by simp only [go_sem, ↓reduceIte, reduceCtorEq, reduceAdd, reduceMul, reduceEqDiff, reduceLT, reduceLeDiff, reduceSub, reduceDiv, Nat.reduceBEq, Int.reduceBEq, reduceBNe, Int.reduceLT, reduceLE, reduceEq], trivial, rfl⟩
    · exact ⟨.sl [], by simp only [go_sem, ↓reduceIte, reduceCtorEq, reduceAdd, reduceMul, reduceEqDiff, reduceLT, reduceLeDiff, reduceSub, reduceDiv, Nat.reduceBEq, Int.reduceBEq, reduceBNe, Int.reduceLT, reduceLE, reduceEq], trivial, rfl⟩
    · exact ⟨.i 15, by simp only [go_sem, ↓reduceIte, reduceCtorEq, reduceAdd, reduceMul, reduceEqDiff, reduceLT, reduceLeDiff, reduceSub, reduceDiv, Nat.reduceBEq, Int.reduceBEq, reduceBNe, Int.reduceLT, reduceLE, reduceEq], trivial, rfl⟩
    · exact ⟨.sl [], by simp only [go_sem, ↓reduceIte, reduceCtorEq, reduceAdd, reduceMul, reduceEqDiff, reduceLT, reduceLeDiff, reduceSub, reduceDiv, Nat.reduceBEq, Int.reduceBEq, reduceBNe, Int.reduceLT, reduceLE, reduceEq], trivial, rfl⟩
    · exact ⟨.i 1, by simp only [go_sem, ↓reduceIte, reduceCtorEq, reduceAdd, reduceMul, reduceEqDiff, reduceLT, reduceLeDiff, reduceSub, reduceDiv, Nat.reduceBEq, Int.reduceBEq, reduceBNe, Int.reduceLT, reduceLE, reduceEq], trivial, rfl⟩
    · exact ⟨.rw 0, by simp only [go_sem, ↓reduceIte, reduceCtorEq, reduceAdd, reduceMul, reduceEqDiff, reduceLT, reduceLeDiff, reduceSub, reduceDiv, Nat.reduceBEq, Int.reduceBEq, reduceBNe, Int.reduceLT, reduceLE, reduceEq], by simp [go_sem], by simp [go_sem]; rfl⟩
  refine AW.ent (σ' := mkSt [(0, .bool false), (1, .sl (ill exA)), (2, .sl (il [1, 0, 2, 3])), (3, .i 0), (4, .sl (ill exB)), (5, .sl []), (6, .i 15), (7, .sl []), (8, .i 1), (9, .sl (bl [false, true, false, false]))] [] 0) (fun i => i) (by refine ent_mk (by simp [go_sem]) (by simp [go_sem]) (by simp) (by simp [hN])) ?_
  repeat' (first | apply w1 | apply w2 | apply w3 | apply w4 | apply w5 | apply w6 | apply w7 | refine Kq_exit_ne (by decide) ?_ | apply w8 | apply w9 | apply w0 | rw [wrap64 (by omega) (by omega)] | ((first | refine hK _ ?_ | refine hKp _ _ ?_); clear hK hKp K Kp; try clear hanc anc) | ((with_reducible refine And.intro ?_ ?_); (focus (first | trivial | omega | (simp only [Fits]; omega) | assumption | (rw [hanc]; rfl)))) | ((first | refine K_regA hE fun K Kp hK hKp => ?_ | refine K_drwA false mixed hE fun K Kp hK hKp anc hanc => ?_ | ((first | apply CallP_mk | apply CallB_mk); (focus (simp only [go_sem]; rfl)); (focus (first | exact c1 | exact c2)); (focus (simp [go_sem])); (focus (first | exact .inl rfl | (right; simp [go_sem]))))); simp only [go_sem, ↓reduceIte, reduceCtorEq, reduceAdd, reduceMul, reduceEqDiff, reduceLT, reduceLeDiff, reduceSub, reduceDiv, Nat.reduceBEq, Int.reduceBEq, reduceBNe, Int.reduceLT, reduceLE, reduceEq, q0]) | ((first | refine onG_split_t (fun hg => ?_) (fun hg => ?_) | refine onG_split_f (fun hg => ?_) (fun hg => ?_)) <;> simp only [go_sem, ↓reduceIte, reduceCtorEq, reduceAdd, reduceMul, reduceEqDiff, reduceLT, reduceLeDiff, reduceSub, reduceDiv, Nat.reduceBEq, Int.reduceBEq, reduceBNe, Int.reduceLT, reduceLE, reduceEq, q0, hg]) | (refine K_condA (fun hc => ?_) (fun hc => ?_) <;> try (exact absurd hc (by decide))) | (refine K_ret ?_; refine (hQ _ ⟨_, by (try simp only [go_sem, ↓reduceIte, Nat.reduceEqDiff]); rfl, by simp [go_sem], ?_, by first | rfl | assumption⟩).1))
  refine Hold.mk (CallB.dpure [4194304] 4 i1 (by simp only [go_sem, ↓reduceIte, reduceCtorEq, reduceAdd, reduceMul, reduceEqDiff, reduceLT, reduceLeDiff, reduceSub, reduceDiv, Nat.reduceBEq, Int.reduceBEq, reduceBNe, Int.reduceLT, reduceLE, reduceEq, List.mem_cons, List.not_mem_nil, or_false]; rfl) (by simp [go_sem]) (fun _ => rfl) (fun _ => ⟨trivial, trivial, trivial⟩) rfl ?_)
  simp only [go_sem, ↓reduceIte, reduceCtorEq, reduceAdd, reduceMul, reduceEqDiff, reduceLT, reduceLeDiff, reduceSub, reduceDiv, Nat.reduceBEq, Int.reduceBEq, reduceBNe, Int.reduceLT, reduceLE, reduceEq]
  repeat' (first | apply w1 | apply w2 | apply w3 | apply w4 | apply w5 | apply w6 | apply w7 | refine Kq_exit_ne (by decide) ?_ | apply w8 | apply w9 | apply w0 | rw [wrap64 (by omega) (by omega)] | ((first | refine hK _ ?_ | refine hKp _ _ ?_); clear hK hKp K Kp; try clear hanc anc) | ((with_reducible refine And.intro ?_ ?_); (focus (first | trivial | omega | (simp only [Fits]; omega) | assumption | (rw [hanc]; rfl)))) | ((first | refine K_regA hE fun K Kp hK hKp => ?_ | refine K_drwA false mixed hE fun K Kp hK hKp anc hanc => ?_ | ((first | apply CallP_mk | apply CallB_mk); (focus (simp only [go_sem]; rfl)); (focus (first | exact c1 | exact c2)); (focus (simp [go_sem])); (focus (first | exact .inl rfl | (right; simp [go_sem]))))); simp only [go_sem, ↓reduceIte, reduceCtorEq, reduceAdd, reduceMul, reduceEqDiff, reduceLT, reduceLeDiff, reduceSub, reduceDiv, Nat.reduceBEq, Int.reduceBEq, reduceBNe, Int.reduceLT, reduceLE, reduceEq, q0]) | ((first | refine onG_split_t (fun hg => ?_) (fun hg => ?_) | refine onG_split_f (fun hg => ?_) (fun hg => ?_)) <;> simp only [go_sem, ↓reduceIte, reduceCtorEq, reduceAdd, reduceMul, reduceEqDiff, reduceLT, reduceLeDiff, reduceSub, reduceDiv, Nat.reduceBEq, Int.reduceBEq, reduceBNe, Int.reduceLT, reduceLE, reduceEq, q0, hg]) | (refine K_condA (fun hc => ?_) (fun hc => ?_) <;> try (exact absurd hc (by decide))) | (refine K_ret ?_; refine (hQ _ ⟨_, by (try simp only [go_sem, ↓reduceIte, Nat.reduceEqDiff]); rfl, by simp [go_sem], ?_, by first | rfl | assumption⟩).1))
  refine Hold.mk (CallB.dpure [18874368] 4 i2 (by simp only [go_sem, ↓reduceIte, reduceCtorEq, reduceAdd, reduceMul, reduceEqDiff, reduceLT, reduceLeDiff, reduceSub, reduceDiv, Nat.reduceBEq, Int.reduceBEq, reduceBNe, Int.reduceLT, reduceLE, reduceEq, List.mem_cons, List.not_mem_nil, or_false]; rfl) (by simp [go_sem]) (fun _ => rfl) (fun _ => ⟨trivial, trivial, trivial⟩) rfl ?_)
  simp only [go_sem, ↓reduceIte, reduceCtorEq, reduceAdd, reduceMul, reduceEqDiff, reduceLT, reduceLeDiff, reduceSub, reduceDiv, Nat.reduceBEq, Int.reduceBEq, reduceBNe, Int.reduceLT, reduceLE, reduceEq]
  repeat' (first | apply w1 | apply w2 | apply w3 | apply w4 | apply w5 | apply w6 | apply w7 | refine Kq_exit_ne (by decide) ?_ | apply w8 | apply w9 | apply w0 | rw [wrap64 (by omega) (by omega)] | ((first | refine hK _ ?_ | refine hKp _ _ ?_); clear hK hKp K Kp; try clear hanc anc) | ((with_reducible refine And.intro ?_ ?_); (focus (first | trivial | omega | (simp only [Fits]; omega) | assumption | (rw [hanc]; rfl)))) | ((first | refine K_regA hE fun K Kp hK hKp => ?_ | refine K_drwA false mixed hE fun K Kp hK hKp anc hanc => ?_ | ((first | apply CallP_mk | apply CallB_mk); (focus (simp only [go_sem]; rfl)); (focus (first | exact c1 | exact c2)); (focus (simp [go_sem])); (focus (first | exact .inl rfl | (right; simp [go_sem]))))); simp only [go_sem, ↓reduceIte, reduceCtorEq, reduceAdd, reduceMul, reduceEqDiff, reduceLT, reduceLeDiff, reduceSub, reduceDiv, Nat.reduceBEq, Int.reduceBEq, reduceBNe, Int.reduceLT, reduceLE, reduceEq, q0]) | ((first | refine onG_split_t (fun hg => ?_) (fun hg => ?_) | refine onG_split_f (fun hg => ?_) (fun hg => ?_)) <;> simp only [go_sem, ↓reduceIte, reduceCtorEq, reduceAdd, reduceMul, reduceEqDiff, reduceLT, reduceLeDiff, reduceSub, reduceDiv, Nat.reduceBEq, Int.reduceBEq, reduceBNe, Int.reduceLT, reduceLE, reduceEq, q0, hg]) | (refine K_condA (fun hc => ?_) (fun hc => ?_) <;> try (exact absurd hc (by decide))) | (refine K_ret ?_; refine (hQ _ ⟨_, by (try simp only [go_sem, ↓reduceIte, Nat.reduceEqDiff]); rfl, by simp [go_sem], ?_, by first | rfl | assumption⟩).1))
  refine Hold.mk (CallB.dpure [33554432] 4 s1 (by simp only [go_sem, ↓reduceIte, reduceCtorEq, reduceAdd, reduceMul, reduceEqDiff, reduceLT, reduceLeDiff, reduceSub, reduceDiv, Nat.reduceBEq, Int.reduceBEq, reduceBNe, Int.reduceLT, reduceLE, reduceEq, List.mem_cons, List.not_mem_nil, or_false]; rfl) (by simp [go_sem, bl]) (fun _ => rfl) (fun _ => ⟨trivial, trivial, trivial, trivial⟩) rfl ?_)
  simp only [go_sem, ↓reduceIte, reduceCtorEq, reduceAdd, reduceMul, reduceEqDiff, reduceLT, reduceLeDiff, reduceSub, reduceDiv, Nat.reduceBEq, Int.reduceBEq, reduceBNe, Int.reduceLT, reduceLE, reduceEq]
  refine Hold.mk (CallB.dpure [35651584] 4 i3 (by simp only [go_sem, ↓reduceIte, reduceCtorEq, reduceAdd, reduceMul, reduceEqDiff, reduceLT, reduceLeDiff, reduceSub, reduceDiv, Nat.reduceBEq, Int.reduceBEq, reduceBNe, Int.reduceLT, reduceLE, reduceEq, List.mem_cons, List.not_mem_nil, or_false]; rfl) (by simp [go_sem]) (fun _ => rfl) (fun _ => ⟨trivial, trivial, trivial⟩) rfl ?_)
  simp only [go_sem, ↓reduceIte, reduceCtorEq, reduceAdd, reduceMul, reduceEqDiff, reduceLT, reduceLeDiff, reduceSub, reduceDiv, Nat.reduceBEq, Int.reduceBEq, reduceBNe, Int.reduceLT, reduceLE, reduceEq]
  refine Hold.mk (CallB.dpure [41943040] 4 s2 (by simp only [go_sem, ↓reduceIte, reduceCtorEq, reduceAdd, reduceMul, reduceEqDiff, reduceLT, reduceLeDiff, reduceSub, reduceDiv, Nat.reduceBEq, Int.reduceBEq, reduceBNe, Int.reduceLT, reduceLE, reduceEq, List.mem_cons, List.not_mem_nil, or_false]; rfl) (by simp [go_sem]) (fun _ => rfl) (fun _ => ⟨trivial, trivial, trivial, trivial⟩) rfl ?_)
  simp only [go_sem, ↓reduceIte, reduceCtorEq, reduceAdd, reduceMul, reduceEqDiff, reduceLT, reduceLeDiff, reduceSub, reduceDiv, Nat.reduceBEq, Int.reduceBEq, reduceBNe, Int.reduceLT, reduceLE, reduceEq]
  refine Hold.mk (CallB.dpure [44040192] 4 i4 (by simp only [go_sem, ↓reduceIte, reduceCtorEq, reduceAdd, reduceMul, reduceEqDiff, reduceLT, reduceLeDiff, reduceSub, reduceDiv, Nat.reduceBEq, Int.reduceBEq, reduceBNe, Int.reduceLT, reduceLE, reduceEq, List.mem_cons, List.not_mem_nil, or_false]; rfl) (by simp [go_sem]) (fun _ => rfl) (fun _ => ⟨trivial, trivial, trivial⟩) rfl ?_)
  simp only [go_sem, ↓reduceIte, reduceCtorEq, reduceAdd, reduceMul, reduceEqDiff, reduceLT, reduceLeDiff, reduceSub, reduceDiv, Nat.reduceBEq, Int.reduceBEq, reduceBNe, Int.reduceLT, reduceLE, reduceEq]
  repeat' (first | apply w1 | apply w2 | apply w3 | apply w4 | apply w5 | apply w6 | apply w7 | refine Kq_exit_ne (by decide) ?_ | apply w8 | apply w9 | apply w0 | rw [wrap64 (by omega) (by omega)] | ((first | refine hK _ ?_ | refine hKp _ _ ?_); clear hK hKp K Kp; try clear hanc anc) | ((with_reducible refine And.intro ?_ ?_); (focus (first | trivial | omega | (simp only [Fits]; omega) | assumption | (rw [hanc]; rfl)))) | ((first | refine K_regA hE fun K Kp hK hKp => ?_ | refine K_drwA false mixed hE fun K Kp hK hKp anc hanc => ?_ | ((first | apply CallP_mk | apply CallB_mk); (focus (simp only [go_sem]; rfl)); (focus (exact wv)); (focus (simp [go_sem])); (focus (first | exact .inl rfl | (right; simp [go_sem]))))); simp only [go_sem, ↓reduceIte, reduceCtorEq, reduceAdd, reduceMul, reduceEqDiff, reduceLT, reduceLeDiff, reduceSub, reduceDiv, Nat.reduceBEq, Int.reduceBEq, reduceBNe, Int.reduceLT, reduceLE, reduceEq]) | ((first | refine onG_split_t (fun hg => ?_) (fun hg => ?_) | refine onG_split_f (fun hg => ?_) (fun hg => ?_)) <;> simp only [go_sem, ↓reduceIte, reduceCtorEq, reduceAdd, reduceMul, reduceEqDiff, reduceLT, reduceLeDiff, reduceSub, reduceDiv, Nat.reduceBEq, Int.reduceBEq, reduceBNe, Int.reduceLT, reduceLE, reduceEq, hg]) | (refine K_condA (fun hc => ?_) (fun hc => ?_) <;> try (exact absurd hc (by decide))) | (refine K_ret ?_; refine (hQ _ ⟨_, by (try simp only [go_sem, ↓reduceIte, Nat.reduceEqDiff]); rfl, by simp [go_sem], ?_, by first | rfl | assumption⟩).1))
  refine Hold.mk (CallB.dpure [50331648, 51380224, 52428800, 53477376, 54525952] 4 j1 (by simp only [go_sem, ↓reduceIte, reduceCtorEq, reduceAdd, reduceMul, reduceEqDiff, reduceLT, reduceLeDiff, reduceSub, reduceDiv, Nat.reduceBEq, Int.reduceBEq, reduceBNe, Int.reduceLT, reduceLE, reduceEq, List.mem_cons, List.not_mem_nil, or_false]; rfl) (by simp [go_sem]) (fun _ => rfl) (fun _ => ⟨trivial, trivial, trivial⟩) rfl ?_)
  simp only [go_sem, ↓reduceIte, reduceCtorEq, reduceAdd, reduceMul, reduceEqDiff, reduceLT, reduceLeDiff, reduceSub, reduceDiv, Nat.reduceBEq, Int.reduceBEq, reduceBNe, Int.reduceLT, reduceLE, reduceEq]
  repeat' (first | apply w1 | apply w2 | apply w3 | apply w4 | apply w5 | apply w6 | apply w7 | refine Kq_exit_ne (by decide) ?_ | apply w8 | apply w9 | apply w0 | rw [wrap64 (by omega) (by omega)] | ((first | refine hK _ ?_ | refine hKp _ _ ?_); clear hK hKp K Kp; try clear hanc anc) | ((with_reducible refine And.intro ?_ ?_); (focus (first | trivial | omega | (simp only [Fits]; omega) | assumption | (rw [hanc]; rfl)))) | ((first | refine K_regA hE fun K Kp hK hKp => ?_ | refine K_drwA false mixed hE fun K Kp hK hKp anc hanc => ?_); simp only [go_sem, ↓reduceIte, reduceCtorEq, reduceAdd, reduceMul, reduceEqDiff, reduceLT, reduceLeDiff, reduceSub, reduceDiv, Nat.reduceBEq, Int.reduceBEq, reduceBNe, Int.reduceLT, reduceLE, reduceEq]) | ((first | refine onG_split_t (fun hg => ?_) (fun hg => ?_) | refine onG_split_f (fun hg => ?_) (fun hg => ?_)) <;> simp only [go_sem, ↓reduceIte, reduceCtorEq, reduceAdd, reduceMul, reduceEqDiff, reduceLT, reduceLeDiff, reduceSub, reduceDiv, Nat.reduceBEq, Int.reduceBEq, reduceBNe, Int.reduceLT, reduceLE, reduceEq, hg]) | (refine K_condA (fun hc => ?_) (fun hc => ?_) <;> try (exact absurd hc (by decide))) | (refine K_ret ?_; refine (hQ _ ⟨_, by (try simp only [go_sem, ↓reduceIte, Nat.reduceEqDiff]); rfl, by simp [go_sem], ?_, by first | rfl | assumption⟩).1))
  rfl
end Go.Proofs.Ytakpabiefjlmaaa

