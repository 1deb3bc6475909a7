/- A part of the proof: an abstract machine for the walks, and what the walked functions compute. -/
import Derived.Test.YtlhhahocjfgmdaaPh
import Derived.Test.YtlhhahocjfgmdaaPa
set_option linter.unusedVariables false
set_option linter.unusedSimpArgs false
set_option linter.unusedSimpArgs false
set_option linter.unusedVariables false
set_option maxHeartbeats 4000000
set_option maxRecDepth 100000
namespace Go.Proofs.Ytlhhahocjfgmdaa
open Nat (reduceAdd reduceMul reduceEqDiff reduceLT reduceLeDiff reduceSub reduceDiv)
open Int (reduceBNe reduceLE reduceEq)
open Go.Am Go.Proofs Go.Hv Go.Mv
open Classical
attribute [local irreducible] AW CallP CallB CallY
def cObj (old : Dd) (to : List Dd) (x : Mg) (out : List Bool) : Bool → Nat → Option AObj := fun b => mkHp [(0, .cells x.cs), (1, .cells [.bool b]), (2, .cells x.cs), (3, .cells old.cs), (4, .cells [.sl (ddl to)]), (5, .row 1 (bl out))]
theorem changed_call (frm to : List Dd) (l : List Mg) (hf : SzD frm) (ht : SzD to) (hB : MgL l) (hl20 : l.length ≤ 2 ^ 30) : PCall Try.prog 13 [.sl (ddl frm), .sl (ddl to), .sl (mgl l)] (.sl (bl (if chkN frm to l = 0 then chgB frm l else []))) := by
 have hck := check_call frm to l hf ht hB
 refine PCall.introM Try.func13 rfl isf13 (by simp [Try.f13]) (by simp [AV.cloL, AV.clo]) fun E Q hE hN hM hQ => K_start ?_
 by_cases hz : chkN frm to l = 0
 case neg =>
  have q1 : (chkN frm to l != 0) = true := by simp [hz]
  rw [if_neg hz] at hQ
  repeat' (first | apply nx | refine Kq_exit_ne (by decide) ?_ | rw [wrap64 (by omega) (by omega)] | ((first | refine hK _ ?_ | refine hKp _ _ ?_); clear hK hKp K Kp; try clear hanc anc) | ((with_reducible refine And.intro ?_ ?_); (focus (first | trivial | omega | (simp only [Fits]; omega) | assumption | (rw [hanc]; rfl)))) | ((first | refine K_regA hE fun K Kp hK hKp => ?_ | refine K_drwA false mixed hE fun K Kp hK hKp anc hanc => ?_ | ((first | apply CallP_mk | apply CallB_mk); (focus (simp only [go_sem] <;> rfl)); (focus (exact hck)); (focus (first | (simp [go_sem]; done) | (simp [go_sem, CloRow, AV.cells, AV.clo]; done))); (focus (first | exact .inl rfl | (right; simp [go_sem]))))); simp only [go_sem, q1]) | ((first | refine onG_split_t (fun hg => ?_) (fun hg => ?_) | refine onG_split_f (fun hg => ?_) (fun hg => ?_)) <;> simp only [go_sem, q1, hg]) | (refine K_condA (fun hc => ?_) (fun hc => ?_) <;> try (exact absurd hc (by decide))) | (refine K_ret ?_; refine (hQ _ ⟨_, by (try simp only [go_sem, ↓reduceIte, Nat.reduceEqDiff]); rfl, by simp [go_sem], ?_, by first | rfl | assumption⟩).1))
  all_goals simp [AV.snap, bl]
 rw [if_pos hz] at hQ
 rw [hz] at hck
 obtain ⟨hd1, hd2, hchk⟩ := chk_zero hz
 have hlen := hchk.len
 repeat' (first | apply nx | refine Kq_exit_ne (by decide) ?_ | rw [wrap64 (by omega) (by omega)] | ((first | refine hK _ ?_ | refine hKp _ _ ?_); clear hK hKp K Kp; try clear hanc anc) | ((with_reducible refine And.intro ?_ ?_); (focus (first | trivial | omega | (simp only [Fits]; omega) | assumption | (rw [hanc]; rfl)))) | ((first | refine K_regA hE fun K Kp hK hKp => ?_ | refine K_drwA true mixed hE fun K Kp hK hKp anc hanc => ?_ | refine K_drwA false mixed hE fun K Kp hK hKp anc hanc => ?_ | ((first | apply CallP_mk | apply CallB_mk); (focus (simp only [go_sem] <;> rfl)); (focus (exact hck)); (focus (first | (simp [go_sem]; done) | (simp [go_sem, CloRow, AV.cells, AV.clo]; done))); (focus (first | exact .inl rfl | (right; simp [go_sem]))))); simp only [go_sem]) | ((first | refine onG_split_t (fun hg => ?_) (fun hg => ?_) | refine onG_split_f (fun hg => ?_) (fun hg => ?_)) <;> simp only [go_sem, hg]) | (refine K_condA (fun hc => ?_) (fun hc => ?_) <;> try (exact absurd hc (by decide))))
 refine K_loop (X := Nat × List Bool) (fun z => z.1 ≤ l.length ∧ z.2.length = l.length ∧ ∀ a, a < z.1 → z.2[a]? = (chgB frm l)[a]?) (fun z => mkSt [(0, .sl (ddl frm)), (1, .sl (ddl to)), (2, .sl (mgl l)), (7, .rw 0), (23, .sl (mgl l)), (24, .i l.length), (25, .i z.1)] [(0, .row 1 (bl z.2))] 1) (fun z => l.length - z.1) (0, List.replicate frm.length false) ⟨Nat.zero_le _, by simp [hlen], fun a h => absurd h (Nat.not_lt_zero _)⟩ (fun i => 8388608) (by refine ent_mk (by simp [go_sem, hlen]) (by simp [go_sem, hlen]) (by simp) (by simp [hN])) ?_
 rintro ⟨i, out⟩ ⟨hi, hol, hok⟩
 simp only at hi hol hok
 by_cases hlt : i < l.length
 case neg =>
  obtain rfl : i = l.length := by omega
  have e : out = chgB frm l := by
   apply List.ext_getElem?
   intro a
   by_cases ha : a < l.length
   ·exact hok a ha
   ·rw [List.getElem?_eq_none (by omega), List.getElem?_eq_none (by rw [chgB_len]; omega)]
  repeat' (first | apply nx | refine Kq_exit_ne (by decide) ?_ | rw [wrap64 (by omega) (by omega)] | ((first | refine hK _ ?_ | refine hKp _ _ ?_); clear hK hKp K Kp; try clear hanc anc) | ((with_reducible refine And.intro ?_ ?_); (focus (first | trivial | omega | (simp only [Fits]; omega) | assumption | (rw [hanc]; rfl)))) | ((first | refine K_regA hE fun K Kp hK hKp => ?_ | refine K_drwA false mixed hE fun K Kp hK hKp anc hanc => ?_); simp only [go_sem, ge_dec]) | ((first | refine onG_split_t (fun hg => ?_) (fun hg => ?_) | refine onG_split_f (fun hg => ?_) (fun hg => ?_)) <;> simp only [go_sem, ge_dec, hg]) | (refine K_condA (fun hc => ?_) (fun hc => ?_) <;> try (exact absurd hc (by decide))) | (refine K_ret ?_; refine (hQ _ ⟨_, by (try simp only [go_sem, ↓reduceIte, Nat.reduceEqDiff]); rfl, by simp [go_sem], ?_, by first | rfl | assumption⟩).1))
  simp [AV.snap, go_sem, e]
 obtain ⟨x, hx⟩ := get?_of hlt
 obtain ⟨old, hold⟩ := get?_of (show i < frm.length by omega)
 obtain ⟨nd, hF⟩ := shap_f (hchk.shp i x old hx hold)
 have hBx := hB.2 x (List.mem_of_getElem? hx)
 have hmo : MvOk old nd to x := ⟨hF.at_, hF.l1, hBx.1, fun v h => hF.var h⟩
 have hmv := moves_nc old to x
 have hsi := stay_iff hF i
 rw [Dd.av_eq, Mg.av_eq] at hmv
 obtain ⟨b0, q2⟩ : ∃ c, (x.data == (i : Int)) = c := ⟨_, rfl⟩
 repeat' (first | apply nx | refine Kq_exit_ne (by decide) ?_ | rw [wrap64 (by omega) (by omega)] | ((first | refine hK _ ?_ | refine hKp _ _ ?_); clear hK hKp K Kp; try clear hanc anc) | ((with_reducible refine And.intro ?_ ?_); (focus (first | trivial | omega | (simp only [Fits]; omega) | assumption | (rw [hanc]; rfl)))) | ((first | refine K_regA hE fun K Kp hK hKp => ?_ | refine K_drwA true mixed hE fun K Kp hK hKp anc hanc => ?_ | refine K_drwA false mixed hE fun K Kp hK hKp anc hanc => ?_); simp only [go_sem, lt_dec hlt, hx, hold, Dd.av_eq, Mg.av_eq, q2]) | ((first | refine onG_split_t (fun hg => ?_) (fun hg => ?_) | refine onG_split_f (fun hg => ?_) (fun hg => ?_)) <;> simp only [go_sem, lt_dec hlt, hx, hold, Dd.av_eq, Mg.av_eq, q2, hg]) | (refine K_condA (fun hc => ?_) (fun hc => ?_) <;> try (exact absurd hc (by decide))))
 refine Hold.mk (CallB.newP hmv (by simp [AV.cloL, AV.clo]) (by simp [AV.ids, AV.idsL]) (by intro p hp; simp only [List.mem_cons, List.not_mem_nil, or_false] at hp; rcases hp with rfl | rfl | rfl <;> exact ⟨by simp, by simp [AObj.ids, Dd.cs, Mg.cs, AV.ids, AV.idsL, go_sem]⟩) ?_)
 simp only [go_sem, AObj.ren, Dd.cs, Mg.cs]
 try (refine ⟨by rw [hanc]; rfl, ?_⟩)
 refine hK _ ?_; clear hK hKp K Kp; try clear hanc anc
 repeat (first | refine Kq_norm_code ?_ | refine Kq_norm_blk ?_ | refine Kq_norm_lp ?_)
 refine AW.ent (σ' := ⟨mkFr [(0, .sl (ddl frm)), (1, .sl (ddl to)), (2, .sl (mgl l)), (7, .rw 5), (8, .i i), (9, .ptr 0 0), (10, .ptr 1 0), (23, .sl (mgl l)), (24, .i l.length), (25, .i i), (40, .fn (.func 54) [] [.ptr 2 0, .ptr 3 0, .ptr 4 0])], cObj old to x out b0, 1000000⟩) (fun i => if i = 0 then 4194305 else if i = 1 then 11534337 else if i = 2 then 19922947 else if i = 3 then 19922945 else if i = 4 then 19922946 else 0) (by
  show Ent _ _ _ (mkSt [(0, .sl (ddl frm)), (1, .sl (ddl to)), (2, .sl (mgl l)), (7, .rw 5), (8, .i i), (9, .ptr 0 0), (10, .ptr 1 0), (23, .sl (mgl l)), (24, .i l.length), (25, .i i), (40, .fn (.func 54) [] [.ptr 2 0, .ptr 3 0, .ptr 4 0])] [(0, .cells x.cs), (1, .cells [.bool b0]), (2, .cells x.cs), (3, .cells old.cs), (4, .cells [.sl (ddl to)]), (5, .row 1 (bl out))] 1000000)
  exact ent_mk (by simp [go_sem, AV.ids, AV.idsL]) (by simp [go_sem, Mg.cs, Dd.cs]) (by simp) (by simp [hN])) ?_
 refine K_blk ?_
 refine AW_iter hM (moves_iter hmo 3 4 2) (cObj old to x out) 6 (by decide) (by rw [hN]; decide) (by simp [AV.idsL, AV.ids]) (by simp) (fun _ => by simp [cObj, mkHp, updo]) (fun s id o ho => ?_) (fun s id hid => ?_) [(0, .sl (ddl frm)), (1, .sl (ddl to)), (2, .sl (mgl l)), (7, .rw 5), (8, .i i), (9, .ptr 0 0), (10, .ptr 1 0), (23, .sl (mgl l)), (24, .i l.length), (25, .i i), (40, .fn (.func 54) [] [.ptr 2 0, .ptr 3 0, .ptr 4 0])] (by simp [AV.ids, AV.idsL, go_sem]) (by simp [go_sem]) (by simp [go_sem]) [9, 10] [.ptr 0 0, .ptr 1 0]
  (by intro i hi; match i, hi with | 0, _ => rfl | 1, _ => rfl | i + 2, h => simp at h; omega) (by simp [AV.idsL, AV.ids]) (fun y hy => by rw [ysM_mem hy]; rfl) (by rw [hE]; decide)
  (fun k b => b = (decide (x.data = i) && decide (∀ k', k' < k → okS old x k'))) (fun c _ => False) (fun _ _ => False) (fun _ _ h => h.elim) ?_ b0 (by rw [← q2, decide_eq_true (p := ∀ k', k' < 0 → okS old x k') (fun k hk => absurd hk (Nat.not_lt_zero _)), Bool.and_true]; rfl) ?_ (fun _ _ _ _ h => h.elim) (fun _ _ _ _ h => h.elim)
 ·revert ho
  exact mkHp_allP (p := fun id o => (id < 1000000 ∧ id ≠ 6) ∧ o.ids (fun j => j < 1000000 ∧ j ≠ 6)) (by simp [AObj.ids, AV.ids, AV.idsL, go_sem, Mg.cs, Dd.cs]) id o
 ·rcases (by omega : id = 0 ∨ id = 1 ∨ id = 2 ∨ id = 3 ∨ id = 4 ∨ id = 5) with rfl | rfl | rfl | rfl | rfl | rfl <;> simp [cObj, mkHp, updo]
 ·intro ll fnn k y b E' Q' hb hy hE' hN' hnorm hleft hpan
  obtain ⟨v, ov, nv, hv1, hov, hnv, rfl⟩ := ysM_inv hmo hy
  have hkl := (List.getElem?_eq_some_iff.1 hv1).1
  obtain ⟨f, hff⟩ := get?_of (show k < x.fss.length by have := hF.l1; have := hF.l2; omega)
  obtain ⟨nv', k1, hfl, hdf, _⟩ := hF.ok k v ov f hv1 hov hff
  rw [hnv] at k1
  cases k1
  have hBf := hBx.2.2 f (List.mem_of_getElem? hff)
  have hkey : okS old x k ↔ (v = (k : Int) ∧ ov.fs.length = nv.fs.length ∧ ∀ (j : Nat) m, f[j]? = some m → m = j) := by
   constructor
   ·intro h
    obtain ⟨h1, h2⟩ := h v ov f hv1 hov hff
    obtain ⟨h3, h4⟩ := range_iff.1 h2
    exact ⟨h1, by omega, h4⟩
   ·rintro ⟨h1, h2, h3⟩ v' ov' f' a c e
    rw [hv1] at a; rw [hov] at c; rw [hff] at e
    cases a; cases c; cases e
    exact ⟨h1, range_iff.2 ⟨by omega, h3⟩⟩
  have ho0 : ∀ b, cObj old to x out b 0 = some (.cells x.cs) := fun _ => rfl
  have ho1 : ∀ b, cObj old to x out b 1 = some (.cells [.bool b]) := fun _ => rfl
  have ho2 : ∀ b, cObj old to x out b 2 = some (.cells x.cs) := fun _ => rfl
  have ho3 : ∀ b, cObj old to x out b 3 = some (.cells old.cs) := fun _ => rfl
  have ho4 : ∀ b, cObj old to x out b 4 = some (.cells [.sl (ddl to)]) := fun _ => rfl
  have ho5 : ∀ b, cObj old to x out b 5 = some (.row 1 (bl out)) := fun _ => rfl
  unfold RoundG
  refine K_start ?_
  show AW Try.prog E' _ _ ⟨upd (upd (mkFr [(9, .ptr 0 0), (10, .ptr 1 0)]) 41 (.i k)) 42 (.agg [.sl (Ty.avL ov.fs), .sl (Ty.avL nv.fs)]), updo (cObj old to x out b) 6 _, 1000000⟩
  rw [hE] at hE'
  replace hE := hE'
  replace hN := hN'
  repeat' (first | apply nx | refine Kq_exit_ne (by decide) ?_ | rw [wrap64 (by omega) (by omega)] | ((first | refine hK _ ?_ | refine hKp _ _ ?_); clear hK hKp K Kp; try clear hanc anc) | ((with_reducible refine And.intro ?_ ?_); (focus (first | trivial | omega | (simp only [Fits]; omega) | assumption | (rw [hanc]; rfl)))) | ((first | refine K_regA hE fun K Kp hK hKp => ?_ | refine K_drwA true mixed hE fun K Kp hK hKp anc hanc => ?_ | refine K_drwA false mixed hE fun K Kp hK hKp anc hanc => ?_); simp only [go_sem]) | ((first | refine onG_split_t (fun hg => ?_) (fun hg => ?_) | refine onG_split_f (fun hg => ?_) (fun hg => ?_)) <;> simp only [go_sem, hg]) | (refine K_condA (fun hc => ?_) (fun hc => ?_) <;> try (exact absurd hc (by decide))))
  refine Kq_norm_nil ?_
  refine ⟨[.ptr 0 0, .ptr 1 0], by simp [updo], K_start ?_⟩
  show AW Try.prog E' _ _ ⟨_, _, 4145728⟩
  generalize hq : (⟨ll, fnn, #[41, 42], _, _, E.nt, [9, 10], .busy, none⟩ : Lp) = q at *
  obtain ⟨c1, hc1⟩ : ∃ c, (v == (k : Int)) = c := ⟨_, rfl⟩
  obtain ⟨c2, hc2⟩ : ∃ c, ((ov.fs.length : Int) == (nv.fs.length : Int)) = c := ⟨_, rfl⟩
  obtain ⟨b1, hb1⟩ : ∃ b1, b1 = (b && (c1 && c2)) := ⟨_, rfl⟩
  have hend : (b1 && decide (∀ (j : Nat) m, j < f.length → f[j]? = some m → m = (j : Int))) = (decide (x.data = i) && decide (∀ k', k' < k + 1 → okS old x k')) := by
   have e1 : (∀ k', k' < k + 1 → okS old x k') ↔ (∀ k', k' < k → okS old x k') ∧ okS old x k := by
    constructor
    ·intro h; exact ⟨fun k' hk' => h k' (by omega), h k (by omega)⟩
    ·rintro ⟨h1, h2⟩ k' hk'
     by_cases e : k' = k
     ·rw [e]; exact h2
     ·exact h1 k' (by omega)
   have e2 : okS old x k ↔ (c1 = true ∧ c2 = true) ∧ ∀ (j : Nat) m, j < f.length → f[j]? = some m → m = (j : Int) := by
    rw [hkey, ← hc1, ← hc2, beq_iff_eq, beq_iff_eq]
    constructor
    ·rintro ⟨h1, h2, h3⟩; exact ⟨⟨h1, by omega⟩, fun j m _ hj => h3 j m hj⟩
    ·rintro ⟨⟨h1, h2⟩, h3⟩; exact ⟨h1, by omega, fun j m hj => h3 j m (List.getElem?_eq_some_iff.1 hj).1 hj⟩
   rw [Bool.eq_iff_iff]
   simp only [hb1, hb, Bool.and_eq_true, decide_eq_true_eq, e1, e2]
   constructor
   ·rintro ⟨⟨⟨a, b⟩, c⟩, d⟩; exact ⟨a, b, c, d⟩
   ·rintro ⟨a, b, c, d⟩; exact ⟨⟨⟨a, b⟩, c⟩, d⟩
  have hst : ∀ (j : Nat) m, f[j]? = some m → decide (∀ (a : Nat) m, a < j + 1 → f[a]? = some m → m = (a : Int)) = (decide (∀ (a : Nat) m, a < j → f[a]? = some m → m = (a : Int)) && (m == (j : Int))) := by
   intro j m hm
   rw [Bool.eq_iff_iff]
   simp only [Bool.and_eq_true, decide_eq_true_eq, beq_iff_eq]
   constructor
   ·intro h; exact ⟨fun a m' ha => h a m' (by omega), h j m (by omega) hm⟩
   ·rintro ⟨h1, h2⟩ a m' ha hm'
    by_cases e : a = j
    ·subst e; rw [hm] at hm'; cases hm'; exact h2
    ·exact h1 a m' (by omega) hm'
  have hcs : b = false ∨ (b = true ∧ c1 = false) ∨ (b = true ∧ c1 = true ∧ c2 = false) ∨ (b = true ∧ c1 = true ∧ c2 = true) := by
   cases b <;> cases c1 <;> cases c2 <;> simp
  rcases hcs with rfl | ⟨rfl, rfl⟩ | ⟨rfl, rfl, rfl⟩ | ⟨rfl, rfl, rfl⟩
  all_goals
   simp at hb1
   repeat' (first | apply nx | refine Kq_exit_ne (by decide) ?_ | rw [wrap64 (by omega) (by omega)] | ((first | refine hK _ ?_ | refine hKp _ _ ?_); clear hK hKp K Kp; try clear hanc anc) | ((with_reducible refine And.intro ?_ ?_); (focus (first | trivial | omega | (simp only [Fits]; omega) | assumption | (rw [hanc]; rfl)))) | ((first | refine K_regA hE fun K Kp hK hKp => ?_ | refine K_drwA true mixed hE fun K Kp hK hKp anc hanc => ?_ | refine K_drwA false mixed hE fun K Kp hK hKp anc hanc => ?_); simp only [go_sem, hc1, hc2, ho0, ho1, Mg.cs, hv1, hff]) | ((first | refine onG_split_t (fun hg => ?_) (fun hg => ?_) | refine onG_split_f (fun hg => ?_) (fun hg => ?_)) <;> simp only [go_sem, hc1, hc2, ho0, ho1, Mg.cs, hv1, hff, hg]) | (refine K_condA (fun hc => ?_) (fun hc => ?_) <;> try (exact absurd hc (by decide))))
   refine K_loop (X := Nat × Bool) (fun z => z.1 ≤ f.length ∧ z.2 = (b1 && decide (∀ (a : Nat) m, a < z.1 → f[a]? = some m → m = (a : Int)))) (fun z => mkSt [(9, .ptr 0 0), (10, .ptr 1 0), (66, .sl (il f)), (67, .i f.length), (68, AV.i z.1)] [(0, .cells [.i x.data, .sl (il x.vars), .sl (ill x.fss)]), (1, .cells [.bool z.2]), (2, .cells x.cs), (3, .cells old.cs), (4, .cells [.sl (ddl to)]), (5, .row 1 (bl out)), (6, .lp q [.ptr 0 0, .ptr 1 0])] 4145728)
    (fun z => f.length - z.1) (0, b1) ⟨Nat.zero_le _, by simp⟩ (fun i => i) (ent_mk (by simp [go_sem]) (by simp [go_sem, ho0, ho1, ho2, ho3, ho4, ho5, hb1, Mg.cs, Dd.cs, AObj.ren, AObj.ids]) (by simp) (by simp [hN]; omega)) ?_
   rintro ⟨j, bb⟩ ⟨hj, hbb⟩
   simp only at hj hbb
   by_cases hlt : j < f.length
   ·obtain ⟨m, hm⟩ := get?_of hlt
    obtain ⟨c3, hc3⟩ : ∃ c, (m == (j : Int)) = c := ⟨_, rfl⟩
    have hs := hst j m hm
    rw [hc3] at hs
    cases bb
    ·repeat' (first | apply nx | refine Kq_exit_ne (by decide) ?_ | rw [wrap64 (by omega) (by omega)] | ((first | refine hK _ ?_ | refine hKp _ _ ?_); clear hK hKp K Kp; try clear hanc anc) | ((with_reducible refine And.intro ?_ ?_); (focus (first | trivial | omega | (simp only [Fits]; omega) | assumption | (rw [hanc]; rfl)))) | ((first | refine K_regA hE fun K Kp hK hKp => ?_ | refine K_drwA true mixed hE fun K Kp hK hKp anc hanc => ?_ | refine K_drwA false mixed hE fun K Kp hK hKp anc hanc => ?_); simp only [go_sem, lt_dec hlt, hm]) | ((first | refine onG_split_t (fun hg => ?_) (fun hg => ?_) | refine onG_split_f (fun hg => ?_) (fun hg => ?_)) <;> simp only [go_sem, lt_dec hlt, hm, hg]) | (refine K_condA (fun hc => ?_) (fun hc => ?_) <;> try (exact absurd hc (by decide))))
     exact ⟨(j + 1, false), ⟨by simp only; omega, by simp only; rw [hs, ← Bool.and_assoc, ← hbb]; rfl⟩, by simp only; omega, fun i => i, ent_mk (by simp [go_sem]) (by simp [go_sem,  Mg.cs, Dd.cs, AObj.ren, AObj.ids]) (by simp) (by simp [hN]; omega)⟩
    ·repeat' (first | apply nx | refine Kq_exit_ne (by decide) ?_ | rw [wrap64 (by omega) (by omega)] | ((first | refine hK _ ?_ | refine hKp _ _ ?_); clear hK hKp K Kp; try clear hanc anc) | ((with_reducible refine And.intro ?_ ?_); (focus (first | trivial | omega | (simp only [Fits]; omega) | assumption | (rw [hanc]; rfl)))) | ((first | refine K_regA hE fun K Kp hK hKp => ?_ | refine K_drwA true mixed hE fun K Kp hK hKp anc hanc => ?_ | refine K_drwA false mixed hE fun K Kp hK hKp anc hanc => ?_); simp only [go_sem, lt_dec hlt, hm, hc3]) | ((first | refine onG_split_t (fun hg => ?_) (fun hg => ?_) | refine onG_split_f (fun hg => ?_) (fun hg => ?_)) <;> simp only [go_sem, lt_dec hlt, hm, hc3, hg]) | (refine K_condA (fun hc => ?_) (fun hc => ?_) <;> try (exact absurd hc (by decide))))
     exact ⟨(j + 1, c3), ⟨by simp only; omega, by simp only; rw [hs, ← Bool.and_assoc, ← hbb]; rfl⟩, by simp only; omega, fun i => i, ent_mk (by simp [go_sem]) (by simp [go_sem,  Mg.cs, Dd.cs, AObj.ren, AObj.ids]) (by simp) (by simp [hN]; omega)⟩
   ·obtain rfl : j = f.length := by omega
    have hbe : bb = (decide (x.data = i) && decide (∀ k', k' < k + 1 → okS old x k')) := by
     rw [← hend, hbb]
    repeat' (first | apply nx | refine Kq_exit_ne (by decide) ?_ | rw [wrap64 (by omega) (by omega)] | ((first | refine hK _ ?_ | refine hKp _ _ ?_); clear hK hKp K Kp; try clear hanc anc) | ((with_reducible refine And.intro ?_ ?_); (focus (first | trivial | omega | (simp only [Fits]; omega) | assumption | (rw [hanc]; rfl)))) | ((first | refine K_regA hE fun K Kp hK hKp => ?_ | refine K_drwA true mixed hE fun K Kp hK hKp anc hanc => ?_ | refine K_drwA false mixed hE fun K Kp hK hKp anc hanc => ?_); simp only [go_sem, ge_dec]) | ((first | refine onG_split_t (fun hg => ?_) (fun hg => ?_) | refine onG_split_f (fun hg => ?_) (fun hg => ?_)) <;> simp only [go_sem, ge_dec, hg]) | (refine K_condA (fun hc => ?_) (fun hc => ?_) <;> try (exact absurd hc (by decide))))
    repeat (first | refine Kq_norm_blk ?_ | refine Kq_norm_nil ?_)
    exact hnorm _ bb (fun i => i) hbe (ent_fam (by simp [go_sem, AObj.ids, AV.ids, AV.idsL, Mg.cs, Dd.cs]) (by simp [go_sem]) (by decide) (by simp [AObj.ids, AV.ids, AV.idsL]) (by decide))
 ·intro σ b m hb he
  rw [ysM_len] at hb
  have hbS : b = decide (StayP i x old) := by
   rw [hb, ← Bool.decide_and, decide_eq_decide]; exact hsi.symm
  refine Kq_norm_blk (Kq_norm_code (AW.ent m he ?_))
  have ho1 : cObj old to x out b 1 = some (.cells [.bool b]) := rfl
  have ho5 : cObj old to x out b 5 = some (.row 1 (bl out)) := rfl
  have hgo := get?_of (show i < out.length by omega)
  obtain ⟨o0, hgo⟩ := hgo
  repeat' (first | apply nx | refine Kq_exit_ne (by decide) ?_ | rw [wrap64 (by omega) (by omega)] | ((first | refine hK _ ?_ | refine hKp _ _ ?_); clear hK hKp K Kp; try clear hanc anc) | ((with_reducible refine And.intro ?_ ?_); (focus (first | trivial | omega | (simp only [Fits]; omega) | assumption | (rw [hanc]; rfl)))) | ((first | refine K_regA hE fun K Kp hK hKp => ?_ | refine K_drwA true mixed hE fun K Kp hK hKp anc hanc => ?_ | refine K_drwA false mixed hE fun K Kp hK hKp anc hanc => ?_); simp only [go_sem, ho1, ho5, hgo]) | ((first | refine onG_split_t (fun hg => ?_) (fun hg => ?_) | refine onG_split_f (fun hg => ?_) (fun hg => ?_)) <;> simp only [go_sem, ho1, ho5, hgo, hg]) | (refine K_condA (fun hc => ?_) (fun hc => ?_) <;> try (exact absurd hc (by decide))))
  refine ⟨(i + 1, out.set i (!b)), ⟨by simp only; omega, by simp only [List.length_set]; exact hol, fun a ha => ?_⟩, by simp only; omega, fun i => 5, by refine ent_mk (by simp [go_sem, ho5]) (by simp [go_sem, ho5]) (by simp) (by simp [hN])⟩
  simp only at ha ⊢
  by_cases e : a = i
  ·subst e
   rw [List.getElem?_set_self (by omega), chgB_get hx hold, hbS]
  ·rw [List.getElem?_set_ne (Ne.symm e)]
   exact hok a (by omega)
end Go.Proofs.Ytlhhahocjfgmdaa
