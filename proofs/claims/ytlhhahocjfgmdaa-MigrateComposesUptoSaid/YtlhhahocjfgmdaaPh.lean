/- A part of the proof: an abstract machine for the walks, and what the walked functions compute. -/
import Derived.Test.YtlhhahocjfgmdaaPf
import Derived.Test.YtlhhahocjfgmdaaPg
set_option linter.unusedVariables false
set_option linter.unusedSimpArgs false
set_option linter.unusedSimpArgs false
set_option linter.unusedVariables false
set_option maxHeartbeats 4000000
set_option maxRecDepth 100000
namespace Go.Proofs.Ytlhhahocjfgmdaa
open Nat (reduceAdd reduceMul reduceEqDiff reduceLT reduceLeDiff reduceSub reduceDiv)
open Int (reduceBNe reduceLE reduceEq)
open Go.Am Go.Proofs Go.Hv Go.Mv
open Classical
attribute [local irreducible] AW CallP CallB CallY
theorem rtypd_call (old : Dd) (to : List Dd) (l : List Mg) (x : Mg) (hS : ShapP old to x) (hv : x.vars.length ≤ 2 ^ 40) (ho : ∀ ov, ov ∈ old.vs → ∀ t, t ∈ ov.fs → t.sz < 2 ^ 40) (hn : ∀ nd, nd ∈ to → ∀ nv, nv ∈ nd.vs → nv.fs.length ≤ 2 ^ 40 ∧ ∀ t, t ∈ nv.fs → t.sz < 2 ^ 40) :
    PCall Try.prog 36 [old.av, .sl (ddl to), .sl (mgl l), x.av] (.bool (decide (TypP old to l x))) := by
  obtain ⟨nd, hF⟩ := shap_f hS
  have hti := typ_iff (old := old) (l := l) hF.at_
  obtain ⟨di, hdi, hnd⟩ := at_some hF.at_
  have hndm : nd ∈ to := List.mem_of_getElem? hnd
  rw [Dd.av_eq, Mg.av_eq, hdi]
  refine PCall.intro Try.func36 rfl isf36 (by simp [Try.f36]) (by simp [AV.cloL, AV.clo]) fun E Q hE hN hQ => K_start ?_
  repeat' (first | apply nx | refine Kq_exit_ne (by decide) ?_ | rw [wrap64 (by omega) (by omega)] | ((first | refine hK _ ?_ | refine hKp _ _ ?_); clear hK hKp K Kp; try clear hanc anc) | ((with_reducible refine And.intro ?_ ?_); (focus (first | trivial | omega | (simp only [Fits]; omega) | assumption | (rw [hanc]; rfl)))) | ((first | refine K_regA hE fun K Kp hK hKp => ?_ | refine K_drwA false mixed hE fun K Kp hK hKp anc hanc => ?_); simp only [go_sem]) | ((first | refine onG_split_t (fun hg => ?_) (fun hg => ?_) | refine onG_split_f (fun hg => ?_) (fun hg => ?_)) <;> simp only [go_sem, hg]) | (refine K_condA (fun hc => ?_) (fun hc => ?_) <;> try (exact absurd hc (by decide))) | (refine K_ret ?_; refine (hQ _ ⟨_, by (try simp only [go_sem, ↓reduceIte, Nat.reduceEqDiff]); rfl, by simp [go_sem], ?_, by first | rfl | assumption⟩).1))
  refine K_loop (X := Nat) (fun i => i ≤ x.vars.length ∧ ∀ k, k < i → okT old nd l x k) (fun i => mkSt [(1, .sl (ddl to)), (2, .sl (mgl l)), (4, .ptr 0 0), (7, .ptr 1 0), (9, AV.i i)] [(0, .cells [.str old.nm, .i old.md, .i old.pr, .sl (dvl old.vs), .i old.dr]), (1, .cells [.i di, .sl (il x.vars), .sl (ill x.fss)])] 2) (fun i => x.vars.length - i) 0 ⟨Nat.zero_le _, fun k h => absurd h (Nat.not_lt_zero _)⟩ (fun i => if i = 1 then 1048576 else i) (by refine ent_mk (by simp [go_sem]) (by simp [go_sem]) (by simp) (by simp [hN])) ?_
  rintro i ⟨hi, hok⟩
  by_cases hil : i < x.vars.length
  · obtain ⟨v, hv1⟩ := get?_of hil
    obtain ⟨ov, hov⟩ := get?_of (show i < old.vs.length by have := hF.l1; omega)
    obtain ⟨f, hf⟩ := get?_of (show i < x.fss.length by have := hF.l1; have := hF.l2; omega)
    obtain ⟨nv, hnv, hfl, hdf, _⟩ := hF.ok i v ov f hv1 hov hf
    obtain ⟨vi, rfl, hnv2⟩ := at_some hnv
    have hnvm : nv ∈ nd.vs := List.mem_of_getElem? hnv2
    have hnn := hn nd hndm nv hnvm
    have hoo := ho ov (List.mem_of_getElem? hov)
    have hbad : ¬ okT old nd l x i → ¬ TypP old to l x := fun h h' => h (hti.1 h' i hil)
    have hkey : okT old nd l x i ↔ ∀ (j : Nat) t m, nv.fs[j]? = some t → f[j]? = some m → t = wantT l ov m := by
      constructor
      · intro h j t m h1 h2; exact h vi ov f nv hv1 hov hf hnv j t m h1 h2
      · intro h v' ov' f' nv' a b c e
        rw [hv1] at a; rw [hov] at b; rw [hf] at c
        cases a; cases b; cases c
        rw [hnv] at e; cases e
        exact h
    repeat' (first | apply nx | refine Kq_exit_ne (by decide) ?_ | rw [wrap64 (by omega) (by omega)] | ((first | refine hK _ ?_ | refine hKp _ _ ?_); clear hK hKp K Kp; try clear hanc anc) | ((with_reducible refine And.intro ?_ ?_); (focus (first | trivial | omega | (simp only [Fits]; omega) | assumption | (rw [hanc]; rfl)))) | ((first | refine K_regA hE fun K Kp hK hKp => ?_ | refine K_drwA false mixed hE fun K Kp hK hKp anc hanc => ?_); simp only [go_sem, lt_dec hil, hv1, hnd, hnv2, Dd.av, Dd.cs_eq, Dv.av, Dv.cs_eq]) | ((first | refine onG_split_t (fun hg => ?_) (fun hg => ?_) | refine onG_split_f (fun hg => ?_) (fun hg => ?_)) <;> simp only [go_sem, lt_dec hil, hv1, hnd, hnv2, Dd.av, Dd.cs_eq, Dv.av, Dv.cs_eq, hg]) | (refine K_condA (fun hc => ?_) (fun hc => ?_) <;> try (exact absurd hc (by decide))) | (refine K_ret ?_; refine (hQ _ ⟨_, by (try simp only [go_sem, ↓reduceIte, Nat.reduceEqDiff]); rfl, by simp [go_sem], ?_, by first | rfl | assumption⟩).1))
    refine K_loop (X := Nat) (fun j => j ≤ nv.fs.length ∧ ∀ (a : Nat) t m, a < j → nv.fs[a]? = some t → f[a]? = some m → t = wantT l ov m) (fun j => mkSt [(1, .sl (ddl to)), (2, .sl (mgl l)), (4, .ptr 0 0), (7, .ptr 1 0), (9, AV.i i), (10, .sl (Ty.avL nv.fs)), (11, AV.i j)] [(0, .cells [.str old.nm, .i old.md, .i old.pr, .sl (dvl old.vs), .i old.dr]), (1, .cells [.i di, .sl (il x.vars), .sl (ill x.fss)])] 2)
      (fun j => nv.fs.length - j) 0 ⟨Nat.zero_le _, fun a t m h => absurd h (Nat.not_lt_zero _)⟩ (fun i => i) (by refine ent_mk (by simp [go_sem]) (by simp [go_sem]) (by simp) (by simp [hN])) ?_
    rintro j ⟨hj, hok2⟩
    by_cases hlt : j < nv.fs.length
    · obtain ⟨t, ht⟩ := get?_of hlt
      obtain ⟨m, hm⟩ := get?_of (show j < f.length by omega)
      have hts := hnn.2 t (List.mem_of_getElem? ht)
      have hc0 := sameT_call (2 ^ 40) t (wantT l ov m) hts (Nat.le_refl _)
      by_cases h0 : 0 ≤ m
      · obtain ⟨a, rfl⟩ := Int.eq_ofNat_of_zero_le h0
        have hal := diff_lt hdf hm
        obtain ⟨s', hs'⟩ := get?_of (show a < ov.fs.length by omega)
        have hct := rtype_call (2 ^ 40) s' l (hoo s' (List.mem_of_getElem? hs')) (Nat.le_refl _)
        have hw := wantT_nat l ov hs'
        rw [hw] at hc0
        rw [Ty.av_eq s', Ty.av_eq (tyM l s')] at hct
        rw [Ty.av_eq t, Ty.av_eq (tyM l s')] at hc0
        have q1 : decide ((a : Int) ≥ 0) = true := by simp
        by_cases he : t = tyM l s'
        · rw [decide_eq_true he] at hc0
          repeat' (first | apply nx | refine Kq_exit_ne (by decide) ?_ | rw [wrap64 (by omega) (by omega)] | ((first | refine hK _ ?_ | refine hKp _ _ ?_); clear hK hKp K Kp; try clear hanc anc) | ((with_reducible refine And.intro ?_ ?_); (focus (first | trivial | omega | (simp only [Fits]; omega) | assumption | (rw [hanc]; rfl)))) | ((first | refine K_regA hE fun K Kp hK hKp => ?_ | refine K_drwA false mixed hE fun K Kp hK hKp anc hanc => ?_ | ((first | apply CallP_mk | apply CallB_mk); (focus (simp only [go_sem] <;> rfl)); (focus (first | exact hct | exact hc0)); (focus (first | (simp [go_sem]; done) | (simp [go_sem, CloRow, AV.cells, AV.clo]; done))); (focus (first | exact .inl rfl | (right; simp [go_sem]))))); simp only [go_sem, lt_dec hlt, ht, hf, hm, hs', hov, q1, Ty.av_eq, Dd.av, Dd.cs_eq, Dv.av, Dv.cs_eq]) | ((first | refine onG_split_t (fun hg => ?_) (fun hg => ?_) | refine onG_split_f (fun hg => ?_) (fun hg => ?_)) <;> simp only [go_sem, lt_dec hlt, ht, hf, hm, hs', hov, q1, Ty.av_eq, Dd.av, Dd.cs_eq, Dv.av, Dv.cs_eq, hg]) | (refine K_condA (fun hc => ?_) (fun hc => ?_) <;> try (exact absurd hc (by decide))) | (refine K_ret ?_; refine (hQ _ ⟨_, by (try simp only [go_sem, ↓reduceIte, Nat.reduceEqDiff]); rfl, by simp [go_sem], ?_, by first | rfl | assumption⟩).1))
          refine ⟨j + 1, ⟨by omega, fun b t' m' hb hbt hbm => ?_⟩, by omega, fun i => i, by refine ent_mk (by simp [go_sem]) (by simp [go_sem]) (by simp) (by simp [hN])⟩
          by_cases e : b = j
          · subst e
            rw [ht] at hbt; rw [hm] at hbm
            cases hbt; cases hbm
            rw [hw]; exact he
          · exact hok2 b t' m' (by omega) hbt hbm
        · rw [decide_eq_false he] at hc0
          rw [decide_eq_false (hbad (by rw [hkey]; intro h; exact he ((h j t a ht hm).trans hw)))] at hQ
          repeat' (first | apply nx | refine Kq_exit_ne (by decide) ?_ | rw [wrap64 (by omega) (by omega)] | ((first | refine hK _ ?_ | refine hKp _ _ ?_); clear hK hKp K Kp; try clear hanc anc) | ((with_reducible refine And.intro ?_ ?_); (focus (first | trivial | omega | (simp only [Fits]; omega) | assumption | (rw [hanc]; rfl)))) | ((first | refine K_regA hE fun K Kp hK hKp => ?_ | refine K_drwA false mixed hE fun K Kp hK hKp anc hanc => ?_ | ((first | apply CallP_mk | apply CallB_mk); (focus (simp only [go_sem] <;> rfl)); (focus (first | exact hct | exact hc0)); (focus (first | (simp [go_sem]; done) | (simp [go_sem, CloRow, AV.cells, AV.clo]; done))); (focus (first | exact .inl rfl | (right; simp [go_sem]))))); simp only [go_sem, lt_dec hlt, ht, hf, hm, hs', hov, q1, Ty.av_eq, Dd.av, Dd.cs_eq, Dv.av, Dv.cs_eq]) | ((first | refine onG_split_t (fun hg => ?_) (fun hg => ?_) | refine onG_split_f (fun hg => ?_) (fun hg => ?_)) <;> simp only [go_sem, lt_dec hlt, ht, hf, hm, hs', hov, q1, Ty.av_eq, Dd.av, Dd.cs_eq, Dv.av, Dv.cs_eq, hg]) | (refine K_condA (fun hc => ?_) (fun hc => ?_) <;> try (exact absurd hc (by decide))) | (refine K_ret ?_; refine (hQ _ ⟨_, by (try simp only [go_sem, ↓reduceIte, Nat.reduceEqDiff]); rfl, by simp [go_sem], ?_, by first | rfl | assumption⟩).1))
          simp [AV.snap]
      · have q1 : decide (m ≥ 0) = false := by simpa using h0
        have hw := wantT_neg l ov (show m < 0 by omega)
        rw [hw, Ty.av_eq t, Ty.av, Ty.avL] at hc0
        by_cases he : t = .mk 1 0 []
        · rw [decide_eq_true he] at hc0
          repeat' (first | apply nx | refine Kq_exit_ne (by decide) ?_ | rw [wrap64 (by omega) (by omega)] | ((first | refine hK _ ?_ | refine hKp _ _ ?_); clear hK hKp K Kp; try clear hanc anc) | ((with_reducible refine And.intro ?_ ?_); (focus (first | trivial | omega | (simp only [Fits]; omega) | assumption | (rw [hanc]; rfl)))) | ((first | refine K_regA hE fun K Kp hK hKp => ?_ | refine K_drwA false mixed hE fun K Kp hK hKp anc hanc => ?_ | ((first | apply CallP_mk | apply CallB_mk); (focus (simp only [go_sem] <;> rfl)); (focus (exact hc0)); (focus (first | (simp [go_sem]; done) | (simp [go_sem, CloRow, AV.cells, AV.clo]; done))); (focus (first | exact .inl rfl | (right; simp [go_sem]))))); simp only [go_sem, lt_dec hlt, ht, hf, hm, q1, Ty.av_eq]) | ((first | refine onG_split_t (fun hg => ?_) (fun hg => ?_) | refine onG_split_f (fun hg => ?_) (fun hg => ?_)) <;> simp only [go_sem, lt_dec hlt, ht, hf, hm, q1, Ty.av_eq, hg]) | (refine K_condA (fun hc => ?_) (fun hc => ?_) <;> try (exact absurd hc (by decide))) | (refine K_ret ?_; refine (hQ _ ⟨_, by (try simp only [go_sem, ↓reduceIte, Nat.reduceEqDiff]); rfl, by simp [go_sem], ?_, by first | rfl | assumption⟩).1))
          refine ⟨j + 1, ⟨by omega, fun b t' m' hb hbt hbm => ?_⟩, by omega, fun i => i, by refine ent_mk (by simp [go_sem]) (by simp [go_sem]) (by simp) (by simp [hN])⟩
          by_cases e : b = j
          · subst e
            rw [ht] at hbt; rw [hm] at hbm
            cases hbt; cases hbm
            rw [hw]; exact he
          · exact hok2 b t' m' (by omega) hbt hbm
        · rw [decide_eq_false he] at hc0
          rw [decide_eq_false (hbad (by rw [hkey]; intro h; exact he ((h j t m ht hm).trans hw)))] at hQ
          repeat' (first | apply nx | refine Kq_exit_ne (by decide) ?_ | rw [wrap64 (by omega) (by omega)] | ((first | refine hK _ ?_ | refine hKp _ _ ?_); clear hK hKp K Kp; try clear hanc anc) | ((with_reducible refine And.intro ?_ ?_); (focus (first | trivial | omega | (simp only [Fits]; omega) | assumption | (rw [hanc]; rfl)))) | ((first | refine K_regA hE fun K Kp hK hKp => ?_ | refine K_drwA false mixed hE fun K Kp hK hKp anc hanc => ?_ | ((first | apply CallP_mk | apply CallB_mk); (focus (simp only [go_sem] <;> rfl)); (focus (exact hc0)); (focus (first | (simp [go_sem]; done) | (simp [go_sem, CloRow, AV.cells, AV.clo]; done))); (focus (first | exact .inl rfl | (right; simp [go_sem]))))); simp only [go_sem, lt_dec hlt, ht, hf, hm, q1, Ty.av_eq]) | ((first | refine onG_split_t (fun hg => ?_) (fun hg => ?_) | refine onG_split_f (fun hg => ?_) (fun hg => ?_)) <;> simp only [go_sem, lt_dec hlt, ht, hf, hm, q1, Ty.av_eq, hg]) | (refine K_condA (fun hc => ?_) (fun hc => ?_) <;> try (exact absurd hc (by decide))) | (refine K_ret ?_; refine (hQ _ ⟨_, by (try simp only [go_sem, ↓reduceIte, Nat.reduceEqDiff]); rfl, by simp [go_sem], ?_, by first | rfl | assumption⟩).1))
          simp [AV.snap]
    · obtain rfl : j = nv.fs.length := by omega
      repeat' (first | apply nx | refine Kq_exit_ne (by decide) ?_ | rw [wrap64 (by omega) (by omega)] | ((first | refine hK _ ?_ | refine hKp _ _ ?_); clear hK hKp K Kp; try clear hanc anc) | ((with_reducible refine And.intro ?_ ?_); (focus (first | trivial | omega | (simp only [Fits]; omega) | assumption | (rw [hanc]; rfl)))) | ((first | refine K_regA hE fun K Kp hK hKp => ?_ | refine K_drwA false mixed hE fun K Kp hK hKp anc hanc => ?_); simp only [go_sem, ge_dec]) | ((first | refine onG_split_t (fun hg => ?_) (fun hg => ?_) | refine onG_split_f (fun hg => ?_) (fun hg => ?_)) <;> simp only [go_sem, ge_dec, hg]) | (refine K_condA (fun hc => ?_) (fun hc => ?_) <;> try (exact absurd hc (by decide))) | (refine K_ret ?_; refine (hQ _ ⟨_, by (try simp only [go_sem, ↓reduceIte, Nat.reduceEqDiff]); rfl, by simp [go_sem], ?_, by first | rfl | assumption⟩).1))
      refine ⟨i + 1, ⟨by omega, fun k hk => ?_⟩, by omega, fun i => i, by refine ent_mk (by simp [go_sem]) (by simp [go_sem]) (by simp) (by simp [hN])⟩
      by_cases e : k = i
      · subst e
        exact hkey.2 fun b t m hb hm => hok2 b t m (List.getElem?_eq_some_iff.1 hb).1 hb hm
      · exact hok k (by omega)
  · obtain rfl : i = x.vars.length := by omega
    rw [decide_eq_true (hti.2 hok)] at hQ
    repeat' (first | apply nx | refine Kq_exit_ne (by decide) ?_ | rw [wrap64 (by omega) (by omega)] | ((first | refine hK _ ?_ | refine hKp _ _ ?_); clear hK hKp K Kp; try clear hanc anc) | ((with_reducible refine And.intro ?_ ?_); (focus (first | trivial | omega | (simp only [Fits]; omega) | assumption | (rw [hanc]; rfl)))) | ((first | refine K_regA hE fun K Kp hK hKp => ?_ | refine K_drwA false mixed hE fun K Kp hK hKp anc hanc => ?_); simp only [go_sem, ge_dec]) | ((first | refine onG_split_t (fun hg => ?_) (fun hg => ?_) | refine onG_split_f (fun hg => ?_) (fun hg => ?_)) <;> simp only [go_sem, ge_dec, hg]) | (refine K_condA (fun hc => ?_) (fun hc => ?_) <;> try (exact absurd hc (by decide))) | (refine K_ret ?_; refine (hQ _ ⟨_, by (try simp only [go_sem, ↓reduceIte, Nat.reduceEqDiff]); rfl, by simp [go_sem], ?_, by first | rfl | assumption⟩).1))
    simp [AV.snap]
structure SzD (d : List Dd) : Prop where
 le : dSz d ≤ 2 ^ 30
theorem SzD.fs {d : List Dd} (h : SzD d) : ∀ x, x ∈ d → ∀ v, v ∈ x.vs → v.fs.length ≤ 2 ^ 40 ∧ ∀ t, t ∈ v.fs → t.sz < 2 ^ 40 := fun x hx v hv => by
 have h1 := (dSz_vs hx).2 v hv
 have h2 := h.le
 exact ⟨by omega, fun t ht => by have := h1.2 t ht; omega⟩
def shpA (frm to : List Dd) (l : List Mg) : Prop := ∀ (i : Nat) x old, l[i]? = some x → frm[i]? = some old → ShapP old to x
def typA (frm to : List Dd) (l : List Mg) : Prop := ∀ (i : Nat) x old, l[i]? = some x → frm[i]? = some old → TypP old to l x
noncomputable def chkN (frm to : List Dd) (l : List Mg) : Int :=
 if dtB frm = true ∧ dtB to = true ∧ l.length = frm.length then (if shpA frm to l then (if typA frm to l then 0 else 8) else 1) else 1
theorem chk_zero {frm to : List Dd} {l : List Mg} (h : chkN frm to l = 0) : dtB frm = true ∧ dtB to = true ∧ ChkP frm to l := by
 unfold chkN at h
 split at h
 ·rename_i h1
  split at h
  ·rename_i h2
   split at h
   ·rename_i h3
    exact ⟨h1.1, h1.2.1, h1.2.2, h2, h3⟩
   ·cases h
  ·cases h
 ·cases h
theorem chk_one {frm to : List Dd} {l : List Mg} (h1 : dtB frm = true) (h2 : dtB to = true) (h3 : ChkP frm to l) : chkN frm to l = 0 := by
 unfold chkN
 rw [if_pos ⟨h1, h2, h3.len⟩, if_pos (show shpA frm to l from h3.shp), if_pos (show typA frm to l from h3.typ)]
theorem check_call (frm to : List Dd) (l : List Mg) (hf : SzD frm) (ht : SzD to) (hB : MgL l) : PCall Try.prog 8 [.sl (ddl frm), .sl (ddl to), .sl (mgl l)] (.i (chkN frm to l)) := by
 have hd1 := datas_call frm hf.le
 have hd2 := datas_call to ht.le
 unfold chkN
 refine PCall.intro Try.func8 rfl isf8 (by simp [Try.f8]) (by simp [AV.cloL, AV.clo]) fun E Q hE hN hQ => K_start ?_
 cases e1 : dtB frm
 ·rw [e1] at hd1 hQ
  rw [if_neg (by simp)] at hQ
  repeat' (first | apply nx | refine Kq_exit_ne (by decide) ?_ | rw [wrap64 (by omega) (by omega)] | ((first | refine hK _ ?_ | refine hKp _ _ ?_); clear hK hKp K Kp; try clear hanc anc) | ((with_reducible refine And.intro ?_ ?_); (focus (first | trivial | omega | (simp only [Fits]; omega) | assumption | (rw [hanc]; rfl)))) | ((first | refine K_regA hE fun K Kp hK hKp => ?_ | refine K_drwA false mixed hE fun K Kp hK hKp anc hanc => ?_ | ((first | apply CallP_mk | apply CallB_mk); (focus (simp only [go_sem] <;> rfl)); (focus (exact hd1)); (focus (first | (simp [go_sem]; done) | (simp [go_sem, CloRow, AV.cells, AV.clo]; done))); (focus (first | exact .inl rfl | (right; simp [go_sem]))))); simp only [go_sem]) | ((first | refine onG_split_t (fun hg => ?_) (fun hg => ?_) | refine onG_split_f (fun hg => ?_) (fun hg => ?_)) <;> simp only [go_sem, hg]) | (refine K_condA (fun hc => ?_) (fun hc => ?_) <;> try (exact absurd hc (by decide))) | (refine K_ret ?_; refine (hQ _ ⟨_, by (try simp only [go_sem, ↓reduceIte, Nat.reduceEqDiff]); rfl, by simp [go_sem], ?_, by first | rfl | assumption⟩).1))
  all_goals simp [AV.snap]
 rw [e1] at hd1 hQ
 cases e2 : dtB to
 ·rw [e2] at hd2 hQ
  rw [if_neg (by simp)] at hQ
  repeat' (first | apply nx | refine Kq_exit_ne (by decide) ?_ | rw [wrap64 (by omega) (by omega)] | ((first | refine hK _ ?_ | refine hKp _ _ ?_); clear hK hKp K Kp; try clear hanc anc) | ((with_reducible refine And.intro ?_ ?_); (focus (first | trivial | omega | (simp only [Fits]; omega) | assumption | (rw [hanc]; rfl)))) | ((first | refine K_regA hE fun K Kp hK hKp => ?_ | refine K_drwA false mixed hE fun K Kp hK hKp anc hanc => ?_ | ((first | apply CallP_mk | apply CallB_mk); (focus (simp only [go_sem] <;> rfl)); (focus (first | exact hd1 | exact hd2)); (focus (first | (simp [go_sem]; done) | (simp [go_sem, CloRow, AV.cells, AV.clo]; done))); (focus (first | exact .inl rfl | (right; simp [go_sem]))))); simp only [go_sem]) | ((first | refine onG_split_t (fun hg => ?_) (fun hg => ?_) | refine onG_split_f (fun hg => ?_) (fun hg => ?_)) <;> simp only [go_sem, hg]) | (refine K_condA (fun hc => ?_) (fun hc => ?_) <;> try (exact absurd hc (by decide))) | (refine K_ret ?_; refine (hQ _ ⟨_, by (try simp only [go_sem, ↓reduceIte, Nat.reduceEqDiff]); rfl, by simp [go_sem], ?_, by first | rfl | assumption⟩).1))
  all_goals simp [AV.snap]
 rw [e2] at hd2 hQ
 by_cases h3 : l.length = frm.length
 case neg =>
  have q3 : ((l.length : Int) != (frm.length : Int)) = true := by simp; omega
  rw [if_neg (by simp [h3])] at hQ
  repeat' (first | apply nx | refine Kq_exit_ne (by decide) ?_ | rw [wrap64 (by omega) (by omega)] | ((first | refine hK _ ?_ | refine hKp _ _ ?_); clear hK hKp K Kp; try clear hanc anc) | ((with_reducible refine And.intro ?_ ?_); (focus (first | trivial | omega | (simp only [Fits]; omega) | assumption | (rw [hanc]; rfl)))) | ((first | refine K_regA hE fun K Kp hK hKp => ?_ | refine K_drwA false mixed hE fun K Kp hK hKp anc hanc => ?_ | ((first | apply CallP_mk | apply CallB_mk); (focus (simp only [go_sem] <;> rfl)); (focus (first | exact hd1 | exact hd2)); (focus (first | (simp [go_sem]; done) | (simp [go_sem, CloRow, AV.cells, AV.clo]; done))); (focus (first | exact .inl rfl | (right; simp [go_sem]))))); simp only [go_sem, q3]) | ((first | refine onG_split_t (fun hg => ?_) (fun hg => ?_) | refine onG_split_f (fun hg => ?_) (fun hg => ?_)) <;> simp only [go_sem, q3, hg]) | (refine K_condA (fun hc => ?_) (fun hc => ?_) <;> try (exact absurd hc (by decide))) | (refine K_ret ?_; refine (hQ _ ⟨_, by (try simp only [go_sem, ↓reduceIte, Nat.reduceEqDiff]); rfl, by simp [go_sem], ?_, by first | rfl | assumption⟩).1))
  all_goals simp [AV.snap]
 have q3 : ((l.length : Int) != (frm.length : Int)) = false := by simp [h3]
 rw [if_pos ⟨rfl, rfl, h3⟩] at hQ
 have hll := hB.1
 repeat' (first | apply nx | refine Kq_exit_ne (by decide) ?_ | rw [wrap64 (by omega) (by omega)] | ((first | refine hK _ ?_ | refine hKp _ _ ?_); clear hK hKp K Kp; try clear hanc anc) | ((with_reducible refine And.intro ?_ ?_); (focus (first | trivial | omega | (simp only [Fits]; omega) | assumption | (rw [hanc]; rfl)))) | ((first | refine K_regA hE fun K Kp hK hKp => ?_ | refine K_drwA false mixed hE fun K Kp hK hKp anc hanc => ?_ | ((first | apply CallP_mk | apply CallB_mk); (focus (simp only [go_sem] <;> rfl)); (focus (first | exact hd1 | exact hd2)); (focus (first | (simp [go_sem]; done) | (simp [go_sem, CloRow, AV.cells, AV.clo]; done))); (focus (first | exact .inl rfl | (right; simp [go_sem]))))); simp only [go_sem, q3]) | ((first | refine onG_split_t (fun hg => ?_) (fun hg => ?_) | refine onG_split_f (fun hg => ?_) (fun hg => ?_)) <;> simp only [go_sem, q3, hg]) | (refine K_condA (fun hc => ?_) (fun hc => ?_) <;> try (exact absurd hc (by decide))) | (refine K_ret ?_; refine (hQ _ ⟨_, by (try simp only [go_sem, ↓reduceIte, Nat.reduceEqDiff]); rfl, by simp [go_sem], ?_, by first | rfl | assumption⟩).1))
 refine K_loop (X := Nat) (fun i => i ≤ l.length ∧ ∀ (a : Nat) x old, a < i → l[a]? = some x → frm[a]? = some old → ShapP old to x) (fun i => mkSt [(0, .sl (ddl frm)), (1, .sl (ddl to)), (2, .sl (mgl l)), (26, .sl (mgl l)), (27, .i l.length), (28, AV.i i)] [] 0) (fun i => l.length - i) 0 ⟨Nat.zero_le _, fun a x o h => absurd h (Nat.not_lt_zero _)⟩ (fun i => i) (by refine ent_mk (by simp [go_sem]) (by simp [go_sem]) (by simp) (by simp [hN])) ?_
 rintro i ⟨hi, hok⟩
 by_cases hlt : i < l.length
 ·obtain ⟨x, hx⟩ := get?_of hlt
  obtain ⟨old, hold⟩ := get?_of (show i < frm.length by omega)
  have hBx := hB.2 x (List.mem_of_getElem? hx)
  have hc0 := shaped_call old to x hBx.1 hBx.2.2
  rw [Dd.av_eq, Mg.av_eq] at hc0
  by_cases hs : ShapP old to x
  ·rw [decide_eq_true hs] at hc0
   repeat' (first | apply nx | refine Kq_exit_ne (by decide) ?_ | rw [wrap64 (by omega) (by omega)] | ((first | refine hK _ ?_ | refine hKp _ _ ?_); clear hK hKp K Kp; try clear hanc anc) | ((with_reducible refine And.intro ?_ ?_); (focus (first | trivial | omega | (simp only [Fits]; omega) | assumption | (rw [hanc]; rfl)))) | ((first | refine K_regA hE fun K Kp hK hKp => ?_ | refine K_drwA false mixed hE fun K Kp hK hKp anc hanc => ?_ | ((first | apply CallP_mk | apply CallB_mk); (focus (simp only [go_sem] <;> rfl)); (focus (exact hc0)); (focus (first | (simp [go_sem]; done) | (simp [go_sem, CloRow, AV.cells, AV.clo]; done))); (focus (first | exact .inl rfl | (right; simp [go_sem]))))); simp only [go_sem, lt_dec hlt, hx, hold, Dd.av_eq, Mg.av_eq]) | ((first | refine onG_split_t (fun hg => ?_) (fun hg => ?_) | refine onG_split_f (fun hg => ?_) (fun hg => ?_)) <;> simp only [go_sem, lt_dec hlt, hx, hold, Dd.av_eq, Mg.av_eq, hg]) | (refine K_condA (fun hc => ?_) (fun hc => ?_) <;> try (exact absurd hc (by decide))) | (refine K_ret ?_; refine (hQ _ ⟨_, by (try simp only [go_sem, ↓reduceIte, Nat.reduceEqDiff]); rfl, by simp [go_sem], ?_, by first | rfl | assumption⟩).1))
   refine ⟨i + 1, ⟨by omega, fun a x' o' ha h1 h2 => ?_⟩, by omega, fun i => i, by refine ent_mk (by simp [go_sem]) (by simp [go_sem]) (by simp) (by simp [hN])⟩
   by_cases e : a = i
   ·subst e; rw [hx] at h1; rw [hold] at h2; cases h1; cases h2; exact hs
   ·exact hok a x' o' (by omega) h1 h2
  ·rw [decide_eq_false hs] at hc0
   rw [if_neg (fun h => hs (h i x old hx hold))] at hQ
   repeat' (first | apply nx | refine Kq_exit_ne (by decide) ?_ | rw [wrap64 (by omega) (by omega)] | ((first | refine hK _ ?_ | refine hKp _ _ ?_); clear hK hKp K Kp; try clear hanc anc) | ((with_reducible refine And.intro ?_ ?_); (focus (first | trivial | omega | (simp only [Fits]; omega) | assumption | (rw [hanc]; rfl)))) | ((first | refine K_regA hE fun K Kp hK hKp => ?_ | refine K_drwA false mixed hE fun K Kp hK hKp anc hanc => ?_ | ((first | apply CallP_mk | apply CallB_mk); (focus (simp only [go_sem] <;> rfl)); (focus (exact hc0)); (focus (first | (simp [go_sem]; done) | (simp [go_sem, CloRow, AV.cells, AV.clo]; done))); (focus (first | exact .inl rfl | (right; simp [go_sem]))))); simp only [go_sem, lt_dec hlt, hx, hold, Dd.av_eq, Mg.av_eq]) | ((first | refine onG_split_t (fun hg => ?_) (fun hg => ?_) | refine onG_split_f (fun hg => ?_) (fun hg => ?_)) <;> simp only [go_sem, lt_dec hlt, hx, hold, Dd.av_eq, Mg.av_eq, hg]) | (refine K_condA (fun hc => ?_) (fun hc => ?_) <;> try (exact absurd hc (by decide))) | (refine K_ret ?_; refine (hQ _ ⟨_, by (try simp only [go_sem, ↓reduceIte, Nat.reduceEqDiff]); rfl, by simp [go_sem], ?_, by first | rfl | assumption⟩).1))
   all_goals simp [AV.snap]
 obtain rfl : i = l.length := by omega
 have hsA : shpA frm to l := fun a x o h1 h2 => hok a x o (List.getElem?_eq_some_iff.1 h1).1 h1 h2
 rw [if_pos hsA] at hQ
 repeat' (first | apply nx | refine Kq_exit_ne (by decide) ?_ | rw [wrap64 (by omega) (by omega)] | ((first | refine hK _ ?_ | refine hKp _ _ ?_); clear hK hKp K Kp; try clear hanc anc) | ((with_reducible refine And.intro ?_ ?_); (focus (first | trivial | omega | (simp only [Fits]; omega) | assumption | (rw [hanc]; rfl)))) | ((first | refine K_regA hE fun K Kp hK hKp => ?_ | refine K_drwA false mixed hE fun K Kp hK hKp anc hanc => ?_); simp only [go_sem, ge_dec]) | ((first | refine onG_split_t (fun hg => ?_) (fun hg => ?_) | refine onG_split_f (fun hg => ?_) (fun hg => ?_)) <;> simp only [go_sem, ge_dec, hg]) | (refine K_condA (fun hc => ?_) (fun hc => ?_) <;> try (exact absurd hc (by decide))) | (refine K_ret ?_; refine (hQ _ ⟨_, by (try simp only [go_sem, ↓reduceIte, Nat.reduceEqDiff]); rfl, by simp [go_sem], ?_, by first | rfl | assumption⟩).1))
 refine K_loop (X := Nat) (fun i => i ≤ l.length ∧ ∀ (a : Nat) x old, a < i → l[a]? = some x → frm[a]? = some old → TypP old to l x) (fun i => mkSt [(0, .sl (ddl frm)), (1, .sl (ddl to)), (2, .sl (mgl l)), (42, .sl (mgl l)), (43, .i l.length), (44, AV.i i)] [] 0) (fun i => l.length - i) 0 ⟨Nat.zero_le _, fun a x o h => absurd h (Nat.not_lt_zero _)⟩ (fun i => i) (by refine ent_mk (by simp [go_sem]) (by simp [go_sem]) (by simp) (by simp [hN])) ?_
 rintro i ⟨hi, hok2⟩
 by_cases hlt : i < l.length
 ·obtain ⟨x, hx⟩ := get?_of hlt
  obtain ⟨old, hold⟩ := get?_of (show i < frm.length by omega)
  have hBx := hB.2 x (List.mem_of_getElem? hx)
  have hc0 := typed_call old to l x (hsA i x old hx hold) hBx.1 (fun ov hov => (hf.fs old (List.mem_of_getElem? hold) ov hov).2) ht.fs
  rw [Dd.av_eq, Mg.av_eq] at hc0
  by_cases hs : TypP old to l x
  ·rw [decide_eq_true hs] at hc0
   repeat' (first | apply nx | refine Kq_exit_ne (by decide) ?_ | rw [wrap64 (by omega) (by omega)] | ((first | refine hK _ ?_ | refine hKp _ _ ?_); clear hK hKp K Kp; try clear hanc anc) | ((with_reducible refine And.intro ?_ ?_); (focus (first | trivial | omega | (simp only [Fits]; omega) | assumption | (rw [hanc]; rfl)))) | ((first | refine K_regA hE fun K Kp hK hKp => ?_ | refine K_drwA false mixed hE fun K Kp hK hKp anc hanc => ?_ | ((first | apply CallP_mk | apply CallB_mk); (focus (simp only [go_sem] <;> rfl)); (focus (exact hc0)); (focus (first | (simp [go_sem]; done) | (simp [go_sem, CloRow, AV.cells, AV.clo]; done))); (focus (first | exact .inl rfl | (right; simp [go_sem]))))); simp only [go_sem, lt_dec hlt, hx, hold, Dd.av_eq, Mg.av_eq]) | ((first | refine onG_split_t (fun hg => ?_) (fun hg => ?_) | refine onG_split_f (fun hg => ?_) (fun hg => ?_)) <;> simp only [go_sem, lt_dec hlt, hx, hold, Dd.av_eq, Mg.av_eq, hg]) | (refine K_condA (fun hc => ?_) (fun hc => ?_) <;> try (exact absurd hc (by decide))) | (refine K_ret ?_; refine (hQ _ ⟨_, by (try simp only [go_sem, ↓reduceIte, Nat.reduceEqDiff]); rfl, by simp [go_sem], ?_, by first | rfl | assumption⟩).1))
   refine ⟨i + 1, ⟨by omega, fun a x' o' ha h1 h2 => ?_⟩, by omega, fun i => i, by refine ent_mk (by simp [go_sem]) (by simp [go_sem]) (by simp) (by simp [hN])⟩
   by_cases e : a = i
   ·subst e; rw [hx] at h1; rw [hold] at h2; cases h1; cases h2; exact hs
   ·exact hok2 a x' o' (by omega) h1 h2
  ·rw [decide_eq_false hs] at hc0
   rw [if_neg (fun h => hs (h i x old hx hold))] at hQ
   repeat' (first | apply nx | refine Kq_exit_ne (by decide) ?_ | rw [wrap64 (by omega) (by omega)] | ((first | refine hK _ ?_ | refine hKp _ _ ?_); clear hK hKp K Kp; try clear hanc anc) | ((with_reducible refine And.intro ?_ ?_); (focus (first | trivial | omega | (simp only [Fits]; omega) | assumption | (rw [hanc]; rfl)))) | ((first | refine K_regA hE fun K Kp hK hKp => ?_ | refine K_drwA false mixed hE fun K Kp hK hKp anc hanc => ?_ | ((first | apply CallP_mk | apply CallB_mk); (focus (simp only [go_sem] <;> rfl)); (focus (exact hc0)); (focus (first | (simp [go_sem]; done) | (simp [go_sem, CloRow, AV.cells, AV.clo]; done))); (focus (first | exact .inl rfl | (right; simp [go_sem]))))); simp only [go_sem, lt_dec hlt, hx, hold, Dd.av_eq, Mg.av_eq]) | ((first | refine onG_split_t (fun hg => ?_) (fun hg => ?_) | refine onG_split_f (fun hg => ?_) (fun hg => ?_)) <;> simp only [go_sem, lt_dec hlt, hx, hold, Dd.av_eq, Mg.av_eq, hg]) | (refine K_condA (fun hc => ?_) (fun hc => ?_) <;> try (exact absurd hc (by decide))) | (refine K_ret ?_; refine (hQ _ ⟨_, by (try simp only [go_sem, ↓reduceIte, Nat.reduceEqDiff]); rfl, by simp [go_sem], ?_, by first | rfl | assumption⟩).1))
   all_goals simp [AV.snap]
 obtain rfl : i = l.length := by omega
 have htA : typA frm to l := fun a x o h1 h2 => hok2 a x o (List.getElem?_eq_some_iff.1 h1).1 h1 h2
 rw [if_pos htA] at hQ
 repeat' (first | apply nx | refine Kq_exit_ne (by decide) ?_ | rw [wrap64 (by omega) (by omega)] | ((first | refine hK _ ?_ | refine hKp _ _ ?_); clear hK hKp K Kp; try clear hanc anc) | ((with_reducible refine And.intro ?_ ?_); (focus (first | trivial | omega | (simp only [Fits]; omega) | assumption | (rw [hanc]; rfl)))) | ((first | refine K_regA hE fun K Kp hK hKp => ?_ | refine K_drwA false mixed hE fun K Kp hK hKp anc hanc => ?_); simp only [go_sem, ge_dec]) | ((first | refine onG_split_t (fun hg => ?_) (fun hg => ?_) | refine onG_split_f (fun hg => ?_) (fun hg => ?_)) <;> simp only [go_sem, ge_dec, hg]) | (refine K_condA (fun hc => ?_) (fun hc => ?_) <;> try (exact absurd hc (by decide))) | (refine K_ret ?_; refine (hQ _ ⟨_, by (try simp only [go_sem, ↓reduceIte, Nat.reduceEqDiff]); rfl, by simp [go_sem], ?_, by first | rfl | assumption⟩).1))
 all_goals simp [AV.snap]
theorem rcheck_call (frm to : List Dd) (l : List Mg) (hf : SzD frm) (ht : SzD to) (hB : MgL l) : PCall Try.prog 16 [.sl (ddl frm), .sl (ddl to), .sl (mgl l)] (.i (chkN frm to l)) := by
 have hd1 := rdatas_call frm hf.le
 have hd2 := rdatas_call to ht.le
 unfold chkN
 refine PCall.intro Try.func16 rfl isf16 (by simp [Try.f16]) (by simp [AV.cloL, AV.clo]) fun E Q hE hN hQ => K_start ?_
 cases e1 : dtB frm
 ·rw [e1] at hd1 hQ
  rw [if_neg (by simp)] at hQ
  repeat' (first | apply nx | refine Kq_exit_ne (by decide) ?_ | rw [wrap64 (by omega) (by omega)] | ((first | refine hK _ ?_ | refine hKp _ _ ?_); clear hK hKp K Kp; try clear hanc anc) | ((with_reducible refine And.intro ?_ ?_); (focus (first | trivial | omega | (simp only [Fits]; omega) | assumption | (rw [hanc]; rfl)))) | ((first | refine K_regA hE fun K Kp hK hKp => ?_ | refine K_drwA false mixed hE fun K Kp hK hKp anc hanc => ?_ | ((first | apply CallP_mk | apply CallB_mk); (focus (simp only [go_sem] <;> rfl)); (focus (exact hd1)); (focus (first | (simp [go_sem]; done) | (simp [go_sem, CloRow, AV.cells, AV.clo]; done))); (focus (first | exact .inl rfl | (right; simp [go_sem]))))); simp only [go_sem]) | ((first | refine onG_split_t (fun hg => ?_) (fun hg => ?_) | refine onG_split_f (fun hg => ?_) (fun hg => ?_)) <;> simp only [go_sem, hg]) | (refine K_condA (fun hc => ?_) (fun hc => ?_) <;> try (exact absurd hc (by decide))) | (refine K_ret ?_; refine (hQ _ ⟨_, by (try simp only [go_sem, ↓reduceIte, Nat.reduceEqDiff]); rfl, by simp [go_sem], ?_, by first | rfl | assumption⟩).1))
  all_goals simp [AV.snap]
 rw [e1] at hd1 hQ
 cases e2 : dtB to
 ·rw [e2] at hd2 hQ
  rw [if_neg (by simp)] at hQ
  repeat' (first | apply nx | refine Kq_exit_ne (by decide) ?_ | rw [wrap64 (by omega) (by omega)] | ((first | refine hK _ ?_ | refine hKp _ _ ?_); clear hK hKp K Kp; try clear hanc anc) | ((with_reducible refine And.intro ?_ ?_); (focus (first | trivial | omega | (simp only [Fits]; omega) | assumption | (rw [hanc]; rfl)))) | ((first | refine K_regA hE fun K Kp hK hKp => ?_ | refine K_drwA false mixed hE fun K Kp hK hKp anc hanc => ?_ | ((first | apply CallP_mk | apply CallB_mk); (focus (simp only [go_sem] <;> rfl)); (focus (first | exact hd1 | exact hd2)); (focus (first | (simp [go_sem]; done) | (simp [go_sem, CloRow, AV.cells, AV.clo]; done))); (focus (first | exact .inl rfl | (right; simp [go_sem]))))); simp only [go_sem]) | ((first | refine onG_split_t (fun hg => ?_) (fun hg => ?_) | refine onG_split_f (fun hg => ?_) (fun hg => ?_)) <;> simp only [go_sem, hg]) | (refine K_condA (fun hc => ?_) (fun hc => ?_) <;> try (exact absurd hc (by decide))) | (refine K_ret ?_; refine (hQ _ ⟨_, by (try simp only [go_sem, ↓reduceIte, Nat.reduceEqDiff]); rfl, by simp [go_sem], ?_, by first | rfl | assumption⟩).1))
  all_goals simp [AV.snap]
 rw [e2] at hd2 hQ
 by_cases h3 : l.length = frm.length
 case neg =>
  have q3 : ((l.length : Int) != (frm.length : Int)) = true := by simp; omega
  rw [if_neg (by simp [h3])] at hQ
  repeat' (first | apply nx | refine Kq_exit_ne (by decide) ?_ | rw [wrap64 (by omega) (by omega)] | ((first | refine hK _ ?_ | refine hKp _ _ ?_); clear hK hKp K Kp; try clear hanc anc) | ((with_reducible refine And.intro ?_ ?_); (focus (first | trivial | omega | (simp only [Fits]; omega) | assumption | (rw [hanc]; rfl)))) | ((first | refine K_regA hE fun K Kp hK hKp => ?_ | refine K_drwA false mixed hE fun K Kp hK hKp anc hanc => ?_ | ((first | apply CallP_mk | apply CallB_mk); (focus (simp only [go_sem] <;> rfl)); (focus (first | exact hd1 | exact hd2)); (focus (first | (simp [go_sem]; done) | (simp [go_sem, CloRow, AV.cells, AV.clo]; done))); (focus (first | exact .inl rfl | (right; simp [go_sem]))))); simp only [go_sem, q3]) | ((first | refine onG_split_t (fun hg => ?_) (fun hg => ?_) | refine onG_split_f (fun hg => ?_) (fun hg => ?_)) <;> simp only [go_sem, q3, hg]) | (refine K_condA (fun hc => ?_) (fun hc => ?_) <;> try (exact absurd hc (by decide))) | (refine K_ret ?_; refine (hQ _ ⟨_, by (try simp only [go_sem, ↓reduceIte, Nat.reduceEqDiff]); rfl, by simp [go_sem], ?_, by first | rfl | assumption⟩).1))
  all_goals simp [AV.snap]
 have q3 : ((l.length : Int) != (frm.length : Int)) = false := by simp [h3]
 rw [if_pos ⟨rfl, rfl, h3⟩] at hQ
 have hll := hB.1
 repeat' (first | apply nx | refine Kq_exit_ne (by decide) ?_ | rw [wrap64 (by omega) (by omega)] | ((first | refine hK _ ?_ | refine hKp _ _ ?_); clear hK hKp K Kp; try clear hanc anc) | ((with_reducible refine And.intro ?_ ?_); (focus (first | trivial | omega | (simp only [Fits]; omega) | assumption | (rw [hanc]; rfl)))) | ((first | refine K_regA hE fun K Kp hK hKp => ?_ | refine K_drwA false mixed hE fun K Kp hK hKp anc hanc => ?_ | ((first | apply CallP_mk | apply CallB_mk); (focus (simp only [go_sem] <;> rfl)); (focus (first | exact hd1 | exact hd2)); (focus (first | (simp [go_sem]; done) | (simp [go_sem, CloRow, AV.cells, AV.clo]; done))); (focus (first | exact .inl rfl | (right; simp [go_sem]))))); simp only [go_sem, q3]) | ((first | refine onG_split_t (fun hg => ?_) (fun hg => ?_) | refine onG_split_f (fun hg => ?_) (fun hg => ?_)) <;> simp only [go_sem, q3, hg]) | (refine K_condA (fun hc => ?_) (fun hc => ?_) <;> try (exact absurd hc (by decide))) | (refine K_ret ?_; refine (hQ _ ⟨_, by (try simp only [go_sem, ↓reduceIte, Nat.reduceEqDiff]); rfl, by simp [go_sem], ?_, by first | rfl | assumption⟩).1))
 refine K_loop (X := Nat) (fun i => i ≤ l.length ∧ ∀ (a : Nat) x old, a < i → l[a]? = some x → frm[a]? = some old → ShapP old to x) (fun i => mkSt [(0, .sl (ddl frm)), (1, .sl (ddl to)), (2, .sl (mgl l)), (7, AV.i i)] [] 0) (fun i => l.length - i) 0 ⟨Nat.zero_le _, fun a x o h => absurd h (Nat.not_lt_zero _)⟩ (fun i => i) (by refine ent_mk (by simp [go_sem]) (by simp [go_sem]) (by simp) (by simp [hN])) ?_
 rintro i ⟨hi, hok⟩
 by_cases hlt : i < l.length
 ·obtain ⟨x, hx⟩ := get?_of hlt
  obtain ⟨old, hold⟩ := get?_of (show i < frm.length by omega)
  have hBx := hB.2 x (List.mem_of_getElem? hx)
  have hc0 := rshaped_call old to x hBx.1 hBx.2.2
  rw [Dd.av_eq, Mg.av_eq] at hc0
  by_cases hs : ShapP old to x
  ·rw [decide_eq_true hs] at hc0
   repeat' (first | apply nx | refine Kq_exit_ne (by decide) ?_ | rw [wrap64 (by omega) (by omega)] | ((first | refine hK _ ?_ | refine hKp _ _ ?_); clear hK hKp K Kp; try clear hanc anc) | ((with_reducible refine And.intro ?_ ?_); (focus (first | trivial | omega | (simp only [Fits]; omega) | assumption | (rw [hanc]; rfl)))) | ((first | refine K_regA hE fun K Kp hK hKp => ?_ | refine K_drwA false mixed hE fun K Kp hK hKp anc hanc => ?_ | ((first | apply CallP_mk | apply CallB_mk); (focus (simp only [go_sem] <;> rfl)); (focus (exact hc0)); (focus (first | (simp [go_sem]; done) | (simp [go_sem, CloRow, AV.cells, AV.clo]; done))); (focus (first | exact .inl rfl | (right; simp [go_sem]))))); simp only [go_sem, lt_dec hlt, hx, hold, Dd.av_eq, Mg.av_eq]) | ((first | refine onG_split_t (fun hg => ?_) (fun hg => ?_) | refine onG_split_f (fun hg => ?_) (fun hg => ?_)) <;> simp only [go_sem, lt_dec hlt, hx, hold, Dd.av_eq, Mg.av_eq, hg]) | (refine K_condA (fun hc => ?_) (fun hc => ?_) <;> try (exact absurd hc (by decide))) | (refine K_ret ?_; refine (hQ _ ⟨_, by (try simp only [go_sem, ↓reduceIte, Nat.reduceEqDiff]); rfl, by simp [go_sem], ?_, by first | rfl | assumption⟩).1))
   refine ⟨i + 1, ⟨by omega, fun a x' o' ha h1 h2 => ?_⟩, by omega, fun i => i, by refine ent_mk (by simp [go_sem]) (by simp [go_sem]) (by simp) (by simp [hN])⟩
   by_cases e : a = i
   ·subst e; rw [hx] at h1; rw [hold] at h2; cases h1; cases h2; exact hs
   ·exact hok a x' o' (by omega) h1 h2
  ·rw [decide_eq_false hs] at hc0
   rw [if_neg (fun h => hs (h i x old hx hold))] at hQ
   repeat' (first | apply nx | refine Kq_exit_ne (by decide) ?_ | rw [wrap64 (by omega) (by omega)] | ((first | refine hK _ ?_ | refine hKp _ _ ?_); clear hK hKp K Kp; try clear hanc anc) | ((with_reducible refine And.intro ?_ ?_); (focus (first | trivial | omega | (simp only [Fits]; omega) | assumption | (rw [hanc]; rfl)))) | ((first | refine K_regA hE fun K Kp hK hKp => ?_ | refine K_drwA false mixed hE fun K Kp hK hKp anc hanc => ?_ | ((first | apply CallP_mk | apply CallB_mk); (focus (simp only [go_sem] <;> rfl)); (focus (exact hc0)); (focus (first | (simp [go_sem]; done) | (simp [go_sem, CloRow, AV.cells, AV.clo]; done))); (focus (first | exact .inl rfl | (right; simp [go_sem]))))); simp only [go_sem, lt_dec hlt, hx, hold, Dd.av_eq, Mg.av_eq]) | ((first | refine onG_split_t (fun hg => ?_) (fun hg => ?_) | refine onG_split_f (fun hg => ?_) (fun hg => ?_)) <;> simp only [go_sem, lt_dec hlt, hx, hold, Dd.av_eq, Mg.av_eq, hg]) | (refine K_condA (fun hc => ?_) (fun hc => ?_) <;> try (exact absurd hc (by decide))) | (refine K_ret ?_; refine (hQ _ ⟨_, by (try simp only [go_sem, ↓reduceIte, Nat.reduceEqDiff]); rfl, by simp [go_sem], ?_, by first | rfl | assumption⟩).1))
   all_goals simp [AV.snap]
 obtain rfl : i = l.length := by omega
 have hsA : shpA frm to l := fun a x o h1 h2 => hok a x o (List.getElem?_eq_some_iff.1 h1).1 h1 h2
 rw [if_pos hsA] at hQ
 repeat' (first | apply nx | refine Kq_exit_ne (by decide) ?_ | rw [wrap64 (by omega) (by omega)] | ((first | refine hK _ ?_ | refine hKp _ _ ?_); clear hK hKp K Kp; try clear hanc anc) | ((with_reducible refine And.intro ?_ ?_); (focus (first | trivial | omega | (simp only [Fits]; omega) | assumption | (rw [hanc]; rfl)))) | ((first | refine K_regA hE fun K Kp hK hKp => ?_ | refine K_drwA false mixed hE fun K Kp hK hKp anc hanc => ?_); simp only [go_sem, ge_dec]) | ((first | refine onG_split_t (fun hg => ?_) (fun hg => ?_) | refine onG_split_f (fun hg => ?_) (fun hg => ?_)) <;> simp only [go_sem, ge_dec, hg]) | (refine K_condA (fun hc => ?_) (fun hc => ?_) <;> try (exact absurd hc (by decide))) | (refine K_ret ?_; refine (hQ _ ⟨_, by (try simp only [go_sem, ↓reduceIte, Nat.reduceEqDiff]); rfl, by simp [go_sem], ?_, by first | rfl | assumption⟩).1))
 refine K_loop (X := Nat) (fun i => i ≤ l.length ∧ ∀ (a : Nat) x old, a < i → l[a]? = some x → frm[a]? = some old → TypP old to l x) (fun i => mkSt [(0, .sl (ddl frm)), (1, .sl (ddl to)), (2, .sl (mgl l)), (8, AV.i i)] [] 0) (fun i => l.length - i) 0 ⟨Nat.zero_le _, fun a x o h => absurd h (Nat.not_lt_zero _)⟩ (fun i => i) (by refine ent_mk (by simp [go_sem]) (by simp [go_sem]) (by simp) (by simp [hN])) ?_
 rintro i ⟨hi, hok2⟩
 by_cases hlt : i < l.length
 ·obtain ⟨x, hx⟩ := get?_of hlt
  obtain ⟨old, hold⟩ := get?_of (show i < frm.length by omega)
  have hBx := hB.2 x (List.mem_of_getElem? hx)
  have hc0 := rtypd_call old to l x (hsA i x old hx hold) hBx.1 (fun ov hov => (hf.fs old (List.mem_of_getElem? hold) ov hov).2) ht.fs
  rw [Dd.av_eq, Mg.av_eq] at hc0
  by_cases hs : TypP old to l x
  ·rw [decide_eq_true hs] at hc0
   repeat' (first | apply nx | refine Kq_exit_ne (by decide) ?_ | rw [wrap64 (by omega) (by omega)] | ((first | refine hK _ ?_ | refine hKp _ _ ?_); clear hK hKp K Kp; try clear hanc anc) | ((with_reducible refine And.intro ?_ ?_); (focus (first | trivial | omega | (simp only [Fits]; omega) | assumption | (rw [hanc]; rfl)))) | ((first | refine K_regA hE fun K Kp hK hKp => ?_ | refine K_drwA false mixed hE fun K Kp hK hKp anc hanc => ?_ | ((first | apply CallP_mk | apply CallB_mk); (focus (simp only [go_sem] <;> rfl)); (focus (exact hc0)); (focus (first | (simp [go_sem]; done) | (simp [go_sem, CloRow, AV.cells, AV.clo]; done))); (focus (first | exact .inl rfl | (right; simp [go_sem]))))); simp only [go_sem, lt_dec hlt, hx, hold, Dd.av_eq, Mg.av_eq]) | ((first | refine onG_split_t (fun hg => ?_) (fun hg => ?_) | refine onG_split_f (fun hg => ?_) (fun hg => ?_)) <;> simp only [go_sem, lt_dec hlt, hx, hold, Dd.av_eq, Mg.av_eq, hg]) | (refine K_condA (fun hc => ?_) (fun hc => ?_) <;> try (exact absurd hc (by decide))) | (refine K_ret ?_; refine (hQ _ ⟨_, by (try simp only [go_sem, ↓reduceIte, Nat.reduceEqDiff]); rfl, by simp [go_sem], ?_, by first | rfl | assumption⟩).1))
   refine ⟨i + 1, ⟨by omega, fun a x' o' ha h1 h2 => ?_⟩, by omega, fun i => i, by refine ent_mk (by simp [go_sem]) (by simp [go_sem]) (by simp) (by simp [hN])⟩
   by_cases e : a = i
   ·subst e; rw [hx] at h1; rw [hold] at h2; cases h1; cases h2; exact hs
   ·exact hok2 a x' o' (by omega) h1 h2
  ·rw [decide_eq_false hs] at hc0
   rw [if_neg (fun h => hs (h i x old hx hold))] at hQ
   repeat' (first | apply nx | refine Kq_exit_ne (by decide) ?_ | rw [wrap64 (by omega) (by omega)] | ((first | refine hK _ ?_ | refine hKp _ _ ?_); clear hK hKp K Kp; try clear hanc anc) | ((with_reducible refine And.intro ?_ ?_); (focus (first | trivial | omega | (simp only [Fits]; omega) | assumption | (rw [hanc]; rfl)))) | ((first | refine K_regA hE fun K Kp hK hKp => ?_ | refine K_drwA false mixed hE fun K Kp hK hKp anc hanc => ?_ | ((first | apply CallP_mk | apply CallB_mk); (focus (simp only [go_sem] <;> rfl)); (focus (exact hc0)); (focus (first | (simp [go_sem]; done) | (simp [go_sem, CloRow, AV.cells, AV.clo]; done))); (focus (first | exact .inl rfl | (right; simp [go_sem]))))); simp only [go_sem, lt_dec hlt, hx, hold, Dd.av_eq, Mg.av_eq]) | ((first | refine onG_split_t (fun hg => ?_) (fun hg => ?_) | refine onG_split_f (fun hg => ?_) (fun hg => ?_)) <;> simp only [go_sem, lt_dec hlt, hx, hold, Dd.av_eq, Mg.av_eq, hg]) | (refine K_condA (fun hc => ?_) (fun hc => ?_) <;> try (exact absurd hc (by decide))) | (refine K_ret ?_; refine (hQ _ ⟨_, by (try simp only [go_sem, ↓reduceIte, Nat.reduceEqDiff]); rfl, by simp [go_sem], ?_, by first | rfl | assumption⟩).1))
   all_goals simp [AV.snap]
 obtain rfl : i = l.length := by omega
 have htA : typA frm to l := fun a x o h1 h2 => hok2 a x o (List.getElem?_eq_some_iff.1 h1).1 h1 h2
 rw [if_pos htA] at hQ
 repeat' (first | apply nx | refine Kq_exit_ne (by decide) ?_ | rw [wrap64 (by omega) (by omega)] | ((first | refine hK _ ?_ | refine hKp _ _ ?_); clear hK hKp K Kp; try clear hanc anc) | ((with_reducible refine And.intro ?_ ?_); (focus (first | trivial | omega | (simp only [Fits]; omega) | assumption | (rw [hanc]; rfl)))) | ((first | refine K_regA hE fun K Kp hK hKp => ?_ | refine K_drwA false mixed hE fun K Kp hK hKp anc hanc => ?_); simp only [go_sem, ge_dec]) | ((first | refine onG_split_t (fun hg => ?_) (fun hg => ?_) | refine onG_split_f (fun hg => ?_) (fun hg => ?_)) <;> simp only [go_sem, ge_dec, hg]) | (refine K_condA (fun hc => ?_) (fun hc => ?_) <;> try (exact absurd hc (by decide))) | (refine K_ret ?_; refine (hQ _ ⟨_, by (try simp only [go_sem, ↓reduceIte, Nat.reduceEqDiff]); rfl, by simp [go_sem], ?_, by first | rfl | assumption⟩).1))
 all_goals simp [AV.snap]
end Go.Proofs.Ytlhhahocjfgmdaa
