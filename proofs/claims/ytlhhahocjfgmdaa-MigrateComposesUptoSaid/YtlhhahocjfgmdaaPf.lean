/- A part of the proof: an abstract machine for the walks, and what the walked functions compute. -/
import Derived.Test.YtlhhahocjfgmdaaPe
import Derived.Test.YtlhhahocjfgmdaaPa
set_option linter.unusedVariables false
set_option linter.unusedSimpArgs false
set_option linter.unusedSimpArgs false
set_option linter.unusedVariables false
set_option maxHeartbeats 4000000
set_option maxRecDepth 100000
namespace Go.Proofs.Ytlhhahocjfgmdaa
open Go.Am Go.Proofs Go.Hv Go.Mv
open Classical
attribute [local irreducible] AW CallP CallB CallY
theorem moves_nc (old : Dd) (to : List Dd) (x : Mg) : ACall Try.prog 30 [old.av, .sl (ddl to), x.av] (fun _ => none) 0 0 (fun r hp' => r = .fn (.func 54) [] [.ptr 2 0, .ptr 0 0, .ptr 1 0] ∧ hp' = mkHp [(0, .cells old.cs), (1, .cells [.sl (ddl to)]), (2, .cells x.cs)]) (fun _ _ => False) := by
 rw [Dd.av_eq, Mg.av_eq]
 refine ACall.of_bodyR Try.func30 isf30 rfl (by simp [Try.f30]) fun E Q hE hN hQ hQp => K_start ?_
 repeat' (first | apply nx | refine Kq_exit_ne (by decide) ?_ | rw [wrap64 (by omega) (by omega)] | ((first | refine hK _ ?_ | refine hKp _ _ ?_); clear hK hKp K Kp; try clear hanc anc) | ((with_reducible refine And.intro ?_ ?_); (focus (first | trivial | omega | (simp only [Fits]; omega) | assumption | (rw [hanc]; rfl)))) | ((first | refine K_regA hE fun K Kp hK hKp => ?_ | refine K_drwA true mixed hE fun K Kp hK hKp anc hanc => ?_ | refine K_drwA false mixed hE fun K Kp hK hKp anc hanc => ?_); simp only [go_sem]) | ((first | refine onG_split_t (fun hg => ?_) (fun hg => ?_) | refine onG_split_f (fun hg => ?_) (fun hg => ?_)) <;> simp only [go_sem, hg]) | (refine K_condA (fun hc => ?_) (fun hc => ?_) <;> try (exact absurd hc (by decide))))
 refine K_ret (hQ _ ⟨.fn (.func 54) [] [.ptr 2 0, .ptr 0 0, .ptr 1 0], fun i => if i = 1 then 1048576 else if i = 2 then 2097152 else i, _, 3, resA_tmp (by simp only [go_sem, Dd.cs, Mg.cs]), (by simp [AV.ids, AV.idsL]), ?_, rfl, rfl⟩).1
 show Ent _ _ _ (mkSt [] [(0, .cells old.cs), (1, .cells [.sl (ddl to)]), (2, .cells x.cs)] 3)
 refine ent_mk (by simp [go_sem, Dd.cs, Mg.cs]) (by simp [go_sem, Dd.cs, Mg.cs]) (by simp) (by simp [hN])
def fsAt (vs : List Dv) (i : Int) : List Ty := match at? vs i with | some v => v.fs | none => []
def ysM (old nd : Dd) (x : Mg) : List (List AV) := x.vars.zipIdx.map fun p => [.i p.2, .agg [.sl (Ty.avL (fsAt old.vs p.2)), .sl (Ty.avL (fsAt nd.vs p.1))]]
theorem ysM_len (old nd : Dd) (x : Mg) : (ysM old nd x).length = x.vars.length := by simp [ysM]
theorem ysM_get {old nd : Dd} {x : Mg} {i : Nat} {v : Int} (h : x.vars[i]? = some v) : (ysM old nd x)[i]? = some [.i i, .agg [.sl (Ty.avL (fsAt old.vs i)), .sl (Ty.avL (fsAt nd.vs v))]] := by
 simp [ysM, h]
theorem ysM_mem {old nd : Dd} {x : Mg} {y : List AV} (h : y ∈ ysM old nd x) : y.length = 2 := by
 obtain ⟨p, _, rfl⟩ := List.mem_map.1 h; rfl
structure MvOk (old nd : Dd) (to : List Dd) (x : Mg) : Prop where
 at_ : at? to x.data = some nd
 len : x.vars.length = old.vs.length
 lt : x.vars.length ≤ 2 ^ 40
 var : ∀ v, v ∈ x.vars → ∃ nv, at? nd.vs v = some nv
theorem moves_iter {old nd : Dd} {to : List Dd} {x : Mg} (hm : MvOk old nd to x) (a b c : Nat) : IterC Try.prog 54 [.ptr c 0, .ptr a 0, .ptr b 0] [(c, .cells x.cs), (a, .cells old.cs), (b, .cells [.sl (ddl to)])] (ysM old nd x) := by
 intro l S objs np hn1 hcaps hL hob hnp Inv Fin IP hIP hround s h0
 simp only [AV.idsL, AV.ids] at hcaps
 obtain ⟨hc1, ha1, hb1, _⟩ := hcaps
 have hcx : ∀ s, objs s c = some (.cells x.cs) := fun s => hL s (c, .cells x.cs) (by simp)
 have hca : ∀ s, objs s a = some (.cells old.cs) := fun s => hL s (a, .cells old.cs) (by simp)
 have hcb : ∀ s, objs s b = some (.cells [.sl (ddl to)]) := fun s => hL s (b, .cells [.sl (ddl to)]) (by simp)
 have c2 : c < 1000000 := by omega
 have a2 : a < 1000000 := by omega
 have b2 : b < 1000000 := by omega
 obtain ⟨di, hdi, hnd⟩ := at_some hm.at_
 refine ACall.of_bodyR Try.func54 isf54 rfl (by simp [Try.f54]) fun E Q hE hN hQ hQp => K_start ?_
 have gx := hcx s
 unfold Mg.cs at gx
 repeat' (first | apply nx | refine Kq_exit_ne (by decide) ?_ | rw [wrap64 (by omega) (by omega)] | ((first | refine hK _ ?_ | refine hKp _ _ ?_); clear hK hKp K Kp; try clear hanc anc) | ((with_reducible refine And.intro ?_ ?_); (focus (first | trivial | omega | (simp only [Fits]; omega) | assumption | (rw [hanc]; rfl)))) | ((first | refine K_regA hE fun K Kp hK hKp => ?_ | refine K_drwA true mixed hE fun K Kp hK hKp anc hanc => ?_ | refine K_drwA false mixed hE fun K Kp hK hKp anc hanc => ?_); simp only [go_sem, gx]) | ((first | refine onG_split_t (fun hg => ?_) (fun hg => ?_) | refine onG_split_f (fun hg => ?_) (fun hg => ?_)) <;> simp only [go_sem, gx, hg]) | (refine K_condA (fun hc => ?_) (fun hc => ?_) <;> try (exact absurd hc (by decide))))
 refine K_loop (X := Nat × S) (fun z => z.1 ≤ x.vars.length ∧ Inv z.1 z.2) (fun z => ⟨mkFr [(0, .fn (.yield l) [] []), (1, .ptr c 0), (2, .ptr a 0), (3, .ptr b 0), (8, .sl (il x.vars)), (9, .i x.vars.length), (10, .i z.1)], objs z.2, 1000000⟩) (fun z => x.vars.length - z.1) (0, s) ⟨Nat.zero_le _, h0⟩ (fun i => i) ?_ ?_
 ·exact ent_idG (by simp [go_sem, a2, b2, c2]) (fun id o ho => ⟨ho, hob s id o ho⟩) (by rw [hN]; exact hn1)
 rintro ⟨i, s⟩ ⟨hi, hinv⟩
 simp only at hi hinv
 by_cases hlt : i < x.vars.length
 ·obtain ⟨v, hv⟩ := get?_of hlt
  obtain ⟨ov, hov⟩ := get?_of (show i < old.vs.length by have := hm.len; omega)
  obtain ⟨nv, hnv⟩ := hm.var v (List.mem_of_getElem? hv)
  obtain ⟨vi, hvi, hnv2⟩ := at_some hnv
  have e1 : fsAt old.vs i = ov.fs := by rw [fsAt, at_nat, hov]
  have e2 : fsAt nd.vs v = nv.fs := by rw [fsAt, hnv]
  have hy := ysM_get (old := old) (nd := nd) hv
  rw [e1, e2] at hy
  have hro := hround i _ s hinv hy
  have gx := hcx s
  have ga := hca s
  have gb := hcb s
  unfold Mg.cs at gx
  unfold Dd.cs at ga
  rw [hdi] at gx
  subst hvi
  have da : decide (a < 7291456) = true := by simp; omega
  have db : decide (b < 7291456) = true := by simp; omega
  have dc : decide (c < 7291456) = true := by simp; omega
  repeat' (first | apply nx | refine Kq_exit_ne (by decide) ?_ | rw [wrap64 (by omega) (by omega)] | ((first | refine hK _ ?_ | refine hKp _ _ ?_); clear hK hKp K Kp; try clear hanc anc) | ((with_reducible refine And.intro ?_ ?_); (focus (first | trivial | omega | (simp only [Fits]; omega) | assumption | (rw [hanc]; rfl)))) | ((first | refine K_regA hE fun K Kp hK hKp => ?_ | refine K_drwA true mixed hE fun K Kp hK hKp anc hanc => ?_ | refine K_drwA false mixed hE fun K Kp hK hKp anc hanc => ?_); simp only [go_sem, da, db, dc, Bool.true_or, lt_dec hlt, hv, hov, hnv2, hnd, gx, ga, gb, Dd.av, Dd.cs_eq, Dv.av, Dv.cs_eq]) | ((first | refine onG_split_t (fun hg => ?_) (fun hg => ?_) | refine onG_split_f (fun hg => ?_) (fun hg => ?_)) <;> simp only [go_sem, da, db, dc, Bool.true_or, lt_dec hlt, hv, hov, hnv2, hnd, gx, ga, gb, Dd.av, Dd.cs_eq, Dv.av, Dv.cs_eq, hg]) | (refine K_condA (fun hc => ?_) (fun hc => ?_) <;> try (exact absurd hc (by decide))))
  refine Hold.mk (CallY.use hro (fun i => i) (by rw [renL_id]) (by simp [AV.ids, AV.idsL, go_sem]) (fun id o ho => ⟨by rw [oren_id]; exact ho, hob s id o ho⟩) (fun id id' o o' _ _ e => e) (fun id hid => ⟨by omega, hnp s id hid⟩) ?_ ?_ ?_ ?_)
  ·rintro r hp' ⟨s', hr, rfl⟩
   refine ⟨by rcases hr with ⟨rfl, _⟩ | ⟨rfl, _⟩ <;> trivial, fun id o ho => ⟨by have := (hob s' id o ho).1; omega, ?_⟩⟩
   exact objids_mono _ (fun j hj => by omega) (hob s' id o ho).2
  ·rintro r hp' ⟨s', hr, rfl⟩
   refine ⟨clo_ids (hIP _ s' hr), fun id o ho => ⟨by have := (hob s' id o ho).1; omega, ?_⟩⟩
   exact objids_mono _ (fun j hj => by omega) (hob s' id o ho).2
  ·rintro r hp' fr' hpn ⟨s', hr, rfl⟩ hfr hobj _
   simp only [St.put, putf] at hfr
   clear hQp
   subst hfr
   have hba : backM (fun i => i) np (7291456 + 1048576 * 19) a = a := backM_lt ha1
   have hbb : backM (fun i => i) np (7291456 + 1048576 * 19) b = b := backM_lt hb1
   have hbc : backM (fun i => i) np (7291456 + 1048576 * 19) c = c := backM_lt hc1
   have hml := hm.lt
   have u : IntKind.i64.wrap ((i : Int) + 1) = i + 1 := wrap64 (by omega) (by omega)
   rcases hr with ⟨rfl, hi'⟩ | ⟨rfl, hf'⟩
   ·simp only [go_sem]
    refine hK _ ?_
    repeat' (first | apply nx | refine Kq_exit_ne (by decide) ?_ | rw [wrap64 (by omega) (by omega)] | ((first | refine hK _ ?_ | refine hKp _ _ ?_); clear hK hKp K Kp; try clear hanc anc) | ((with_reducible refine And.intro ?_ ?_); (focus (first | trivial | omega | (simp only [Fits]; omega) | assumption | (rw [hanc]; rfl)))) | ((first | refine K_regA hE fun K Kp hK hKp => ?_ | refine K_drwA true mixed hE fun K Kp hK hKp anc hanc => ?_ | refine K_drwA false mixed hE fun K Kp hK hKp anc hanc => ?_); simp only [go_sem]) | ((first | refine onG_split_t (fun hg => ?_) (fun hg => ?_) | refine onG_split_f (fun hg => ?_) (fun hg => ?_)) <;> simp only [go_sem, hg]) | (refine K_condA (fun hc => ?_) (fun hc => ?_) <;> try (exact absurd hc (by decide))))
    refine ⟨(i + 1, s'), ⟨by simp only; omega, hi'⟩, by simp only; omega, _, ent_gen (m := backM (fun i => i) np (7291456 + 1048576 * 19)) (by simp [go_sem, a2, b2, c2, hba, hbb, hbc, u]) (fun id o ho => ⟨hobj id o ho, hob s' id o ho⟩) (fun id id' o o' _ _ e => backM_id_inj (by omega) e) (fun id hid => ?_)⟩
    rw [hN] at hid
    exact ⟨backM_lt hid, by omega⟩
   ·simp only [go_sem]
    refine hK _ ?_
    repeat' (first | apply nx | refine Kq_exit_ne (by decide) ?_ | rw [wrap64 (by omega) (by omega)] | ((first | refine hK _ ?_ | refine hKp _ _ ?_); clear hK hKp K Kp; try clear hanc anc) | ((with_reducible refine And.intro ?_ ?_); (focus (first | trivial | omega | (simp only [Fits]; omega) | assumption | (rw [hanc]; rfl)))) | ((first | refine K_regA hE fun K Kp hK hKp => ?_ | refine K_drwA true mixed hE fun K Kp hK hKp anc hanc => ?_ | refine K_drwA false mixed hE fun K Kp hK hKp anc hanc => ?_); simp only [go_sem]) | ((first | refine onG_split_t (fun hg => ?_) (fun hg => ?_) | refine onG_split_f (fun hg => ?_) (fun hg => ?_)) <;> simp only [go_sem, hg]) | (refine K_condA (fun hc => ?_) (fun hc => ?_) <;> try (exact absurd hc (by decide))))
    refine K_ret ?_
    refine (hQ _ ⟨.tup [], backM (fun i => i) np (7291456 + 1048576 * 19), objs s', 1000000, rfl, trivial, ?_, rfl, s', .inr hf', rfl⟩).1
    refine ent_gen (fr := []) (m := backM (fun i => i) np (7291456 + 1048576 * 19)) (by simp) (fun id o ho => ⟨hobj id o ho, hob s' id o ho⟩) (fun id id' o o' _ _ e => backM_id_inj (by omega) e) (fun id hid => ⟨backM_lt hid, by omega⟩)
  ·rintro x hp' hpn ⟨s', hx, rfl⟩ hobj _
   refine hKp _ _ (hQp _ _ ⟨x, _, _, 1000000, rfl, clo_ids (hIP x s' hx), ?_, s', hx, rfl⟩)
   refine ent_gen (fr := []) (by simp) (fun id o ho => ⟨hobj id o ho, hob s' id o ho⟩) (fun id id' o o' _ _ e => backM_id_inj (by omega) e) (fun id hid => ⟨backM_lt hid, by omega⟩)
 ·obtain rfl : i = x.vars.length := by omega
  repeat' (first | apply nx | refine Kq_exit_ne (by decide) ?_ | rw [wrap64 (by omega) (by omega)] | ((first | refine hK _ ?_ | refine hKp _ _ ?_); clear hK hKp K Kp; try clear hanc anc) | ((with_reducible refine And.intro ?_ ?_); (focus (first | trivial | omega | (simp only [Fits]; omega) | assumption | (rw [hanc]; rfl)))) | ((first | refine K_regA hE fun K Kp hK hKp => ?_ | refine K_drwA true mixed hE fun K Kp hK hKp anc hanc => ?_ | refine K_drwA false mixed hE fun K Kp hK hKp anc hanc => ?_); simp only [go_sem, ge_dec]) | ((first | refine onG_split_t (fun hg => ?_) (fun hg => ?_) | refine onG_split_f (fun hg => ?_) (fun hg => ?_)) <;> simp only [go_sem, ge_dec, hg]) | (refine K_condA (fun hc => ?_) (fun hc => ?_) <;> try (exact absurd hc (by decide))))
  refine Kq_norm_nil ?_
  refine (hQ _ ⟨.tup [], fun i => i, objs s, 1000000, rfl, trivial, ?_, rfl, s, .inl (by rw [ysM_len]; exact hinv), rfl⟩).2
  exact ent_idG (fr := []) (by simp) (fun id o ho => ⟨ho, hob s id o ho⟩) hn1
end Go.Proofs.Ytlhhahocjfgmdaa

set_option linter.unusedSimpArgs false
set_option linter.unusedVariables false
set_option maxHeartbeats 4000000
set_option maxRecDepth 100000
namespace Go.Proofs.Ytlhhahocjfgmdaa
open Go.Am Go.Proofs Go.Hv Go.Mv
open Classical
attribute [local irreducible] AW CallP CallB CallY
theorem wf0 : WF (mkHp []) 0 := WF.of_list (by decide) (by simp) (fun id hid => absurd hid (Nat.not_lt_zero _))
def smallB (j : Int) : Bool := decide (j ≥ -1000000001)
theorem c48_hc (j : Int) : HC Try.prog 48 [.i j] (mkHp []) 0 (.bool (smallB j)) := by
 refine HC.intro wf0 rfl Try.func48 rfl isf48 (by simp [Try.f48]) fun E Q hE hN hQ => K_start ?_
 unfold smallB at hQ
 repeat' (first | apply nx | refine Kq_exit_ne (by decide) ?_ | rw [wrap64 (by omega) (by omega)] | ((first | refine hK _ ?_ | refine hKp _ _ ?_); clear hK hKp K Kp; try clear hanc anc) | ((with_reducible refine And.intro ?_ ?_); (focus (first | trivial | omega | (simp only [Fits]; omega) | assumption | (rw [hanc]; rfl)))) | ((first | refine K_regA hE fun K Kp hK hKp => ?_ | refine K_drwA true mixed hE fun K Kp hK hKp anc hanc => ?_ | refine K_drwA false mixed hE fun K Kp hK hKp anc hanc => ?_); simp only [go_sem]) | ((first | refine onG_split_t (fun hg => ?_) (fun hg => ?_) | refine onG_split_f (fun hg => ?_) (fun hg => ?_)) <;> simp only [go_sem, hg]) | (refine K_condA (fun hc => ?_) (fun hc => ?_) <;> try (exact absurd hc (by decide))))
 exact K_ret (hQ _ (by simp only [go_sem]; rfl) (fun id ob h => (by cases h))).1
theorem HC.pure {f : FuncId} {vs : List AV} {b : Bool} (hclo : AV.cloL vs = true) (h : HC Try.prog f vs (mkHp []) 0 (.bool b)) : PCall Try.prog f vs (.bool b) :=
 PCall.of_A hclo ⟨h.2.2.1, fun ρ V Z w args hh hnp hnx hsz hrel => (h.2.2.2 ρ V Z w args hh hnp (fun id hv => by have := hnx id hv; omega) hsz hrel).mono (by
  rintro e w' ⟨ρ', V', Z', hp', k1, k2, k3, k4, k5, k6, ⟨v, r', h1, h2, rfl, rfl⟩ | ⟨_, _, _, _, hh⟩⟩
  ·exact ⟨ρ', V', Z', _, k1, k2, k3, k4, k5, k6, .inl ⟨v, _, h1, h2, trivial, rfl, rfl⟩⟩
  ·exact hh.elim)⟩
theorem small_call (l : List Int) (hl : l.length ≤ 2 ^ 40) : PCall Try.prog 46 [.sl (il l), .fn (.func 48) [] []] (.bool (l.all smallB)) := HC.pure (by simp [AV.cloL, AV.clo]) <|
 all46_hc l 48 [] (mkHp []) 0 smallB (by simp [AV.idsL]) wf0 (by decide) hl (fun j _ => c48_hc j)
def inB (n : Nat) (v : Int) : Bool := decide (v ≥ 0) && decide (v < (n : Int))
theorem c47_hc (to : List Dd) (x : Mg) (nd : Dd) (v : Int) (hp : Nat → Option AObj) (np a b : Nat) (hw : WF hp np) (ha : hp a = some (.cells [.sl (ddl to)])) (hb : hp b = some (.cells x.cs)) (hd : at? to x.data = some nd) : HC Try.prog 47 [.i v, .ptr a 0, .ptr b 0] hp np (.bool (inB nd.vs.length v)) := by
 obtain ⟨i, hi, hnd⟩ := at_some hd
 refine HC.intro hw rfl Try.func47 rfl isf47 (by simp [Try.f47]) fun E Q hE hN hQ => K_start ?_
 unfold inB at hQ
 unfold Mg.cs at hb
 rw [hi] at hb
 cases q1 : decide (v ≥ 0)
 ·repeat' (first | apply nx | refine Kq_exit_ne (by decide) ?_ | rw [wrap64 (by omega) (by omega)] | ((first | refine hK _ ?_ | refine hKp _ _ ?_); clear hK hKp K Kp; try clear hanc anc) | ((with_reducible refine And.intro ?_ ?_); (focus (first | trivial | omega | (simp only [Fits]; omega) | assumption | (rw [hanc]; rfl)))) | ((first | refine K_regA hE fun K Kp hK hKp => ?_ | refine K_drwA true mixed hE fun K Kp hK hKp anc hanc => ?_ | refine K_drwA false mixed hE fun K Kp hK hKp anc hanc => ?_); simp only [go_sem, q1]) | ((first | refine onG_split_t (fun hg => ?_) (fun hg => ?_) | refine onG_split_f (fun hg => ?_) (fun hg => ?_)) <;> simp only [go_sem, q1, hg]) | (refine K_condA (fun hc => ?_) (fun hc => ?_) <;> try (exact absurd hc (by decide))))
  exact K_ret (hQ _ (by simp only [go_sem, q1]; rfl) (fun id ob h => h)).1
 ·repeat' (first | apply nx | refine Kq_exit_ne (by decide) ?_ | rw [wrap64 (by omega) (by omega)] | ((first | refine hK _ ?_ | refine hKp _ _ ?_); clear hK hKp K Kp; try clear hanc anc) | ((with_reducible refine And.intro ?_ ?_); (focus (first | trivial | omega | (simp only [Fits]; omega) | assumption | (rw [hanc]; rfl)))) | ((first | refine K_regA hE fun K Kp hK hKp => ?_ | refine K_drwA true mixed hE fun K Kp hK hKp anc hanc => ?_ | refine K_drwA false mixed hE fun K Kp hK hKp anc hanc => ?_); simp only [go_sem, q1, ha, hb, hnd, Dd.av, Dd.cs_eq]) | ((first | refine onG_split_t (fun hg => ?_) (fun hg => ?_) | refine onG_split_f (fun hg => ?_) (fun hg => ?_)) <;> simp only [go_sem, q1, ha, hb, hnd, Dd.av, Dd.cs_eq, hg]) | (refine K_condA (fun hc => ?_) (fun hc => ?_) <;> try (exact absurd hc (by decide))))
  exact K_ret (hQ _ (by simp only [go_sem, q1, Bool.true_and]; rfl) (fun id ob h => h)).1
theorem ent_fam {np : Nat} {fr : Nat → Option AV} {hp : Nat → Option AObj} {nx N : Nat} {o : AObj} {L : List (Nat × AObj)} (hL : ∀ p, p ∈ L → hp p.1 = some p.2 ∧ p.1 < 1000000 ∧ p.2.ids (· < 1000000)) (hN : hp N = some o) (hN2 : N < 1000000) (ho : o.ids (· < 1000000)) (hnp : np ≤ 1000000) :
    Ent np (fun i => i) ⟨fr, hp, nx⟩ ⟨mkFr [], updo (mkHp L) N (some o), 1000000⟩ := by
  refine ent_idG (by simp) (fun id ob h => ?_) hnp
  simp only [updo] at h
  split at h
  · rename_i e
    cases h
    rw [e]
    exact ⟨hN, hN2, ho⟩
  · exact mkHp_allP (p := fun id ob => hp id = some ob ∧ id < 1000000 ∧ ob.ids (· < 1000000)) hL id ob h
theorem ysM_inv {old nd : Dd} {to : List Dd} {x : Mg} (hm : MvOk old nd to x) {i : Nat} {y : List AV} (hy : (ysM old nd x)[i]? = some y) : ∃ v ov nv, x.vars[i]? = some v ∧ old.vs[i]? = some ov ∧ at? nd.vs v = some nv ∧ y = [.i i, .agg [.sl (Ty.avL ov.fs), .sl (Ty.avL nv.fs)]] := by
 have hil : i < x.vars.length := by
  have := (List.getElem?_eq_some_iff.1 hy).1
  rwa [ysM_len] at this
 obtain ⟨v, hv⟩ := get?_of hil
 obtain ⟨ov, hov⟩ := get?_of (show i < old.vs.length by have := hm.len; omega)
 obtain ⟨nv, hnv⟩ := hm.var v (List.mem_of_getElem? hv)
 refine ⟨v, ov, nv, hv, hov, hnv, ?_⟩
 rw [ysM_get hv, fsAt, at_nat, hov, fsAt, hnv] at hy
 exact (Option.some.inj hy).symm
def sObj (old : Dd) (to : List Dd) (x : Mg) : Unit → Nat → Option AObj := fun _ => mkHp [(0, .cells x.cs), (1, .cells [.bool false]), (2, .cells x.cs), (3, .cells old.cs), (4, .cells [.sl (ddl to)])]
theorem shaped_call (old : Dd) (to : List Dd) (x : Mg) (hv : x.vars.length ≤ 2 ^ 40) (hfl : ∀ f, f ∈ x.fss → f.length ≤ 2 ^ 40) : PCall Try.prog 26 [old.av, .sl (ddl to), x.av] (.bool (decide (ShapP old to x))) := by
 have hmv := moves_nc old to x
 rw [Dd.av_eq, Mg.av_eq] at *
 refine PCall.introM Try.func26 rfl isf26 (by simp [Try.f26]) (by simp [AV.cloL, AV.clo]) fun E Q hE hN hM hQ => K_start ?_
 by_cases h1 : 0 ≤ x.data ∧ x.data < to.length
 case neg =>
  have hn : ¬ ShapP old to x := by
   rintro ⟨nd, g, _⟩
   rw [at_none h1] at g; cases g
  rw [decide_eq_false hn] at hQ
  by_cases h0 : 0 ≤ x.data
  ·have q1 : decide (x.data < 0) = false := by simp; omega
   have q2 : decide (x.data ≥ (to.length : Int)) = true := by simp; omega
   repeat' (first | apply nx | refine Kq_exit_ne (by decide) ?_ | rw [wrap64 (by omega) (by omega)] | ((first | refine hK _ ?_ | refine hKp _ _ ?_); clear hK hKp K Kp; try clear hanc anc) | ((with_reducible refine And.intro ?_ ?_); (focus (first | trivial | omega | (simp only [Fits]; omega) | assumption | (rw [hanc]; rfl)))) | ((first | refine K_regA hE fun K Kp hK hKp => ?_ | refine K_drwA true mixed hE fun K Kp hK hKp anc hanc => ?_ | refine K_drwA false mixed hE fun K Kp hK hKp anc hanc => ?_); simp only [go_sem, q1, q2]) | ((first | refine onG_split_t (fun hg => ?_) (fun hg => ?_) | refine onG_split_f (fun hg => ?_) (fun hg => ?_)) <;> simp only [go_sem, q1, q2, hg]) | (refine K_condA (fun hc => ?_) (fun hc => ?_) <;> try (exact absurd hc (by decide))))
   refine K_ret (hQ _ ⟨.bool false, (by simp [resA, rvA, Try.f26, go_sem]; rfl), (by simp [AV.snapOk, AV.snapOkL, go_sem]), (by rfl), (by first | rfl | simp [AV.clo, AV.cloL, go_sem])⟩).1
  ·have q1 : decide (x.data < 0) = true := by simp; omega
   repeat' (first | apply nx | refine Kq_exit_ne (by decide) ?_ | rw [wrap64 (by omega) (by omega)] | ((first | refine hK _ ?_ | refine hKp _ _ ?_); clear hK hKp K Kp; try clear hanc anc) | ((with_reducible refine And.intro ?_ ?_); (focus (first | trivial | omega | (simp only [Fits]; omega) | assumption | (rw [hanc]; rfl)))) | ((first | refine K_regA hE fun K Kp hK hKp => ?_ | refine K_drwA true mixed hE fun K Kp hK hKp anc hanc => ?_ | refine K_drwA false mixed hE fun K Kp hK hKp anc hanc => ?_); simp only [go_sem, q1]) | ((first | refine onG_split_t (fun hg => ?_) (fun hg => ?_) | refine onG_split_f (fun hg => ?_) (fun hg => ?_)) <;> simp only [go_sem, q1, hg]) | (refine K_condA (fun hc => ?_) (fun hc => ?_) <;> try (exact absurd hc (by decide))))
   refine K_ret (hQ _ ⟨.bool false, (by simp [resA, rvA, Try.f26, go_sem]; rfl), (by simp [AV.snapOk, AV.snapOkL, go_sem]), (by rfl), (by first | rfl | simp [AV.clo, AV.cloL, go_sem])⟩).1
 have q1 : decide (x.data < 0) = false := by simp; omega
 have q2 : decide (x.data ≥ (to.length : Int)) = false := by simp; omega
 obtain ⟨nd, hd⟩ := at_in h1.1 h1.2
 by_cases h2 : x.vars.length = old.vs.length
 case neg =>
  have hn : ¬ ShapP old to x := by
   rintro ⟨nd, g, g2, _⟩; exact h2 g2
  rw [decide_eq_false hn] at hQ
  have q3 : ((x.vars.length : Int) != (old.vs.length : Int)) = true := by simp; omega
  repeat' (first | apply nx | refine Kq_exit_ne (by decide) ?_ | rw [wrap64 (by omega) (by omega)] | ((first | refine hK _ ?_ | refine hKp _ _ ?_); clear hK hKp K Kp; try clear hanc anc) | ((with_reducible refine And.intro ?_ ?_); (focus (first | trivial | omega | (simp only [Fits]; omega) | assumption | (rw [hanc]; rfl)))) | ((first | refine K_regA hE fun K Kp hK hKp => ?_ | refine K_drwA true mixed hE fun K Kp hK hKp anc hanc => ?_ | refine K_drwA false mixed hE fun K Kp hK hKp anc hanc => ?_); simp only [go_sem, q1, q2, q3]) | ((first | refine onG_split_t (fun hg => ?_) (fun hg => ?_) | refine onG_split_f (fun hg => ?_) (fun hg => ?_)) <;> simp only [go_sem, q1, q2, q3, hg]) | (refine K_condA (fun hc => ?_) (fun hc => ?_) <;> try (exact absurd hc (by decide))))
  refine K_ret (hQ _ ⟨.bool false, (by simp [resA, rvA, Try.f26, go_sem]; rfl), (by simp [AV.snapOk, AV.snapOkL, go_sem]), (by rfl), (by first | rfl | simp [AV.clo, AV.cloL, go_sem])⟩).1
 have q3 : ((x.vars.length : Int) != (old.vs.length : Int)) = false := by simp [h2]
 by_cases h3 : x.fss.length = old.vs.length
 case neg =>
  have hn : ¬ ShapP old to x := by
   rintro ⟨nd, g, _, g2, _⟩; exact h3 g2
  rw [decide_eq_false hn] at hQ
  have q4 : ((x.fss.length : Int) != (old.vs.length : Int)) = true := by simp; omega
  repeat' (first | apply nx | refine Kq_exit_ne (by decide) ?_ | rw [wrap64 (by omega) (by omega)] | ((first | refine hK _ ?_ | refine hKp _ _ ?_); clear hK hKp K Kp; try clear hanc anc) | ((with_reducible refine And.intro ?_ ?_); (focus (first | trivial | omega | (simp only [Fits]; omega) | assumption | (rw [hanc]; rfl)))) | ((first | refine K_regA hE fun K Kp hK hKp => ?_ | refine K_drwA true mixed hE fun K Kp hK hKp anc hanc => ?_ | refine K_drwA false mixed hE fun K Kp hK hKp anc hanc => ?_); simp only [go_sem, q1, q2, q3, q4]) | ((first | refine onG_split_t (fun hg => ?_) (fun hg => ?_) | refine onG_split_f (fun hg => ?_) (fun hg => ?_)) <;> simp only [go_sem, q1, q2, q3, q4, hg]) | (refine K_condA (fun hc => ?_) (fun hc => ?_) <;> try (exact absurd hc (by decide))))
  refine K_ret (hQ _ ⟨.bool false, (by simp [resA, rvA, Try.f26, go_sem]; rfl), (by simp [AV.snapOk, AV.snapOkL, go_sem]), (by rfl), (by first | rfl | simp [AV.clo, AV.cloL, go_sem])⟩).1
 have q4 : ((x.fss.length : Int) != (old.vs.length : Int)) = false := by simp [h3]
 have hsi := shap_iff hd h2 h3
 have hw2 : WF (mkHp [(0, .cells [.sl (ddl to)]), (1, .cells x.cs)]) 2 := WF.of_list (by decide) (by simp [AObj.ids, AV.ids, AV.idsL, go_sem, Mg.cs]) (fun id hid => by
  rcases (by omega : id = 0 ∨ id = 1) with rfl | rfl <;> simp [mkHp, updo])
 have hall := all46_hc x.vars 47 [.ptr 0 0, .ptr 1 0] _ 2 (inB nd.vs.length) (by simp [AV.idsL, AV.ids]) hw2 (by decide) hv (fun v _ => c47_hc to x nd v _ 2 0 1 hw2 rfl rfl hd)
 repeat' (first | apply nx | refine Kq_exit_ne (by decide) ?_ | rw [wrap64 (by omega) (by omega)] | ((first | refine hK _ ?_ | refine hKp _ _ ?_); clear hK hKp K Kp; try clear hanc anc) | ((with_reducible refine And.intro ?_ ?_); (focus (first | trivial | omega | (simp only [Fits]; omega) | assumption | (rw [hanc]; rfl)))) | ((first | refine K_regA hE fun K Kp hK hKp => ?_ | refine K_drwA true mixed hE fun K Kp hK hKp anc hanc => ?_ | refine K_drwA false mixed hE fun K Kp hK hKp anc hanc => ?_); simp only [go_sem, q1, q2, q3, q4]) | ((first | refine onG_split_t (fun hg => ?_) (fun hg => ?_) | refine onG_split_f (fun hg => ?_) (fun hg => ?_)) <;> simp only [go_sem, q1, q2, q3, q4, hg]) | (refine K_condA (fun hc => ?_) (fun hc => ?_) <;> try (exact absurd hc (by decide))))
 refine Hold.mk (HC.use hall (fun i => if i = 0 then 1048576 else 2097152) (by simp [AV.renL, AV.ren, go_sem]) (by simp [go_sem, AV.idsL, AV.ids]) (mkHp_allP (by simp [go_sem, AObj.ren, AV.renL, AV.ren, Mg.cs])) (fun i j h1 h2 (e : (if i = 0 then 1048576 else 2097152) = (if j = 0 then 1048576 else 2097152)) => by split at e <;> split at e <;> omega) ?_)
 intro hpn hold
 have g0 := hold 0 (.cells [.str old.nm, .i old.md, .i old.pr, .sl (dvl old.vs), .i old.dr]) (by simp [go_sem])
 have g1 := hold 1048576 (.cells [.sl (ddl to)]) (by simp [go_sem])
 have g2 := hold 2097152 (.cells [.i x.data, .sl (il x.vars), .sl (ill x.fss)]) (by simp [go_sem])
 have g3 := hold 3145728 (.cells [.bool false]) (by simp [go_sem])
 cases hal : x.vars.all (inB nd.vs.length)
 ·simp only [go_sem, hal]
  refine hK _ ?_; clear hK hKp K Kp; try clear hanc anc
  repeat (first | refine Kq_norm_code ?_ | refine Kq_norm_blk ?_ | refine Kq_norm_lp ?_)
  have hn : ¬ ShapP old to x := by
   rw [hsi]
   intro h
   rw [List.all_eq_false] at hal
   obtain ⟨v, hv1, hv2⟩ := hal
   obtain ⟨k, hk⟩ := List.getElem?_of_mem hv1
   have hkl := (List.getElem?_eq_some_iff.1 hk).1
   obtain ⟨ov, hov⟩ := get?_of (show k < old.vs.length by omega)
   obtain ⟨f, hf⟩ := get?_of (show k < x.fss.length by omega)
   obtain ⟨nv, g, _⟩ := h k hkl v ov f hk hov hf
   apply hv2
   obtain ⟨i, rfl, hi⟩ := at_some g
   have := (List.getElem?_eq_some_iff.1 hi).1
   simp [inB, this]
  rw [decide_eq_false hn] at hQ
  repeat' (first | apply nx | refine Kq_exit_ne (by decide) ?_ | rw [wrap64 (by omega) (by omega)] | ((first | refine hK _ ?_ | refine hKp _ _ ?_); clear hK hKp K Kp; try clear hanc anc) | ((with_reducible refine And.intro ?_ ?_); (focus (first | trivial | omega | (simp only [Fits]; omega) | assumption | (rw [hanc]; rfl)))) | ((first | refine K_regA hE fun K Kp hK hKp => ?_ | refine K_drwA true mixed hE fun K Kp hK hKp anc hanc => ?_ | refine K_drwA false mixed hE fun K Kp hK hKp anc hanc => ?_); simp only [go_sem, g3]) | ((first | refine onG_split_t (fun hg => ?_) (fun hg => ?_) | refine onG_split_f (fun hg => ?_) (fun hg => ?_)) <;> simp only [go_sem, g3, hg]) | (refine K_condA (fun hc => ?_) (fun hc => ?_) <;> try (exact absurd hc (by decide))))
  refine K_ret (hQ _ ⟨.bool false, (by simp [resA, rvA, Try.f26, go_sem, g3]; rfl), (by simp [AV.snapOk, AV.snapOkL, go_sem, g3]), (by rfl), (by first | rfl | simp [AV.clo, AV.cloL, go_sem, g3])⟩).1
 simp only [go_sem, hal]
 refine hK _ ?_; clear hK hKp K Kp; try clear hanc anc
 repeat (first | refine Kq_norm_code ?_ | refine Kq_norm_blk ?_ | refine Kq_norm_lp ?_)
 rw [List.all_eq_true] at hal
 have hmo : MvOk old nd to x := ⟨hd, h2, hv, fun v hv1 => by
  have := hal v hv1
  unfold inB at this
  rw [Bool.and_eq_true, decide_eq_true_eq, decide_eq_true_eq] at this
  exact at_in this.1 this.2⟩
 repeat' (first | apply nx | refine Kq_exit_ne (by decide) ?_ | rw [wrap64 (by omega) (by omega)] | ((first | refine hK _ ?_ | refine hKp _ _ ?_); clear hK hKp K Kp; try clear hanc anc) | ((with_reducible refine And.intro ?_ ?_); (focus (first | trivial | omega | (simp only [Fits]; omega) | assumption | (rw [hanc]; rfl)))) | ((first | refine K_regA hE fun K Kp hK hKp => ?_ | refine K_drwA true mixed hE fun K Kp hK hKp anc hanc => ?_ | refine K_drwA false mixed hE fun K Kp hK hKp anc hanc => ?_); simp only [go_sem, g0, g1, g2]) | ((first | refine onG_split_t (fun hg => ?_) (fun hg => ?_) | refine onG_split_f (fun hg => ?_) (fun hg => ?_)) <;> simp only [go_sem, g0, g1, g2, hg]) | (refine K_condA (fun hc => ?_) (fun hc => ?_) <;> try (exact absurd hc (by decide))))
 refine Hold.mk (CallB.newP hmv (by simp [AV.cloL, AV.clo]) (by simp [AV.ids, AV.idsL]) (by intro p hp; simp only [List.mem_cons, List.not_mem_nil, or_false] at hp; rcases hp with rfl | rfl | rfl <;> exact ⟨by simp, by simp [AObj.ids, Dd.cs, Mg.cs, AV.ids, AV.idsL, go_sem]⟩) ?_)
 simp only [go_sem, AObj.ren, Dd.cs, Mg.cs]
 refine hK _ ?_; clear hK hKp K Kp; try clear hanc anc
 repeat (first | refine Kq_norm_code ?_ | refine Kq_norm_blk ?_ | refine Kq_norm_lp ?_)
 refine AW.ent (σ' := ⟨mkFr [(5, .ptr 0 0), (6, .ptr 1 0), (46, .fn (.func 54) [] [.ptr 2 0, .ptr 3 0, .ptr 4 0])], sObj old to x (), 1000000⟩) (fun i => if i = 0 then 2097152 else if i = 1 then 3145728 else if i = 2 then 41943042 else if i = 3 then 41943040 else 41943041) (by
  show Ent _ _ _ (mkSt [(5, .ptr 0 0), (6, .ptr 1 0), (46, .fn (.func 54) [] [.ptr 2 0, .ptr 3 0, .ptr 4 0])] [(0, .cells x.cs), (1, .cells [.bool false]), (2, .cells x.cs), (3, .cells old.cs), (4, .cells [.sl (ddl to)])] 1000000)
  exact ent_mk (by simp [go_sem, AV.ids, AV.idsL]) (by simp [go_sem, g2, g3, Mg.cs, Dd.cs]) (by simp) (by simp [hN])) ?_
 clear hold g0 g1 g2 g3
 refine K_blk ?_
 refine AW_iter hM (moves_iter hmo 3 4 2) (sObj old to x) 5 (by decide) (by rw [hN]; decide) (by simp [AV.idsL, AV.ids]) (by simp) (fun _ => by simp [sObj, mkHp, updo]) (fun s id o ho => ?_) (fun s id hid => ?_) [(5, .ptr 0 0), (6, .ptr 1 0), (46, .fn (.func 54) [] [.ptr 2 0, .ptr 3 0, .ptr 4 0])] (by simp [AV.ids, AV.idsL]) (by simp [go_sem]) (by simp [go_sem]) [5, 6] [.ptr 0 0, .ptr 1 0]
  (by intro i hi; match i, hi with | 0, _ => rfl | 1, _ => rfl | i + 2, h => simp at h; omega) (by simp [AV.idsL, AV.ids]) (fun y hy => by rw [ysM_mem hy]; rfl) (by rw [hE]; decide)
  (fun i _ => ∀ k, k < i → okV old nd x k) (fun c _ => c = none ∧ ¬ ShapP old to x) (fun _ _ => False) (fun _ _ h => h.elim) ?_ () (fun k hk => absurd hk (Nat.not_lt_zero _)) ?_ ?_ (fun _ _ _ _ h => h.elim)
 ·revert ho
  exact mkHp_allP (p := fun id o => (id < 1000000 ∧ id ≠ 5) ∧ o.ids (fun j => j < 1000000 ∧ j ≠ 5)) (by simp [AObj.ids, AV.ids, AV.idsL, go_sem, Mg.cs, Dd.cs]) id o
 ·rcases (by omega : id = 0 ∨ id = 1 ∨ id = 2 ∨ id = 3 ∨ id = 4) with rfl | rfl | rfl | rfl | rfl <;> simp [sObj, mkHp, updo]
 ·intro l fnn i y s E' Q' hi hy hE' hN' hnorm hleft hpan
  obtain ⟨v, ov, nv, hv1, hov, hnv, rfl⟩ := ysM_inv hmo hy
  obtain ⟨f, hf⟩ := get?_of (show i < x.fss.length by have := (List.getElem?_eq_some_iff.1 hov).1; omega)
  have hff := hfl f (List.mem_of_getElem? hf)
  have hdc := diff_call f ov.fs.length hff
  have hsm := small_call f hff
  have ho0 : sObj old to x s 0 = some (.cells x.cs) := rfl
  have ho1 : sObj old to x s 1 = some (.cells [.bool false]) := rfl
  have ho2 : sObj old to x s 2 = some (.cells x.cs) := rfl
  have ho3 : sObj old to x s 3 = some (.cells old.cs) := rfl
  have ho4 : sObj old to x s 4 = some (.cells [.sl (ddl to)]) := rfl
  have hkey : okV old nd x i ↔ (f.length = nv.fs.length ∧ diffB f ov.fs.length = true ∧ f.all smallB = true) := by
   constructor
   ·intro h
    obtain ⟨nv', k1, k2, k3, k4⟩ := h v ov f hv1 hov hf
    rw [hnv] at k1
    cases k1
    exact ⟨k2, k3, by rw [List.all_eq_true]; intro j hj; simpa [smallB] using k4 j hj⟩
   ·rintro ⟨k2, k3, k4⟩ v' ov' f' a b c
    rw [hv1] at a; rw [hov] at b; rw [hf] at c
    cases a; cases b; cases c
    rw [List.all_eq_true] at k4
    exact ⟨nv, hnv, k2, k3, fun j hj => by simpa [smallB] using k4 j hj⟩
  have hbad : ¬ okV old nd x i → ¬ ShapP old to x := fun h h' => h (hsi.1 h' i (List.getElem?_eq_some_iff.1 hv1).1)
  unfold RoundG
  refine K_start ?_
  show AW Try.prog E' _ _ ⟨upd (upd (mkFr [(5, .ptr 0 0), (6, .ptr 1 0)]) 47 (.i i)) 48 (.agg [.sl (Ty.avL ov.fs), .sl (Ty.avL nv.fs)]), updo (sObj old to x s) 5 _, 1000000⟩
  rw [hE] at hE'
  replace hE := hE'
  repeat' (first | apply nx | refine Kq_exit_ne (by decide) ?_ | rw [wrap64 (by omega) (by omega)] | ((first | refine hK _ ?_ | refine hKp _ _ ?_); clear hK hKp K Kp; try clear hanc anc) | ((with_reducible refine And.intro ?_ ?_); (focus (first | trivial | omega | (simp only [Fits]; omega) | assumption | (rw [hanc]; rfl)))) | ((first | refine K_regA hE fun K Kp hK hKp => ?_ | refine K_drwA true mixed hE fun K Kp hK hKp anc hanc => ?_ | refine K_drwA false mixed hE fun K Kp hK hKp anc hanc => ?_); simp only [go_sem]) | ((first | refine onG_split_t (fun hg => ?_) (fun hg => ?_) | refine onG_split_f (fun hg => ?_) (fun hg => ?_)) <;> simp only [go_sem, hg]) | (refine K_condA (fun hc => ?_) (fun hc => ?_) <;> try (exact absurd hc (by decide))))
  refine Kq_norm_nil ?_
  refine ⟨[.ptr 0 0, .ptr 1 0], by simp [updo], K_start ?_⟩
  show AW Try.prog E' _ _ ⟨_, _, 4145728⟩
  by_cases c1 : f.length = nv.fs.length
  case neg =>
   have q1 : ((f.length : Int) != (nv.fs.length : Int)) = true := by simp; omega
   repeat' (first | apply nx | refine Kq_exit_ne (by decide) ?_ | rw [wrap64 (by omega) (by omega)] | ((first | refine hK _ ?_ | refine hKp _ _ ?_); clear hK hKp K Kp; try clear hanc anc) | ((with_reducible refine And.intro ?_ ?_); (focus (first | trivial | omega | (simp only [Fits]; omega) | assumption | (rw [hanc]; rfl)))) | ((first | refine K_regA hE fun K Kp hK hKp => ?_ | refine K_drwA true mixed hE fun K Kp hK hKp anc hanc => ?_ | refine K_drwA false mixed hE fun K Kp hK hKp anc hanc => ?_); simp only [go_sem, ho0, ho1, Mg.cs, hf, q1]) | ((first | refine onG_split_t (fun hg => ?_) (fun hg => ?_) | refine onG_split_f (fun hg => ?_) (fun hg => ?_)) <;> simp only [go_sem, ho0, ho1, Mg.cs, hf, q1, hg]) | (refine K_condA (fun hc => ?_) (fun hc => ?_) <;> try (exact absurd hc (by decide))))
   refine K_ret ?_
   show leftQ Q' none _
   refine hleft _ () (fun i => i) none ⟨rfl, hbad (by rw [hkey]; rintro ⟨a1, a2, a3⟩; exact c1 a1)⟩ (ent_fam (by simp [updo, ho0, ho1, ho2, ho3, ho4, AObj.ids, AV.ids, AV.idsL, go_sem, Mg.cs, Dd.cs]) (by simp [updo]) (by decide) (by simp [AObj.ids, AV.ids, AV.idsL]) (by decide))
  have q1 : ((f.length : Int) != (nv.fs.length : Int)) = false := by simp [c1]
  cases q2 : diffB f ov.fs.length
  ·rw [q2] at hdc
   repeat' (first | apply nx | refine Kq_exit_ne (by decide) ?_ | rw [wrap64 (by omega) (by omega)] | ((first | refine hK _ ?_ | refine hKp _ _ ?_); clear hK hKp K Kp; try clear hanc anc) | ((with_reducible refine And.intro ?_ ?_); (focus (first | trivial | omega | (simp only [Fits]; omega) | assumption | (rw [hanc]; rfl)))) | ((first | refine K_regA hE fun K Kp hK hKp => ?_ | refine K_drwA true mixed hE fun K Kp hK hKp anc hanc => ?_ | refine K_drwA false mixed hE fun K Kp hK hKp anc hanc => ?_ | ((first | apply CallP_mk | apply CallB_mk); (focus (simp only [go_sem] <;> rfl)); (focus (exact hdc)); (focus (first | (simp [go_sem]; done) | (simp [go_sem, CloRow, AV.cells, AV.clo]; done))); (focus (first | exact .inl rfl | (right; simp [go_sem]))))); simp only [go_sem, ho0, ho1, Mg.cs, hf, q1]) | ((first | refine onG_split_t (fun hg => ?_) (fun hg => ?_) | refine onG_split_f (fun hg => ?_) (fun hg => ?_)) <;> simp only [go_sem, ho0, ho1, Mg.cs, hf, q1, hg]) | (refine K_condA (fun hc => ?_) (fun hc => ?_) <;> try (exact absurd hc (by decide))))
   refine K_ret ?_
   show leftQ Q' none _
   refine hleft _ () (fun i => i) none ⟨rfl, hbad (by rw [hkey]; rintro ⟨a1, a2, a3⟩; rw [q2] at a2; cases a2)⟩ (ent_fam (by simp [updo, ho0, ho1, ho2, ho3, ho4, AObj.ids, AV.ids, AV.idsL, go_sem, Mg.cs, Dd.cs]) (by simp [updo]) (by decide) (by simp [AObj.ids, AV.ids, AV.idsL]) (by decide))
  rw [q2] at hdc
  cases q3 : f.all smallB
  ·rw [q3] at hsm
   repeat' (first | apply nx | refine Kq_exit_ne (by decide) ?_ | rw [wrap64 (by omega) (by omega)] | ((first | refine hK _ ?_ | refine hKp _ _ ?_); clear hK hKp K Kp; try clear hanc anc) | ((with_reducible refine And.intro ?_ ?_); (focus (first | trivial | omega | (simp only [Fits]; omega) | assumption | (rw [hanc]; rfl)))) | ((first | refine K_regA hE fun K Kp hK hKp => ?_ | refine K_drwA true mixed hE fun K Kp hK hKp anc hanc => ?_ | refine K_drwA false mixed hE fun K Kp hK hKp anc hanc => ?_ | ((first | apply CallP_mk | apply CallB_mk); (focus (simp only [go_sem] <;> rfl)); (focus (first | exact hdc | exact hsm)); (focus (first | (simp [go_sem]; done) | (simp [go_sem, CloRow, AV.cells, AV.clo]; done))); (focus (first | exact .inl rfl | (right; simp [go_sem]))))); simp only [go_sem, ho0, ho1, Mg.cs, hf, q1]) | ((first | refine onG_split_t (fun hg => ?_) (fun hg => ?_) | refine onG_split_f (fun hg => ?_) (fun hg => ?_)) <;> simp only [go_sem, ho0, ho1, Mg.cs, hf, q1, hg]) | (refine K_condA (fun hc => ?_) (fun hc => ?_) <;> try (exact absurd hc (by decide))))
   refine K_ret ?_
   show leftQ Q' none _
   refine hleft _ () (fun i => i) none ⟨rfl, hbad (by rw [hkey]; rintro ⟨a1, a2, a3⟩; rw [q3] at a3; cases a3)⟩ (ent_fam (by simp [updo, ho0, ho1, ho2, ho3, ho4, AObj.ids, AV.ids, AV.idsL, go_sem, Mg.cs, Dd.cs]) (by simp [updo]) (by decide) (by simp [AObj.ids, AV.ids, AV.idsL]) (by decide))
  ·rw [q3] at hsm
   repeat' (first | apply nx | refine Kq_exit_ne (by decide) ?_ | rw [wrap64 (by omega) (by omega)] | ((first | refine hK _ ?_ | refine hKp _ _ ?_); clear hK hKp K Kp; try clear hanc anc) | ((with_reducible refine And.intro ?_ ?_); (focus (first | trivial | omega | (simp only [Fits]; omega) | assumption | (rw [hanc]; rfl)))) | ((first | refine K_regA hE fun K Kp hK hKp => ?_ | refine K_drwA true mixed hE fun K Kp hK hKp anc hanc => ?_ | refine K_drwA false mixed hE fun K Kp hK hKp anc hanc => ?_ | ((first | apply CallP_mk | apply CallB_mk); (focus (simp only [go_sem] <;> rfl)); (focus (first | exact hdc | exact hsm)); (focus (first | (simp [go_sem]; done) | (simp [go_sem, CloRow, AV.cells, AV.clo]; done))); (focus (first | exact .inl rfl | (right; simp [go_sem]))))); simp only [go_sem, ho0, ho1, Mg.cs, hf, q1]) | ((first | refine onG_split_t (fun hg => ?_) (fun hg => ?_) | refine onG_split_f (fun hg => ?_) (fun hg => ?_)) <;> simp only [go_sem, ho0, ho1, Mg.cs, hf, q1, hg]) | (refine K_condA (fun hc => ?_) (fun hc => ?_) <;> try (exact absurd hc (by decide))))
   repeat (first | refine Kq_norm_blk ?_ | refine Kq_norm_nil ?_)
   refine hnorm _ () (fun i => i) (fun k hk => ?_) (ent_fam (by simp [updo, ho0, ho1, ho2, ho3, ho4, AObj.ids, AV.ids, AV.idsL, go_sem, Mg.cs, Dd.cs]) (by simp [updo]) (by decide) (by simp [AObj.ids, AV.ids, AV.idsL]) (by decide))
   by_cases e : k = i
   ·subst e; exact hkey.2 ⟨c1, q2, q3⟩
   ·exact hi k (by omega)
 ·intro σ s m hi he
  rw [ysM_len] at hi
  have hS : ShapP old to x := hsi.2 hi
  rw [decide_eq_true hS] at hQ
  refine Kq_norm_blk (Kq_norm_code (AW.ent m he ?_))
  have ho1 : sObj old to x s 1 = some (.cells [.bool false]) := rfl
  repeat' (first | apply nx | refine Kq_exit_ne (by decide) ?_ | rw [wrap64 (by omega) (by omega)] | ((first | refine hK _ ?_ | refine hKp _ _ ?_); clear hK hKp K Kp; try clear hanc anc) | ((with_reducible refine And.intro ?_ ?_); (focus (first | trivial | omega | (simp only [Fits]; omega) | assumption | (rw [hanc]; rfl)))) | ((first | refine K_regA hE fun K Kp hK hKp => ?_ | refine K_drwA true mixed hE fun K Kp hK hKp anc hanc => ?_ | refine K_drwA false mixed hE fun K Kp hK hKp anc hanc => ?_); simp only [go_sem, ho1]) | ((first | refine onG_split_t (fun hg => ?_) (fun hg => ?_) | refine onG_split_f (fun hg => ?_) (fun hg => ?_)) <;> simp only [go_sem, ho1, hg]) | (refine K_condA (fun hc => ?_) (fun hc => ?_) <;> try (exact absurd hc (by decide))))
  refine K_ret (hQ _ ⟨.bool true, (by simp [resA, rvA, Try.f26, go_sem, ho1]; rfl), (by simp [AV.snapOk, AV.snapOkL, go_sem, ho1]), (by rfl), (by first | rfl | simp [AV.clo, AV.cloL, go_sem, ho1])⟩).1
 ·rintro σ s m c ⟨rfl, hn⟩ he
  rw [decide_eq_false hn] at hQ
  have h6 := he.1 6 (.ptr 1 0) rfl
  have h1' := (he.2.1 1 (.cells [.bool false]) rfl).1
  simp only [AV.ren, AObj.ren, AV.renL] at h6 h1'
  show Kq _ _ _ _ .ret σ
  refine Kq_ret_cons (Kq_ret_cons (Kq_ret_nil ?_))
  exact (hQ _ ⟨.bool false, by simp [resA, rvA, Try.f26, go_sem, h6, h1']; rfl, by simp [AV.snapOk], rfl, rfl⟩).1
end Go.Proofs.Ytlhhahocjfgmdaa

set_option linter.unusedSimpArgs false
set_option linter.unusedVariables false
set_option maxHeartbeats 4000000
set_option maxRecDepth 100000
namespace Go.Proofs.Ytlhhahocjfgmdaa
open Go.Am Go.Proofs Go.Hv Go.Mv
open Classical
attribute [local irreducible] AW CallP CallB CallY
def tObj (old : Dd) (to : List Dd) (l : List Mg) (x : Mg) : Unit → Nat → Option AObj := fun _ => mkHp [(0, .cells x.cs), (1, .cells [.sl (mgl l)]), (2, .cells [.bool false]), (3, .cells x.cs), (4, .cells old.cs), (5, .cells [.sl (ddl to)])]
theorem typed_call (old : Dd) (to : List Dd) (l : List Mg) (x : Mg) (hS : ShapP old to x) (hv : x.vars.length ≤ 2 ^ 40) (ho : ∀ ov, ov ∈ old.vs → ∀ t, t ∈ ov.fs → t.sz < 2 ^ 40) (hn : ∀ nd, nd ∈ to → ∀ nv, nv ∈ nd.vs → nv.fs.length ≤ 2 ^ 40 ∧ ∀ t, t ∈ nv.fs → t.sz < 2 ^ 40) :
    PCall Try.prog 27 [old.av, .sl (ddl to), .sl (mgl l), x.av] (.bool (decide (TypP old to l x))) := by
  obtain ⟨nd, hF⟩ := shap_f hS
  have hti := typ_iff (old := old) (l := l) hF.at_
  have hmo : MvOk old nd to x := ⟨hF.at_, hF.l1, hv, fun v h => hF.var h⟩
  have hndm : nd ∈ to := by obtain ⟨i, _, hi⟩ := at_some hF.at_; exact List.mem_of_getElem? hi
  have hmv := moves_nc old to x
  rw [Dd.av_eq, Mg.av_eq] at *
  refine PCall.introM Try.func27 rfl isf27 (by simp [Try.f27]) (by simp [AV.cloL, AV.clo]) fun E Q hE hN hM hQ => K_start ?_
  repeat' (first | apply nx | refine Kq_exit_ne (by decide) ?_ | rw [wrap64 (by omega) (by omega)] | ((first | refine hK _ ?_ | refine hKp _ _ ?_); clear hK hKp K Kp; try clear hanc anc) | ((with_reducible refine And.intro ?_ ?_); (focus (first | trivial | omega | (simp only [Fits]; omega) | assumption | (rw [hanc]; rfl)))) | ((first | refine K_regA hE fun K Kp hK hKp => ?_ | refine K_drwA true mixed hE fun K Kp hK hKp anc hanc => ?_ | refine K_drwA false mixed hE fun K Kp hK hKp anc hanc => ?_); simp only [go_sem]) | ((first | refine onG_split_t (fun hg => ?_) (fun hg => ?_) | refine onG_split_f (fun hg => ?_) (fun hg => ?_)) <;> simp only [go_sem, hg]) | (refine K_condA (fun hc => ?_) (fun hc => ?_) <;> try (exact absurd hc (by decide))))
  refine Hold.mk (CallB.newP hmv (by simp [AV.cloL, AV.clo]) (by simp [AV.ids, AV.idsL]) (by intro p hp; simp only [List.mem_cons, List.not_mem_nil, or_false] at hp; rcases hp with rfl | rfl | rfl <;> exact ⟨by simp, by simp [AObj.ids, Dd.cs, Mg.cs, AV.ids, AV.idsL, go_sem]⟩) ?_)
  simp only [go_sem, AObj.ren, Dd.cs, Mg.cs]
  refine hK _ ?_; clear hK hKp K Kp; try clear hanc anc
  repeat (first | refine Kq_norm_code ?_ | refine Kq_norm_blk ?_ | refine Kq_norm_lp ?_)
  refine AW.ent (σ' := ⟨mkFr [(6, .ptr 1 0), (7, .ptr 0 0), (8, .ptr 2 0), (18, .fn (.func 54) [] [.ptr 3 0, .ptr 4 0, .ptr 5 0])], tObj old to l x (), 1000000⟩) (fun i => if i = 0 then 2097152 else if i = 1 then 1048576 else if i = 2 then 3145728 else if i = 3 then 7340034 else if i = 4 then 7340032 else 7340033) (by
    show Ent _ _ _ (mkSt [(6, .ptr 1 0), (7, .ptr 0 0), (8, .ptr 2 0), (18, .fn (.func 54) [] [.ptr 3 0, .ptr 4 0, .ptr 5 0])] [(0, .cells x.cs), (1, .cells [.sl (mgl l)]), (2, .cells [.bool false]), (3, .cells x.cs), (4, .cells old.cs), (5, .cells [.sl (ddl to)])] 1000000)
    exact ent_mk (by simp [go_sem, AV.ids, AV.idsL]) (by simp [go_sem, Mg.cs, Dd.cs]) (by simp) (by simp [hN])) ?_
  refine K_blk ?_
  refine AW_iter hM (moves_iter hmo 4 5 3) (tObj old to l x) 6 (by decide) (by rw [hN]; decide) (by simp [AV.idsL, AV.ids]) (by simp) (fun _ => by simp [tObj, mkHp, updo]) (fun s id o ho => ?_) (fun s id hid => ?_) [(6, .ptr 1 0), (7, .ptr 0 0), (8, .ptr 2 0), (18, .fn (.func 54) [] [.ptr 3 0, .ptr 4 0, .ptr 5 0])] (by simp [AV.ids, AV.idsL]) (by simp [go_sem]) (by simp [go_sem]) [6, 7, 8] [.ptr 1 0, .ptr 0 0, .ptr 2 0]
    (by intro i hi; match i, hi with | 0, _ => rfl | 1, _ => rfl | 2, _ => rfl | i + 3, h => simp at h; omega) (by simp [AV.idsL, AV.ids]) (fun y hy => by rw [ysM_mem hy]; rfl) (by rw [hE]; decide)
    (fun i _ => ∀ k, k < i → okT old nd l x k) (fun c _ => c = none ∧ ¬ TypP old to l x) (fun _ _ => False) (fun _ _ h => h.elim) ?_ () (fun k hk => absurd hk (Nat.not_lt_zero _)) ?_ ?_ (fun _ _ _ _ h => h.elim)
  · revert ho
    exact mkHp_allP (p := fun id o => (id < 1000000 ∧ id ≠ 6) ∧ o.ids (fun j => j < 1000000 ∧ j ≠ 6)) (by simp [AObj.ids, AV.ids, AV.idsL, go_sem, Mg.cs, Dd.cs]) id o
  · rcases (by omega : id = 0 ∨ id = 1 ∨ id = 2 ∨ id = 3 ∨ id = 4 ∨ id = 5) with rfl | rfl | rfl | rfl | rfl | rfl <;> simp [tObj, mkHp, updo]
  · intro ll fnn i y s E' Q' hi hy hE' hN' hnorm hleft hpan
    obtain ⟨v, ov, nv, hv1, hov, hnv, rfl⟩ := ysM_inv hmo hy
    have hil := (List.getElem?_eq_some_iff.1 hv1).1
    obtain ⟨f, hf⟩ := get?_of (show i < x.fss.length by have := hF.l1; have := hF.l2; omega)
    obtain ⟨nv', k1, hfl, hdf, _⟩ := hF.ok i v ov f hv1 hov hf
    rw [hnv] at k1
    cases k1
    have hnvm : nv ∈ nd.vs := by obtain ⟨a, _, ha⟩ := at_some hnv; exact List.mem_of_getElem? ha
    have hnn := hn nd hndm nv hnvm
    have hoo := ho ov (List.mem_of_getElem? hov)
    have ho0 : tObj old to l x s 0 = some (.cells x.cs) := rfl
    have ho1 : tObj old to l x s 1 = some (.cells [.sl (mgl l)]) := rfl
    have ho2 : tObj old to l x s 2 = some (.cells [.bool false]) := rfl
    have ho3 : tObj old to l x s 3 = some (.cells x.cs) := rfl
    have ho4 : tObj old to l x s 4 = some (.cells old.cs) := rfl
    have ho5 : tObj old to l x s 5 = some (.cells [.sl (ddl to)]) := rfl
    have hbad : ¬ okT old nd l x i → ¬ TypP old to l x := fun h h' => h (hti.1 h' i hil)
    have hkey : okT old nd l x i ↔ ∀ (j : Nat) t m, nv.fs[j]? = some t → f[j]? = some m → t = wantT l ov m := by
      constructor
      · intro h j t m h1 h2; exact h v ov f nv hv1 hov hf hnv j t m h1 h2
      · intro h v' ov' f' nv' a b c e
        rw [hv1] at a; rw [hov] at b; rw [hf] at c
        cases a; cases b; cases c
        rw [hnv] at e; cases e
        exact h
    unfold RoundG
    refine K_start ?_
    show AW Try.prog E' _ _ ⟨upd (upd (mkFr [(6, .ptr 1 0), (7, .ptr 0 0), (8, .ptr 2 0)]) 19 (.i i)) 20 (.agg [.sl (Ty.avL ov.fs), .sl (Ty.avL nv.fs)]), updo (tObj old to l x s) 6 _, 1000000⟩
    rw [hE] at hE'
    replace hE := hE'
    replace hN := hN'
    repeat' (first | apply nx | refine Kq_exit_ne (by decide) ?_ | rw [wrap64 (by omega) (by omega)] | ((first | refine hK _ ?_ | refine hKp _ _ ?_); clear hK hKp K Kp; try clear hanc anc) | ((with_reducible refine And.intro ?_ ?_); (focus (first | trivial | omega | (simp only [Fits]; omega) | assumption | (rw [hanc]; rfl)))) | ((first | refine K_regA hE fun K Kp hK hKp => ?_ | refine K_drwA true mixed hE fun K Kp hK hKp anc hanc => ?_ | refine K_drwA false mixed hE fun K Kp hK hKp anc hanc => ?_); simp only [go_sem]) | ((first | refine onG_split_t (fun hg => ?_) (fun hg => ?_) | refine onG_split_f (fun hg => ?_) (fun hg => ?_)) <;> simp only [go_sem, hg]) | (refine K_condA (fun hc => ?_) (fun hc => ?_) <;> try (exact absurd hc (by decide))))
    refine Kq_norm_nil ?_
    refine ⟨[.ptr 1 0, .ptr 0 0, .ptr 2 0], by simp [updo], K_start ?_⟩
    show AW Try.prog E' _ _ ⟨_, _, 4145728⟩
    generalize hq : (⟨ll, fnn, #[19, 20], _, _, E.nt, [6, 7, 8], .busy, none⟩ : Lp) = q at *
    repeat' (first | apply nx | refine Kq_exit_ne (by decide) ?_ | rw [wrap64 (by omega) (by omega)] | ((first | refine hK _ ?_ | refine hKp _ _ ?_); clear hK hKp K Kp; try clear hanc anc) | ((with_reducible refine And.intro ?_ ?_); (focus (first | trivial | omega | (simp only [Fits]; omega) | assumption | (rw [hanc]; rfl)))) | ((first | refine K_regA hE fun K Kp hK hKp => ?_ | refine K_drwA true mixed hE fun K Kp hK hKp anc hanc => ?_ | refine K_drwA false mixed hE fun K Kp hK hKp anc hanc => ?_); simp only [go_sem]) | ((first | refine onG_split_t (fun hg => ?_) (fun hg => ?_) | refine onG_split_f (fun hg => ?_) (fun hg => ?_)) <;> simp only [go_sem, hg]) | (refine K_condA (fun hc => ?_) (fun hc => ?_) <;> try (exact absurd hc (by decide))))
    refine K_loop (X := Nat) (fun j => j ≤ nv.fs.length ∧ ∀ (a : Nat) t m, a < j → nv.fs[a]? = some t → f[a]? = some m → t = wantT l ov m) (fun j => mkSt [(6, .ptr 1 0), (7, .ptr 0 0), (8, .ptr 2 0), (9, .i i), (10, .ptr 2048576 0), (22, .sl (Ty.avL nv.fs)), (23, .i nv.fs.length), (24, AV.i j)]
      [(0, .cells [.i x.data, .sl (il x.vars), .sl (ill x.fss)]), (1, .cells [.sl (mgl l)]), (2, .cells [.bool false]), (3, .cells x.cs), (4, .cells old.cs), (5, .cells [.sl (ddl to)]), (6, .lp q [.ptr 1 0, .ptr 0 0, .ptr 2 0]), (2048576, .cells [.sl (Ty.avL ov.fs), .sl (Ty.avL nv.fs)])] 4145728)
      (fun j => nv.fs.length - j) 0 ⟨Nat.zero_le _, fun a t m h => absurd h (Nat.not_lt_zero _)⟩ (fun i => i) (ent_mk (by simp [go_sem]) (by simp [go_sem, ho0, ho1, ho2, ho3, ho4, ho5, Mg.cs, Dd.cs, AObj.ren, AObj.ids]) (by simp) (by simp [hN]; omega)) ?_
    rintro j ⟨hj, hok⟩
    by_cases hlt : j < nv.fs.length
    · obtain ⟨t, ht⟩ := get?_of hlt
      obtain ⟨m, hm⟩ := get?_of (show j < f.length by omega)
      have hts := hnn.2 t (List.mem_of_getElem? ht)
      have hc0 := same_call (2 ^ 40) t (wantT l ov m) hts (Nat.le_refl _)
      by_cases h0 : 0 ≤ m
      · obtain ⟨a, rfl⟩ := Int.eq_ofNat_of_zero_le h0
        have hal := diff_lt hdf hm
        obtain ⟨s', hs'⟩ := get?_of (show a < ov.fs.length by omega)
        have hct := type_call (2 ^ 40) s' l (hoo s' (List.mem_of_getElem? hs')) (Nat.le_refl _)
        have hw := wantT_nat l ov hs'
        rw [hw] at hc0
        rw [Ty.av_eq s', Ty.av_eq (tyM l s')] at hct
        rw [Ty.av_eq t, Ty.av_eq (tyM l s')] at hc0
        have q1 : decide ((a : Int) ≥ 0) = true := by simp
        by_cases he : t = tyM l s'
        · rw [decide_eq_true he] at hc0
          repeat' (first | apply nx | refine Kq_exit_ne (by decide) ?_ | rw [wrap64 (by omega) (by omega)] | ((first | refine hK _ ?_ | refine hKp _ _ ?_); clear hK hKp K Kp; try clear hanc anc) | ((with_reducible refine And.intro ?_ ?_); (focus (first | trivial | omega | (simp only [Fits]; omega) | assumption | (rw [hanc]; rfl)))) | ((first | refine K_regA hE fun K Kp hK hKp => ?_ | refine K_drwA true mixed hE fun K Kp hK hKp anc hanc => ?_ | refine K_drwA false mixed hE fun K Kp hK hKp anc hanc => ?_ | ((first | apply CallP_mk | apply CallB_mk); (focus (simp only [go_sem] <;> rfl)); (focus (first | exact hct | exact hc0)); (focus (first | (simp [go_sem]; done) | (simp [go_sem, CloRow, AV.cells, AV.clo]; done))); (focus (first | exact .inl rfl | (right; simp [go_sem]))))); simp only [go_sem, lt_dec hlt, ht, hf, hm, hs', q1, Ty.av_eq]) | ((first | refine onG_split_t (fun hg => ?_) (fun hg => ?_) | refine onG_split_f (fun hg => ?_) (fun hg => ?_)) <;> simp only [go_sem, lt_dec hlt, ht, hf, hm, hs', q1, Ty.av_eq, hg]) | (refine K_condA (fun hc => ?_) (fun hc => ?_) <;> try (exact absurd hc (by decide))))
          refine ⟨j + 1, ⟨by omega, fun b t' m' hb hbt hbm => ?_⟩, by omega, fun i => i, ent_mk (by simp [go_sem]) (by simp [go_sem, Mg.cs, Dd.cs, AObj.ren, AObj.ids]) (by simp) (by simp [hN]; omega)⟩
          by_cases e : b = j
          · subst e
            rw [ht] at hbt; rw [hm] at hbm
            cases hbt; cases hbm
            rw [hw]; exact he
          · exact hok b t' m' (by omega) hbt hbm
        · rw [decide_eq_false he] at hc0
          repeat' (first | apply nx | refine Kq_exit_ne (by decide) ?_ | rw [wrap64 (by omega) (by omega)] | ((first | refine hK _ ?_ | refine hKp _ _ ?_); clear hK hKp K Kp; try clear hanc anc) | ((with_reducible refine And.intro ?_ ?_); (focus (first | trivial | omega | (simp only [Fits]; omega) | assumption | (rw [hanc]; rfl)))) | ((first | refine K_regA hE fun K Kp hK hKp => ?_ | refine K_drwA true mixed hE fun K Kp hK hKp anc hanc => ?_ | refine K_drwA false mixed hE fun K Kp hK hKp anc hanc => ?_ | ((first | apply CallP_mk | apply CallB_mk); (focus (simp only [go_sem] <;> rfl)); (focus (first | exact hct | exact hc0)); (focus (first | (simp [go_sem]; done) | (simp [go_sem, CloRow, AV.cells, AV.clo]; done))); (focus (first | exact .inl rfl | (right; simp [go_sem]))))); simp only [go_sem, lt_dec hlt, ht, hf, hm, hs', q1, Ty.av_eq]) | ((first | refine onG_split_t (fun hg => ?_) (fun hg => ?_) | refine onG_split_f (fun hg => ?_) (fun hg => ?_)) <;> simp only [go_sem, lt_dec hlt, ht, hf, hm, hs', q1, Ty.av_eq, hg]) | (refine K_condA (fun hc => ?_) (fun hc => ?_) <;> try (exact absurd hc (by decide))))
          refine K_ret ?_
          show leftQ Q' none _
          refine hleft _ () (fun i => i) none ⟨rfl, hbad (by rw [hkey]; intro h; exact he ((h j t a ht hm).trans hw))⟩ (ent_fam (by simp [go_sem, AObj.ids, AV.ids, AV.idsL, Mg.cs, Dd.cs]) (by simp [go_sem]) (by decide) (by simp [AObj.ids, AV.ids, AV.idsL]) (by decide))
      · have q1 : decide (m ≥ 0) = false := by simpa using h0
        have hw := wantT_neg l ov (show m < 0 by omega)
        rw [hw, Ty.av_eq t, Ty.av, Ty.avL] at hc0
        by_cases he : t = .mk 1 0 []
        · rw [decide_eq_true he] at hc0
          repeat' (first | apply nx | refine Kq_exit_ne (by decide) ?_ | rw [wrap64 (by omega) (by omega)] | ((first | refine hK _ ?_ | refine hKp _ _ ?_); clear hK hKp K Kp; try clear hanc anc) | ((with_reducible refine And.intro ?_ ?_); (focus (first | trivial | omega | (simp only [Fits]; omega) | assumption | (rw [hanc]; rfl)))) | ((first | refine K_regA hE fun K Kp hK hKp => ?_ | refine K_drwA true mixed hE fun K Kp hK hKp anc hanc => ?_ | refine K_drwA false mixed hE fun K Kp hK hKp anc hanc => ?_ | ((first | apply CallP_mk | apply CallB_mk); (focus (simp only [go_sem] <;> rfl)); (focus (exact hc0)); (focus (first | (simp [go_sem]; done) | (simp [go_sem, CloRow, AV.cells, AV.clo]; done))); (focus (first | exact .inl rfl | (right; simp [go_sem]))))); simp only [go_sem, lt_dec hlt, ht, hf, hm, q1, Ty.av_eq]) | ((first | refine onG_split_t (fun hg => ?_) (fun hg => ?_) | refine onG_split_f (fun hg => ?_) (fun hg => ?_)) <;> simp only [go_sem, lt_dec hlt, ht, hf, hm, q1, Ty.av_eq, hg]) | (refine K_condA (fun hc => ?_) (fun hc => ?_) <;> try (exact absurd hc (by decide))))
          refine ⟨j + 1, ⟨by omega, fun b t' m' hb hbt hbm => ?_⟩, by omega, fun i => i, ent_mk (by simp [go_sem]) (by simp [go_sem, Mg.cs, Dd.cs, AObj.ren, AObj.ids]) (by simp) (by simp [hN]; omega)⟩
          by_cases e : b = j
          · subst e
            rw [ht] at hbt; rw [hm] at hbm
            cases hbt; cases hbm
            rw [hw]; exact he
          · exact hok b t' m' (by omega) hbt hbm
        · rw [decide_eq_false he] at hc0
          repeat' (first | apply nx | refine Kq_exit_ne (by decide) ?_ | rw [wrap64 (by omega) (by omega)] | ((first | refine hK _ ?_ | refine hKp _ _ ?_); clear hK hKp K Kp; try clear hanc anc) | ((with_reducible refine And.intro ?_ ?_); (focus (first | trivial | omega | (simp only [Fits]; omega) | assumption | (rw [hanc]; rfl)))) | ((first | refine K_regA hE fun K Kp hK hKp => ?_ | refine K_drwA true mixed hE fun K Kp hK hKp anc hanc => ?_ | refine K_drwA false mixed hE fun K Kp hK hKp anc hanc => ?_ | ((first | apply CallP_mk | apply CallB_mk); (focus (simp only [go_sem] <;> rfl)); (focus (exact hc0)); (focus (first | (simp [go_sem]; done) | (simp [go_sem, CloRow, AV.cells, AV.clo]; done))); (focus (first | exact .inl rfl | (right; simp [go_sem]))))); simp only [go_sem, lt_dec hlt, ht, hf, hm, q1, Ty.av_eq]) | ((first | refine onG_split_t (fun hg => ?_) (fun hg => ?_) | refine onG_split_f (fun hg => ?_) (fun hg => ?_)) <;> simp only [go_sem, lt_dec hlt, ht, hf, hm, q1, Ty.av_eq, hg]) | (refine K_condA (fun hc => ?_) (fun hc => ?_) <;> try (exact absurd hc (by decide))))
          refine K_ret ?_
          show leftQ Q' none _
          refine hleft _ () (fun i => i) none ⟨rfl, hbad (by rw [hkey]; intro h; exact he ((h j t m ht hm).trans hw))⟩ (ent_fam (by simp [go_sem, AObj.ids, AV.ids, AV.idsL, Mg.cs, Dd.cs]) (by simp [go_sem]) (by decide) (by simp [AObj.ids, AV.ids, AV.idsL]) (by decide))
    · obtain rfl : j = nv.fs.length := by omega
      repeat' (first | apply nx | refine Kq_exit_ne (by decide) ?_ | rw [wrap64 (by omega) (by omega)] | ((first | refine hK _ ?_ | refine hKp _ _ ?_); clear hK hKp K Kp; try clear hanc anc) | ((with_reducible refine And.intro ?_ ?_); (focus (first | trivial | omega | (simp only [Fits]; omega) | assumption | (rw [hanc]; rfl)))) | ((first | refine K_regA hE fun K Kp hK hKp => ?_ | refine K_drwA true mixed hE fun K Kp hK hKp anc hanc => ?_ | refine K_drwA false mixed hE fun K Kp hK hKp anc hanc => ?_); simp only [go_sem, ge_dec]) | ((first | refine onG_split_t (fun hg => ?_) (fun hg => ?_) | refine onG_split_f (fun hg => ?_) (fun hg => ?_)) <;> simp only [go_sem, ge_dec, hg]) | (refine K_condA (fun hc => ?_) (fun hc => ?_) <;> try (exact absurd hc (by decide))))
      repeat (first | refine Kq_norm_blk ?_ | refine Kq_norm_nil ?_)
      refine hnorm _ () (fun i => i) (fun k hk => ?_) (ent_fam (by simp [go_sem, AObj.ids, AV.ids, AV.idsL, Mg.cs, Dd.cs]) (by simp [go_sem]) (by decide) (by simp [AObj.ids, AV.ids, AV.idsL]) (by decide))
      by_cases e : k = i
      · subst e
        exact hkey.2 fun b t m hb hm => hok b t m (List.getElem?_eq_some_iff.1 hb).1 hb hm
      · exact hi k (by omega)
  · intro σ s m hi he
    rw [ysM_len] at hi
    have hT : TypP old to l x := hti.2 hi
    rw [decide_eq_true hT] at hQ
    refine Kq_norm_blk (Kq_norm_code (AW.ent m he ?_))
    have ho2 : tObj old to l x s 2 = some (.cells [.bool false]) := rfl
    repeat' (first | apply nx | refine Kq_exit_ne (by decide) ?_ | rw [wrap64 (by omega) (by omega)] | ((first | refine hK _ ?_ | refine hKp _ _ ?_); clear hK hKp K Kp; try clear hanc anc) | ((with_reducible refine And.intro ?_ ?_); (focus (first | trivial | omega | (simp only [Fits]; omega) | assumption | (rw [hanc]; rfl)))) | ((first | refine K_regA hE fun K Kp hK hKp => ?_ | refine K_drwA true mixed hE fun K Kp hK hKp anc hanc => ?_ | refine K_drwA false mixed hE fun K Kp hK hKp anc hanc => ?_); simp only [go_sem, ho2]) | ((first | refine onG_split_t (fun hg => ?_) (fun hg => ?_) | refine onG_split_f (fun hg => ?_) (fun hg => ?_)) <;> simp only [go_sem, ho2, hg]) | (refine K_condA (fun hc => ?_) (fun hc => ?_) <;> try (exact absurd hc (by decide))))
    refine K_ret (hQ _ ⟨.bool true, (by simp [resA, rvA, Try.f27, go_sem, ho2]; rfl), (by simp [AV.snapOk, AV.snapOkL, go_sem, ho2]), (by rfl), (by first | rfl | simp [AV.clo, AV.cloL, go_sem, ho2])⟩).1
  · rintro σ s m c ⟨rfl, hn⟩ he
    rw [decide_eq_false hn] at hQ
    have h6 := he.1 8 (.ptr 2 0) rfl
    have h1' := (he.2.1 2 (.cells [.bool false]) rfl).1
    simp only [AV.ren, AObj.ren, AV.renL] at h6 h1'
    show Kq _ _ _ _ .ret σ
    refine Kq_ret_cons (Kq_ret_cons (Kq_ret_nil ?_))
    exact (hQ _ ⟨.bool false, by simp [resA, rvA, Try.f27, go_sem, h6, h1']; rfl, by simp [AV.snapOk], rfl, rfl⟩).1
end Go.Proofs.Ytlhhahocjfgmdaa
