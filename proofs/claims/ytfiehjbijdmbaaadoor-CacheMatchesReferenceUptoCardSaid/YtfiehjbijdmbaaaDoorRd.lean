/- A part of the proof: an abstract machine for the walks, and what the walked functions compute. -/
import Derived.Test.YtfiehjbijdmbaaaDoorRc
import Derived.Test.YtfiehjbijdmbaaaDoorMr
set_option linter.unusedVariables false
set_option linter.unusedSimpArgs false
set_option linter.unusedSimpArgs false
set_option linter.unusedVariables false
set_option maxHeartbeats 4000000
set_option maxRecDepth 100000
namespace Go.Proofs.YtfiehjbijdmbaaaDoor
open Go.Am Go.Proofs Go.Ca
open Classical
attribute [local irreducible] AW CallP CallB CallY
theorem back_nc (l : List Fl) : ACall Tryd.prog 45 [.sl (fl l)] (fun _ => none) 0 0 (fun r hp' => r = .fn (.func 51) [] [.ptr 0 0] ∧ hp' = mkHp [(0, .cells [.sl (fl l)])]) (fun _ _ => False) := by
 refine ACall.of_bodyR Tryd.func45 isf45 rfl (by simp [Tryd.f45]) fun E Q hE hN hQ hQp => K_start ?_
 repeat' (first | apply nx | refine Kq_exit_ne (by decide) ?_ | rw [wrap64 (by omega) (by omega)] | ((first | refine hK _ ?_ | refine hKp _ _ ?_); clear hK hKp K Kp; try clear hanc anc) | ((with_reducible refine And.intro ?_ ?_); (focus (first | trivial | omega | (simp only [Fits]; omega) | assumption | (rw [hanc]; rfl)))) | ((first | refine K_regA hE fun K Kp hK hKp => ?_ | refine K_drwA true mixed hE fun K Kp hK hKp anc hanc => ?_ | refine K_drwA false mixed hE fun K Kp hK hKp anc hanc => ?_); simp only [go_sem]) | ((first | refine onG_split_t (fun hg => ?_) (fun hg => ?_) | refine onG_split_f (fun hg => ?_) (fun hg => ?_)) <;> simp only [go_sem, hg]) | (refine K_condA (fun hc => ?_) (fun hc => ?_) <;> try (exact absurd hc (by decide))))
 refine K_ret (hQ _ ⟨.fn (.func 51) [] [.ptr 0 0], fun i => i, _, 1, resA_tmp (by simp only [go_sem]), (by simp [AV.ids, AV.idsL]), ?_, rfl, rfl⟩).1
 show Ent _ _ _ (mkSt [] [(0, .cells [.sl (fl l)])] 1)
 refine ent_mk (by simp [go_sem]) (by simp [go_sem]) (by simp) (by simp [hN])
def ysB (l : List Fl) : List (List AV) := l.zipIdx.reverse.map fun p => [.i p.2, p.1.av]
theorem ysB_len (l : List Fl) : (ysB l).length = l.length := by simp [ysB]
theorem ysB_get {l : List Fl} {m i : Nat} {f : Fl} (h : l[m]? = some f) (hi : i + 1 + m = l.length) : (ysB l)[i]? = some [.i m, f.av] := by
 have hlt : i < l.length := by omega
 simp only [ysB, List.getElem?_map, List.getElem?_reverse (show i < l.zipIdx.length by simpa using hlt), List.length_zipIdx, List.getElem?_zipIdx]
 rw [show l.length - 1 - i = m by omega, h]
 simp
theorem ysB_mem {l : List Fl} {y : List AV} (h : y ∈ ysB l) : y.length = 2 := by
 obtain ⟨p, _, rfl⟩ := List.mem_map.1 h; rfl
theorem ysB_inv {l : List Fl} {i : Nat} {y : List AV} (h : (ysB l)[i]? = some y) : ∃ m f, l[m]? = some f ∧ i + 1 + m = l.length ∧ y = [.i m, f.av] := by
 have hlt : i < l.length := by
  have := (List.getElem?_eq_some_iff.1 h).1
  rwa [ysB_len] at this
 obtain ⟨f, hf⟩ := get?_of (show l.length - 1 - i < l.length by omega)
 refine ⟨l.length - 1 - i, f, hf, by omega, ?_⟩
 rw [ysB_get hf (by omega)] at h
 exact (Option.some.inj h).symm
theorem back_iter {l : List Fl} (hl : l.length ≤ 2 ^ 40) (a : Nat) : IterC Tryd.prog 51 [.ptr a 0] [(a, .cells [.sl (fl l)])] (ysB l) := by
 intro ln S objs np hn1 hcaps hL hob hnp Inv Fin IP hIP hround s h0
 simp only [AV.idsL, AV.ids] at hcaps
 obtain ⟨ha1, _⟩ := hcaps
 have hca : ∀ s, objs s a = some (.cells [.sl (fl l)]) := fun s => hL s (a, .cells [.sl (fl l)]) (by simp)
 have a2 : a < 1000000 := by omega
 have u0 : IntKind.i64.wrap ((l.length : Int) - 1) = (l.length : Int) - 1 := wrap64 (by omega) (by omega)
 refine ACall.of_bodyR Tryd.func51 isf51 rfl (by simp [Tryd.f51]) fun E Q hE hN hQ hQp => K_start ?_
 have ga := hca s
 repeat' (first | apply nx | refine Kq_exit_ne (by decide) ?_ | rw [wrap64 (by omega) (by omega)] | ((first | refine hK _ ?_ | refine hKp _ _ ?_); clear hK hKp K Kp; try clear hanc anc) | ((with_reducible refine And.intro ?_ ?_); (focus (first | trivial | omega | (simp only [Fits]; omega) | assumption | (rw [hanc]; rfl)))) | ((first | refine K_regA hE fun K Kp hK hKp => ?_ | refine K_drwA true mixed hE fun K Kp hK hKp anc hanc => ?_ | refine K_drwA false mixed hE fun K Kp hK hKp anc hanc => ?_); simp only [go_sem, ga, u0]) | ((first | refine onG_split_t (fun hg => ?_) (fun hg => ?_) | refine onG_split_f (fun hg => ?_) (fun hg => ?_)) <;> simp only [go_sem, ga, u0, hg]) | (refine K_condA (fun hc => ?_) (fun hc => ?_) <;> try (exact absurd hc (by decide))))
 refine K_loop (X := Nat × S) (fun z => z.1 ≤ l.length ∧ Inv z.1 z.2) (fun z => ⟨mkFr [(0, .fn (.yield ln) [] []), (1, .ptr a 0), (3, .i (((l.length - z.1 : Nat) : Int) - 1))], objs z.2, 1000000⟩) (fun z => l.length - z.1) (0, s) ⟨Nat.zero_le _, h0⟩ (fun i => i) ?_ ?_
 ·exact ent_idG (by simp [go_sem, a2]) (fun id o ho => ⟨ho, hob s id o ho⟩) (by rw [hN]; exact hn1)
 rintro ⟨i, s⟩ ⟨hi, hinv⟩
 simp only at hi hinv
 by_cases hlt : i < l.length
 ·obtain ⟨f, hf⟩ := get?_of (show l.length - 1 - i < l.length by omega)
  have e0 : ((l.length - i : Nat) : Int) - 1 = ((l.length - 1 - i : Nat) : Int) := by omega
  generalize hm : l.length - 1 - i = m at *
  have hy := ysB_get hf (i := i) (by omega)
  have hro := hround i _ s hinv hy
  have ga := hca s
  have q : decide ((m : Int) ≥ 0) = true := by simp
  have da : decide (a < 3097152) = true := by simp; omega
  repeat' (first | apply nx | refine Kq_exit_ne (by decide) ?_ | rw [wrap64 (by omega) (by omega)] | ((first | refine hK _ ?_ | refine hKp _ _ ?_); clear hK hKp K Kp; try clear hanc anc) | ((with_reducible refine And.intro ?_ ?_); (focus (first | trivial | omega | (simp only [Fits]; omega) | assumption | (rw [hanc]; rfl)))) | ((first | refine K_regA hE fun K Kp hK hKp => ?_ | refine K_drwA true mixed hE fun K Kp hK hKp anc hanc => ?_ | refine K_drwA false mixed hE fun K Kp hK hKp anc hanc => ?_); simp only [go_sem, e0, q, ga, hf, da, Bool.true_or, Fl.av_eq]) | ((first | refine onG_split_t (fun hg => ?_) (fun hg => ?_) | refine onG_split_f (fun hg => ?_) (fun hg => ?_)) <;> simp only [go_sem, e0, q, ga, hf, da, Bool.true_or, Fl.av_eq, hg]) | (refine K_condA (fun hc => ?_) (fun hc => ?_) <;> try (exact absurd hc (by decide))))
  rw [Fl.av_eq] at hro
  refine Hold.mk (CallY.use hro (fun i => i) (by rw [renL_id]) (by simp [AV.ids, AV.idsL, go_sem]) (fun id o ho => ⟨by rw [oren_id]; exact ho, hob s id o ho⟩) (fun id id' o o' _ _ e => e) (fun id hid => ⟨by omega, hnp s id hid⟩) ?_ ?_ ?_ ?_)
  ·rintro r hp' ⟨s', hr, rfl⟩
   refine ⟨by rcases hr with ⟨rfl, _⟩ | ⟨rfl, _⟩ <;> trivial, fun id o ho => ⟨by have := (hob s' id o ho).1; omega, ?_⟩⟩
   exact objids_mono _ (fun j hj => by omega) (hob s' id o ho).2
  ·rintro r hp' ⟨s', hr, rfl⟩
   refine ⟨clo_ids (hIP _ s' hr), fun id o ho => ⟨by have := (hob s' id o ho).1; omega, ?_⟩⟩
   exact objids_mono _ (fun j hj => by omega) (hob s' id o ho).2
  ·rintro r hp' fr' hpn ⟨s', hr, rfl⟩ hfr hobj _
   simp only [St.put, putf] at hfr
   clear hQp
   subst hfr
   have hba : backM (fun i => i) np (3097152 + 1048576 * 6) a = a := backM_lt ha1
   have u : IntKind.i64.wrap ((m : Int) - 1) = (m : Int) - 1 := wrap64 (by omega) (by omega)
   have e2 : l.length - (i + 1) = m := by omega
   rcases hr with ⟨rfl, hi'⟩ | ⟨rfl, hf'⟩
   ·simp only [go_sem]
    refine hK _ ?_
    repeat' (first | apply nx | refine Kq_exit_ne (by decide) ?_ | rw [wrap64 (by omega) (by omega)] | ((first | refine hK _ ?_ | refine hKp _ _ ?_); clear hK hKp K Kp; try clear hanc anc) | ((with_reducible refine And.intro ?_ ?_); (focus (first | trivial | omega | (simp only [Fits]; omega) | assumption | (rw [hanc]; rfl)))) | ((first | refine K_regA hE fun K Kp hK hKp => ?_ | refine K_drwA true mixed hE fun K Kp hK hKp anc hanc => ?_ | refine K_drwA false mixed hE fun K Kp hK hKp anc hanc => ?_); simp only [go_sem]) | ((first | refine onG_split_t (fun hg => ?_) (fun hg => ?_) | refine onG_split_f (fun hg => ?_) (fun hg => ?_)) <;> simp only [go_sem, hg]) | (refine K_condA (fun hc => ?_) (fun hc => ?_) <;> try (exact absurd hc (by decide))))
    refine ⟨(i + 1, s'), ⟨by simp only; omega, hi'⟩, by simp only; omega, _, ent_gen (m := backM (fun i => i) np (3097152 + 1048576 * 6)) (by simp [go_sem, a2, hba, u, e2]) (fun id o ho => ⟨hobj id o ho, hob s' id o ho⟩) (fun id id' o o' _ _ e => backM_id_inj (by omega) e) (fun id hid => ?_)⟩
    rw [hN] at hid
    exact ⟨backM_lt hid, by omega⟩
   ·simp only [go_sem]
    refine hK _ ?_
    repeat' (first | apply nx | refine Kq_exit_ne (by decide) ?_ | rw [wrap64 (by omega) (by omega)] | ((first | refine hK _ ?_ | refine hKp _ _ ?_); clear hK hKp K Kp; try clear hanc anc) | ((with_reducible refine And.intro ?_ ?_); (focus (first | trivial | omega | (simp only [Fits]; omega) | assumption | (rw [hanc]; rfl)))) | ((first | refine K_regA hE fun K Kp hK hKp => ?_ | refine K_drwA true mixed hE fun K Kp hK hKp anc hanc => ?_ | refine K_drwA false mixed hE fun K Kp hK hKp anc hanc => ?_); simp only [go_sem]) | ((first | refine onG_split_t (fun hg => ?_) (fun hg => ?_) | refine onG_split_f (fun hg => ?_) (fun hg => ?_)) <;> simp only [go_sem, hg]) | (refine K_condA (fun hc => ?_) (fun hc => ?_) <;> try (exact absurd hc (by decide))))
    refine K_ret ?_
    refine (hQ _ ⟨.tup [], backM (fun i => i) np (3097152 + 1048576 * 6), objs s', 1000000, rfl, trivial, ?_, rfl, s', .inr hf', rfl⟩).1
    refine ent_gen (fr := []) (m := backM (fun i => i) np (3097152 + 1048576 * 6)) (by simp) (fun id o ho => ⟨hobj id o ho, hob s' id o ho⟩) (fun id id' o o' _ _ e => backM_id_inj (by omega) e) (fun id hid => ⟨backM_lt hid, by omega⟩)
  ·rintro x hp' hpn ⟨s', hx, rfl⟩ hobj _
   refine hKp _ _ (hQp _ _ ⟨x, _, _, 1000000, rfl, clo_ids (hIP x s' hx), ?_, s', hx, rfl⟩)
   refine ent_gen (fr := []) (by simp) (fun id o ho => ⟨hobj id o ho, hob s' id o ho⟩) (fun id id' o o' _ _ e => backM_id_inj (by omega) e) (fun id hid => ⟨backM_lt hid, by omega⟩)
 ·obtain rfl : i = l.length := by omega
  have q : decide (((l.length - l.length : Nat) : Int) - 1 ≥ 0) = false := by simp
  repeat' (first | apply nx | refine Kq_exit_ne (by decide) ?_ | rw [wrap64 (by omega) (by omega)] | ((first | refine hK _ ?_ | refine hKp _ _ ?_); clear hK hKp K Kp; try clear hanc anc) | ((with_reducible refine And.intro ?_ ?_); (focus (first | trivial | omega | (simp only [Fits]; omega) | assumption | (rw [hanc]; rfl)))) | ((first | refine K_regA hE fun K Kp hK hKp => ?_ | refine K_drwA true mixed hE fun K Kp hK hKp anc hanc => ?_ | refine K_drwA false mixed hE fun K Kp hK hKp anc hanc => ?_); simp only [go_sem, q]) | ((first | refine onG_split_t (fun hg => ?_) (fun hg => ?_) | refine onG_split_f (fun hg => ?_) (fun hg => ?_)) <;> simp only [go_sem, q, hg]) | (refine K_condA (fun hc => ?_) (fun hc => ?_) <;> try (exact absurd hc (by decide))))
  refine Kq_norm_nil ?_
  refine (hQ _ ⟨.tup [], fun i => i, objs s, 1000000, rfl, trivial, ?_, rfl, s, .inl (by rw [ysB_len]; exact hinv), rfl⟩).2
  exact ent_idG (fr := []) (by simp) (fun id o ho => ⟨ho, hob s id o ho⟩) hn1
theorem ent_fam {np : Nat} {fr : Nat → Option AV} {hp : Nat → Option AObj} {nx N : Nat} {o : AObj} {L : List (Nat × AObj)} (hL : ∀ p, p ∈ L → hp p.1 = some p.2 ∧ p.1 < 1000000 ∧ p.2.ids (· < 1000000)) (hN : hp N = some o) (hN2 : N < 1000000) (ho : o.ids (· < 1000000)) (hnp : np ≤ 1000000) :
    Ent np (fun i => i) ⟨fr, hp, nx⟩ ⟨mkFr [], updo (mkHp L) N (some o), 1000000⟩ := by
  refine ent_idG (by simp) (fun id ob h => ?_) hnp
  simp only [updo] at h
  split at h
  · rename_i e
    cases h
    rw [e]
    exact ⟨hN, hN2, ho⟩
  · exact mkHp_allP (p := fun id ob => hp id = some ob ∧ id < 1000000 ∧ ob.ids (· < 1000000)) hL id ob h
def lObj (l : List Fl) (k : Int) : Int → Nat → Option AObj := fun r => mkHp [(0, .cells [.i k]), (1, .cells [.i r]), (2, .cells [.sl (fl l)])]
theorem last_call (l : List Fl) (k : Int) (hl : l.length ≤ 2 ^ 40) (h1 : -9223372036854775808 ≤ k) (h2 : k ≤ 9223372036854775807) : PCall Tryd.prog 30 [.sl (fl l), .i k] (.i (lastI l k)) := by
 have hc0 := name_call k h1 h2
 have hbn := back_nc l
 refine PCall.introM Tryd.func30 rfl isf30 (by simp [Tryd.f30]) (by simp [AV.cloL, AV.clo]) fun E Q hE hN hM hQ => K_start ?_
 repeat' (first | apply nx | refine Kq_exit_ne (by decide) ?_ | rw [wrap64 (by omega) (by omega)] | ((first | refine hK _ ?_ | refine hKp _ _ ?_); clear hK hKp K Kp; try clear hanc anc) | ((with_reducible refine And.intro ?_ ?_); (focus (first | trivial | omega | (simp only [Fits]; omega) | assumption | (rw [hanc]; rfl)))) | ((first | refine K_regA hE fun K Kp hK hKp => ?_ | refine K_drwA true mixed hE fun K Kp hK hKp anc hanc => ?_ | refine K_drwA false mixed hE fun K Kp hK hKp anc hanc => ?_); simp only [go_sem]) | ((first | refine onG_split_t (fun hg => ?_) (fun hg => ?_) | refine onG_split_f (fun hg => ?_) (fun hg => ?_)) <;> simp only [go_sem, hg]) | (refine K_condA (fun hc => ?_) (fun hc => ?_) <;> try (exact absurd hc (by decide))))
 refine Hold.mk (CallB.newP hbn (by simp [AV.cloL, AV.clo]) (by simp [AV.ids, AV.idsL]) (by intro p hp; simp only [List.mem_cons, List.not_mem_nil, or_false] at hp; rcases hp with rfl; exact ⟨by simp, by simp [AObj.ids, AV.ids, AV.idsL, go_sem]⟩) ?_)
 simp only [go_sem, AObj.ren]
 refine hK _ ?_; clear hK hKp K Kp; try clear hanc anc
 repeat (first | refine Kq_norm_code ?_ | refine Kq_norm_blk ?_ | refine Kq_norm_lp ?_)
 refine AW.ent (σ' := ⟨mkFr [(3, .ptr 0 0), (4, .ptr 1 0), (8, .fn (.func 51) [] [.ptr 2 0])], lObj l k 0, 1000000⟩) (fun i => if i = 0 then 0 else if i = 1 then 1048576 else 3145728) (by
  show Ent _ _ _ (mkSt [(3, .ptr 0 0), (4, .ptr 1 0), (8, .fn (.func 51) [] [.ptr 2 0])] [(0, .cells [.i k]), (1, .cells [.i 0]), (2, .cells [.sl (fl l)])] 1000000)
  exact ent_mk (by simp [go_sem, AV.ids, AV.idsL]) (by simp [go_sem]) (by simp) (by simp [hN])) ?_
 refine K_blk ?_
 refine AW_iter hM (back_iter hl 2) (lObj l k) 3 (by decide) (by rw [hN]; decide) (by simp [AV.idsL, AV.ids]) (by simp) (fun _ => by simp [lObj, mkHp, updo]) (fun s id o ho => ?_) (fun s id hid => ?_) [(3, .ptr 0 0), (4, .ptr 1 0), (8, .fn (.func 51) [] [.ptr 2 0])] (by simp [AV.ids, AV.idsL]) (by simp [go_sem]) (by simp [go_sem]) [3, 4] [.ptr 0 0, .ptr 1 0]
  (by intro i hi; match i, hi with | 0, _ => rfl | 1, _ => rfl | i + 2, h => simp at h; omega) (by simp [AV.idsL, AV.ids]) (fun y hy => by rw [ysB_mem hy]; rfl) (by rw [hE]; decide)
  (fun i _ => i ≤ l.length ∧ lastN l k l.length = lastN l k (l.length - i)) (fun c r => c = none ∧ ∃ j : Nat, lastN l k l.length = some j ∧ r = (j : Int)) (fun _ _ => False) (fun _ _ h => h.elim) ?_ 0 ⟨Nat.zero_le _, rfl⟩ ?_ ?_ (fun _ _ _ _ h => h.elim)
 ·revert ho
  exact mkHp_allP (p := fun id o => (id < 1000000 ∧ id ≠ 3) ∧ o.ids (fun j => j < 1000000 ∧ j ≠ 3)) (by simp [AObj.ids, AV.ids, AV.idsL, go_sem]) id o
 ·rcases (by omega : id = 0 ∨ id = 1 ∨ id = 2) with rfl | rfl | rfl <;> simp [lObj, mkHp, updo]
 ·intro ll fnn i y s E' Q' hi hy hE' hN' hnorm hleft hpan
  obtain ⟨m, f, hf, him, rfl⟩ := ysB_inv hy
  obtain ⟨hi, ht⟩ := hi
  rw [show l.length - i = m + 1 by omega, lastN, hf] at ht
  have ho0 : lObj l k s 0 = some (.cells [.i k]) := rfl
  have ho1 : lObj l k s 1 = some (.cells [.i s]) := rfl
  have ho2 : lObj l k s 2 = some (.cells [.sl (fl l)]) := rfl
  have q1 := ba_eqB f.nm (nm k)
  unfold RoundG
  rw [Fl.av_eq]
  refine K_start ?_
  show AW Tryd.prog E' _ _ ⟨upd (upd (mkFr [(3, .ptr 0 0), (4, .ptr 1 0)]) 9 (.i m)) 10 (.agg [.str f.nm, .sl (ub f.bs)]), updo (lObj l k s) 3 _, 1000000⟩
  rw [hE] at hE'
  replace hE := hE'
  repeat' (first | apply nx | refine Kq_exit_ne (by decide) ?_ | rw [wrap64 (by omega) (by omega)] | ((first | refine hK _ ?_ | refine hKp _ _ ?_); clear hK hKp K Kp; try clear hanc anc) | ((with_reducible refine And.intro ?_ ?_); (focus (first | trivial | omega | (simp only [Fits]; omega) | assumption | (rw [hanc]; rfl)))) | ((first | refine K_regA hE fun K Kp hK hKp => ?_ | refine K_drwA true mixed hE fun K Kp hK hKp anc hanc => ?_ | refine K_drwA false mixed hE fun K Kp hK hKp anc hanc => ?_); simp only [go_sem]) | ((first | refine onG_split_t (fun hg => ?_) (fun hg => ?_) | refine onG_split_f (fun hg => ?_) (fun hg => ?_)) <;> simp only [go_sem, hg]) | (refine K_condA (fun hc => ?_) (fun hc => ?_) <;> try (exact absurd hc (by decide))))
  refine Kq_norm_nil ?_
  refine ⟨[.ptr 0 0, .ptr 1 0], by simp [updo], K_start ?_⟩
  show AW Tryd.prog E' _ _ ⟨_, _, 4145728⟩
  by_cases hn : f.nm = nm k
  ·rw [decide_eq_true hn] at q1
   rw [if_pos (by simp [hn])] at ht
   repeat' (first | apply nx | refine Kq_exit_ne (by decide) ?_ | rw [wrap64 (by omega) (by omega)] | ((first | refine hK _ ?_ | refine hKp _ _ ?_); clear hK hKp K Kp; try clear hanc anc) | ((with_reducible refine And.intro ?_ ?_); (focus (first | trivial | omega | (simp only [Fits]; omega) | assumption | (rw [hanc]; rfl)))) | ((first | refine K_regA hE fun K Kp hK hKp => ?_ | refine K_drwA true mixed hE fun K Kp hK hKp anc hanc => ?_ | refine K_drwA false mixed hE fun K Kp hK hKp anc hanc => ?_ | ((first | apply CallP_mk | apply CallB_mk); (focus (simp only [go_sem] <;> rfl)); (focus (exact hc0)); (focus (first | (simp [go_sem]; done) | (simp [go_sem, CloRow, AV.cells, AV.clo]; done))); (focus (first | exact .inl rfl | (right; simp [go_sem]))))); simp only [go_sem, ho0, ho1, q1]) | ((first | refine onG_split_t (fun hg => ?_) (fun hg => ?_) | refine onG_split_f (fun hg => ?_) (fun hg => ?_)) <;> simp only [go_sem, ho0, ho1, q1, hg]) | (refine K_condA (fun hc => ?_) (fun hc => ?_) <;> try (exact absurd hc (by decide))))
   refine K_ret ?_
   show leftQ Q' none _
   refine hleft _ (m : Int) (fun i => i) none ⟨rfl, m, ht, rfl⟩ (ent_fam (by simp [updo, ho0, ho1, ho2, AObj.ids, AV.ids, AV.idsL, go_sem]) (by simp [updo]) (by decide) (by simp [AObj.ids, AV.ids, AV.idsL]) (by decide))
  ·rw [decide_eq_false hn] at q1
   rw [if_neg (by simpa using hn)] at ht
   repeat' (first | apply nx | refine Kq_exit_ne (by decide) ?_ | rw [wrap64 (by omega) (by omega)] | ((first | refine hK _ ?_ | refine hKp _ _ ?_); clear hK hKp K Kp; try clear hanc anc) | ((with_reducible refine And.intro ?_ ?_); (focus (first | trivial | omega | (simp only [Fits]; omega) | assumption | (rw [hanc]; rfl)))) | ((first | refine K_regA hE fun K Kp hK hKp => ?_ | refine K_drwA true mixed hE fun K Kp hK hKp anc hanc => ?_ | refine K_drwA false mixed hE fun K Kp hK hKp anc hanc => ?_ | ((first | apply CallP_mk | apply CallB_mk); (focus (simp only [go_sem] <;> rfl)); (focus (exact hc0)); (focus (first | (simp [go_sem]; done) | (simp [go_sem, CloRow, AV.cells, AV.clo]; done))); (focus (first | exact .inl rfl | (right; simp [go_sem]))))); simp only [go_sem, ho0, ho1, q1]) | ((first | refine onG_split_t (fun hg => ?_) (fun hg => ?_) | refine onG_split_f (fun hg => ?_) (fun hg => ?_)) <;> simp only [go_sem, ho0, ho1, q1, hg]) | (refine K_condA (fun hc => ?_) (fun hc => ?_) <;> try (exact absurd hc (by decide))))
   repeat (first | refine Kq_norm_blk ?_ | refine Kq_norm_nil ?_)
   refine hnorm _ s (fun i => i) ⟨by omega, by rw [ht, show l.length - (i + 1) = m by omega]⟩ (ent_fam (by simp [updo, ho0, ho1, ho2, AObj.ids, AV.ids, AV.idsL, go_sem]) (by simp [updo]) (by decide) (by simp [AObj.ids, AV.ids, AV.idsL]) (by decide))
 ·intro σ s m hi he
  rw [ysB_len] at hi
  obtain ⟨_, ht⟩ := hi
  rw [Nat.sub_self, lastN] at ht
  refine Kq_norm_blk (Kq_norm_code (AW.ent m he ?_))
  have ho1 : lObj l k s 1 = some (.cells [.i s]) := rfl
  unfold lastI at hQ
  rw [ht] at hQ
  repeat' (first | apply nx | refine Kq_exit_ne (by decide) ?_ | rw [wrap64 (by omega) (by omega)] | ((first | refine hK _ ?_ | refine hKp _ _ ?_); clear hK hKp K Kp; try clear hanc anc) | ((with_reducible refine And.intro ?_ ?_); (focus (first | trivial | omega | (simp only [Fits]; omega) | assumption | (rw [hanc]; rfl)))) | ((first | refine K_regA hE fun K Kp hK hKp => ?_ | refine K_drwA true mixed hE fun K Kp hK hKp anc hanc => ?_ | refine K_drwA false mixed hE fun K Kp hK hKp anc hanc => ?_); simp only [go_sem, ho1]) | ((first | refine onG_split_t (fun hg => ?_) (fun hg => ?_) | refine onG_split_f (fun hg => ?_) (fun hg => ?_)) <;> simp only [go_sem, ho1, hg]) | (refine K_condA (fun hc => ?_) (fun hc => ?_) <;> try (exact absurd hc (by decide))))
  refine K_ret (hQ _ ⟨.i (-1), (by simp [resA, rvA, Tryd.f30, go_sem, ho1]; rfl), (by simp [AV.snapOk, AV.snapOkL, go_sem, ho1]), (by rfl), (by first | rfl | simp [AV.clo, AV.cloL, go_sem, ho1])⟩).1
 ·rintro σ s m c ⟨rfl, j, hn, rfl⟩ he
  unfold lastI at hQ
  rw [hn] at hQ
  have h6 := he.1 4 (.ptr 1 0) rfl
  have h1' := (he.2.1 1 (.cells [.i (j : Int)]) rfl).1
  simp only [AV.ren, AObj.ren, AV.renL] at h6 h1'
  show Kq _ _ _ _ .ret σ
  refine Kq_ret_cons (Kq_ret_cons (Kq_ret_nil ?_))
  exact (hQ _ ⟨.i (j : Int), by simp [resA, rvA, Tryd.f30, go_sem, h6, h1']; rfl, by simp [AV.snapOk], rfl, rfl⟩).1
end Go.Proofs.YtfiehjbijdmbaaaDoor

set_option linter.unusedSimpArgs false
set_option linter.unusedVariables false
set_option maxHeartbeats 4000000
set_option maxRecDepth 100000
namespace Go.Proofs.YtfiehjbijdmbaaaDoor
open Nat (reduceAdd reduceMul reduceEqDiff reduceLT reduceLeDiff reduceSub reduceDiv)
open Int (reduceBNe reduceLE reduceEq)
open Go.Am Go.Proofs Go.Ca
open Classical
attribute [local irreducible] AW CallP CallB
structure FB (l : List Fl) : Prop where
 len : l.length ≤ 2 ^ 30
 bs : ∀ f, f ∈ l → f.bs.length ≤ 2 ^ 30
 nm : ∀ f, f ∈ l → f.nm.size ≤ 2 ^ 30
def I64 (k : Int) : Prop := -9223372036854775808 ≤ k ∧ k ≤ 9223372036854775807
theorem get_call (l : List Fl) (k : Int) (hB : FB l) (hk : I64 k) : PCall Tryd.prog 13 [.sl (fl l), .i k] (.tup [.sl (ub (getR l k).1), .i (getR l k).2]) := by
 have hc0 := last_call l k (by have := hB.len; omega) hk.1 hk.2
 unfold getR
 unfold lastI at hc0
 cases hi : lastN l k l.length with
 | none =>
  rw [hi] at hc0
  have q : decide ((-1 : Int) < 0) = true := by decide
  refine PCall.intro Tryd.func13 rfl isf13 (by simp [Tryd.f13]) (by simp [AV.cloL, AV.clo]) fun E Q hE hN hQ => K_start ?_
  repeat' (first | apply nx | refine Kq_exit_ne (by decide) ?_ | rw [wrap64 (by omega) (by omega)] | ((first | refine hK _ ?_ | refine hKp _ _ ?_); clear hK hKp K Kp; try clear hanc anc) | ((with_reducible refine And.intro ?_ ?_); (focus (first | trivial | omega | (simp only [Fits]; omega) | assumption | (rw [hanc]; rfl)))) | ((first | refine K_regA hE fun K Kp hK hKp => ?_ | refine K_drwA false mixed hE fun K Kp hK hKp anc hanc => ?_ | ((first | apply CallP_mk | apply CallB_mk); (focus (simp only [go_sem] <;> rfl)); (focus (exact hc0)); (focus (first | (simp [go_sem]; done) | (simp [go_sem, CloRow, AV.cells, AV.clo]; done))); (focus (first | exact .inl rfl | (right; simp [go_sem]))))); simp only [go_sem, q]) | ((first | refine onG_split_t (fun hg => ?_) (fun hg => ?_) | refine onG_split_f (fun hg => ?_) (fun hg => ?_)) <;> simp only [go_sem, q, hg]) | (refine K_condA (fun hc => ?_) (fun hc => ?_) <;> try (exact absurd hc (by decide))) | (refine K_ret ?_; refine (hQ _ ⟨_, by (try simp only [go_sem, ↓reduceIte, Nat.reduceEqDiff]); rfl, by simp [go_sem], ?_, by first | rfl | assumption⟩).1))
  simp [AV.snap, AV.snapL, ub_nil]
 | some i =>
  rw [hi] at hc0
  obtain ⟨_, hlt, _⟩ := lastN_lt hi
  obtain ⟨f, hf⟩ := get?_of hlt
  have hg : l.getD i default = f := by rw [List.getD_eq_getElem?_getD, hf]; rfl
  have hc1 := open_call f.bs (hB.bs f (List.mem_of_getElem? hf))
  have q : decide ((i : Int) < 0) = false := by simp
  simp only [hg]
  by_cases h1 : (openR f.bs).1 = k
  ·have q1 : ((openR f.bs).1 != k) = false := by simp [h1]
   rw [if_neg (by simpa using h1)]
   refine PCall.intro Tryd.func13 rfl isf13 (by simp [Tryd.f13]) (by simp [AV.cloL, AV.clo]) fun E Q hE hN hQ => K_start ?_
   repeat' (first | apply nx | refine Kq_exit_ne (by decide) ?_ | rw [wrap64 (by omega) (by omega)] | ((first | refine hK _ ?_ | refine hKp _ _ ?_); clear hK hKp K Kp; try clear hanc anc) | ((with_reducible refine And.intro ?_ ?_); (focus (first | trivial | omega | (simp only [Fits]; omega) | assumption | (rw [hanc]; rfl)))) | ((first | refine K_regA hE fun K Kp hK hKp => ?_ | refine K_drwA false mixed hE fun K Kp hK hKp anc hanc => ?_ | ((first | apply CallP_mk | apply CallB_mk); (focus (simp only [go_sem] <;> rfl)); (focus (first | exact hc0 | exact hc1)); (focus (first | (simp [go_sem]; done) | (simp [go_sem, CloRow, AV.cells, AV.clo]; done))); (focus (first | exact .inl rfl | (right; simp [go_sem]))))); simp only [go_sem, q, q1, hf, Fl.av_eq]) | ((first | refine onG_split_t (fun hg => ?_) (fun hg => ?_) | refine onG_split_f (fun hg => ?_) (fun hg => ?_)) <;> simp only [go_sem, q, q1, hf, Fl.av_eq, hg]) | (refine K_condA (fun hc => ?_) (fun hc => ?_) <;> try (exact absurd hc (by decide))) | (refine K_ret ?_; refine (hQ _ ⟨_, by (try simp only [go_sem, ↓reduceIte, Nat.reduceEqDiff]); rfl, by simp [go_sem], ?_, by first | rfl | assumption⟩).1))
   simp [AV.snap, AV.snapL]
  ·have q1 : ((openR f.bs).1 != k) = true := by simpa using h1
   rw [if_pos h1]
   refine PCall.intro Tryd.func13 rfl isf13 (by simp [Tryd.f13]) (by simp [AV.cloL, AV.clo]) fun E Q hE hN hQ => K_start ?_
   repeat' (first | apply nx | refine Kq_exit_ne (by decide) ?_ | rw [wrap64 (by omega) (by omega)] | ((first | refine hK _ ?_ | refine hKp _ _ ?_); clear hK hKp K Kp; try clear hanc anc) | ((with_reducible refine And.intro ?_ ?_); (focus (first | trivial | omega | (simp only [Fits]; omega) | assumption | (rw [hanc]; rfl)))) | ((first | refine K_regA hE fun K Kp hK hKp => ?_ | refine K_drwA false mixed hE fun K Kp hK hKp anc hanc => ?_ | ((first | apply CallP_mk | apply CallB_mk); (focus (simp only [go_sem] <;> rfl)); (focus (first | exact hc0 | exact hc1)); (focus (first | (simp [go_sem]; done) | (simp [go_sem, CloRow, AV.cells, AV.clo]; done))); (focus (first | exact .inl rfl | (right; simp [go_sem]))))); simp only [go_sem, q, q1, hf, Fl.av_eq]) | ((first | refine onG_split_t (fun hg => ?_) (fun hg => ?_) | refine onG_split_f (fun hg => ?_) (fun hg => ?_)) <;> simp only [go_sem, q, q1, hf, Fl.av_eq, hg]) | (refine K_condA (fun hc => ?_) (fun hc => ?_) <;> try (exact absurd hc (by decide))) | (refine K_ret ?_; refine (hQ _ ⟨_, by (try simp only [go_sem, ↓reduceIte, Nat.reduceEqDiff]); rfl, by simp [go_sem], ?_, by first | rfl | assumption⟩).1))
   simp [AV.snap, AV.snapL, ub_nil]
theorem sameG_call (a b : List Fl) (k : Int) (hA : FB a) (hB : FB b) (hk : I64 k) : PCall Tryd.prog 21 [.sl (fl a), .sl (fl b), .i k] (.bool (decide (getR a k = getR b k))) := by
 have hc0 := get_call a k hA hk
 have hc1 := get_call b k hB hk
 rcases hx : getR a k with ⟨x, e⟩
 rcases hy : getR b k with ⟨y, f⟩
 rw [hx] at hc0
 rw [hy] at hc1
 simp only at hc0 hc1
 by_cases h1 : e = f
 ·have q : (e == f) = true := by simp [h1]
  refine PCall.intro Tryd.func21 rfl isf21 (by simp [Tryd.f21]) (by simp [AV.cloL, AV.clo]) fun E Q hE hN hQ => K_start ?_
  repeat' (first | apply nx | refine Kq_exit_ne (by decide) ?_ | rw [wrap64 (by omega) (by omega)] | ((first | refine hK _ ?_ | refine hKp _ _ ?_); clear hK hKp K Kp; try clear hanc anc) | ((with_reducible refine And.intro ?_ ?_); (focus (first | trivial | omega | (simp only [Fits]; omega) | assumption | (rw [hanc]; rfl)))) | ((first | refine K_regA hE fun K Kp hK hKp => ?_ | refine K_drwA false mixed hE fun K Kp hK hKp anc hanc => ?_ | ((first | apply CallP_mk | apply CallB_mk); (focus (simp only [go_sem] <;> rfl)); (focus (first | exact hc0 | exact hc1)); (focus (first | (simp [go_sem]; done) | (simp [go_sem, CloRow, AV.cells, AV.clo]; done))); (focus (first | exact .inl rfl | (right; simp [go_sem]))))); simp only [go_sem, q]) | ((first | refine onG_split_t (fun hg => ?_) (fun hg => ?_) | refine onG_split_f (fun hg => ?_) (fun hg => ?_)) <;> simp only [go_sem, q, hg]) | (refine K_condA (fun hc => ?_) (fun hc => ?_) <;> try (exact absurd hc (by decide))) | (refine K_ret ?_; refine (hQ _ ⟨_, by (try simp only [go_sem, ↓reduceIte, Nat.reduceEqDiff]); rfl, by simp [go_sem], ?_, by first | rfl | assumption⟩).1))
  simp [AV.snap, h1]
 ·have q : (e == f) = false := by simp [h1]
  refine PCall.intro Tryd.func21 rfl isf21 (by simp [Tryd.f21]) (by simp [AV.cloL, AV.clo]) fun E Q hE hN hQ => K_start ?_
  repeat' (first | apply nx | refine Kq_exit_ne (by decide) ?_ | rw [wrap64 (by omega) (by omega)] | ((first | refine hK _ ?_ | refine hKp _ _ ?_); clear hK hKp K Kp; try clear hanc anc) | ((with_reducible refine And.intro ?_ ?_); (focus (first | trivial | omega | (simp only [Fits]; omega) | assumption | (rw [hanc]; rfl)))) | ((first | refine K_regA hE fun K Kp hK hKp => ?_ | refine K_drwA false mixed hE fun K Kp hK hKp anc hanc => ?_ | ((first | apply CallP_mk | apply CallB_mk); (focus (simp only [go_sem] <;> rfl)); (focus (first | exact hc0 | exact hc1)); (focus (first | (simp [go_sem]; done) | (simp [go_sem, CloRow, AV.cells, AV.clo]; done))); (focus (first | exact .inl rfl | (right; simp [go_sem]))))); simp only [go_sem, q]) | ((first | refine onG_split_t (fun hg => ?_) (fun hg => ?_) | refine onG_split_f (fun hg => ?_) (fun hg => ?_)) <;> simp only [go_sem, q, hg]) | (refine K_condA (fun hc => ?_) (fun hc => ?_) <;> try (exact absurd hc (by decide))) | (refine K_ret ?_; refine (hQ _ ⟨_, by (try simp only [go_sem, ↓reduceIte, Nat.reduceEqDiff]); rfl, by simp [go_sem], ?_, by first | rfl | assumption⟩).1))
  simp [AV.snap, h1]
def ubl (l : List (List UInt8)) : List AV := l.map fun r => .sl (ub r)
@[go_sem] theorem ubl_len (l : List (List UInt8)) : (ubl l).length = l.length := List.length_map ..
@[go_sem] theorem ubl_get (l : List (List UInt8)) (i : Nat) : (ubl l)[i]? = (l[i]?).map fun r => .sl (ub r) := List.getElem?_map ..
theorem ubl_clo (l : List (List UInt8)) : AV.cloL (ubl l) = true := cloLeq _ fun x hx => by obtain ⟨p, _, rfl⟩ := List.mem_map.1 hx; rfl
@[go_sem] theorem ubl_ren (m : Nat → Nat) (l : List (List UInt8)) : AV.renL m (ubl l) = ubl l := cloL_renL (ubl_clo l)
@[go_sem] theorem ubl_ids (p : Nat → Prop) (l : List (List UInt8)) : AV.idsL p (ubl l) = True := eq_true (cloL_idsL (ubl_clo l))
@[go_sem] theorem ubl_cloT (l : List (List UInt8)) : AV.cloL (ubl l) = True := by simp [ubl_clo]
theorem grow_nc (n : Nat) (h0 : 0 < n) (hn : n ≤ 2 ^ 40) : ACall Tryd.prog 50 [.nilsl, .i n] (fun _ => none) 0 0 (fun r hp' => r = .rw 0 ∧ hp' = mkHp [(0, .row 1 [])]) (fun _ _ => False) := by
 have q : decide ((n : Int) < 0) = false := by simp
 have q1 : decide ((n : Int) > 0) = true := by simpa using h0
 have u : IntKind.i64.wrap (n : Int) = n := wrap64 (by omega) (by omega)
 refine ACall.of_bodyR Tryd.func50 isf50 rfl (by simp [Tryd.f50]) fun E Q hE hN hQ hQp => K_start ?_
 repeat' (first | apply nx | refine Kq_exit_ne (by decide) ?_ | rw [wrap64 (by omega) (by omega)] | ((first | refine hK _ ?_ | refine hKp _ _ ?_); clear hK hKp K Kp; try clear hanc anc) | ((with_reducible refine And.intro ?_ ?_); (focus (first | trivial | omega | (simp only [Fits]; omega) | assumption | (rw [hanc]; rfl)))) | ((first | refine K_regA hE fun K Kp hK hKp => ?_ | refine K_drwA true mixed hE fun K Kp hK hKp anc hanc => ?_ | refine K_drwA false mixed hE fun K Kp hK hKp anc hanc => ?_); simp only [go_sem, q, q1, u, Int.sub_zero]) | ((first | refine onG_split_t (fun hg => ?_) (fun hg => ?_) | refine onG_split_f (fun hg => ?_) (fun hg => ?_)) <;> simp only [go_sem, q, q1, u, Int.sub_zero, hg]) | (refine K_condA (fun hc => ?_) (fun hc => ?_) <;> try (exact absurd hc (by decide))))
 refine K_ret (hQ _ ⟨.rw 0, fun _ => 22020096, _, 1, resA_tmp (by simp only [go_sem]), (by simp [AV.ids, AV.idsL]), ?_, rfl, rfl⟩).1
 show Ent _ _ _ (mkSt [] [(0, .row 1 [])] 1)
 refine ent_mk (by simp [go_sem]) (by simp [go_sem]) (by simp) (by simp [hN])
def tot (l : List (List UInt8)) : Nat := (l.map List.length).sum
theorem tot_take {l : List (List UInt8)} {i : Nat} {r : List UInt8} (h : l[i]? = some r) : tot (l.take (i + 1)) = tot (l.take i) + r.length := by rw [take_get h]; simp [tot]
theorem tot_le (l : List (List UInt8)) (i : Nat) : tot (l.take i) ≤ tot l := by
 conv => rhs; rw [← List.take_append_drop i l]
 simp only [tot, List.map_append, List.sum_append]
 omega
theorem tot_flat (l : List (List UInt8)) : l.flatten.length = tot l := by simp [tot, List.length_flatten]
theorem flat_take {l : List (List UInt8)} {i : Nat} {r : List UInt8} (h : l[i]? = some r) : (l.take (i + 1)).flatten = (l.take i).flatten ++ r := by rw [take_get h]; simp
theorem concat_call (l : List (List UInt8)) (hl : l.length ≤ 2 ^ 20) (h0 : 0 < tot l) (ht : tot l ≤ 2 ^ 40) : PCall Tryd.prog 42 [.sl (ubl l)] (.sl (ub l.flatten)) := by
 have hg := grow_nc (tot l) h0 ht
 refine PCall.intro Tryd.func42 rfl isf42 (by simp [Tryd.f42]) (by simp [AV.cloL, AV.clo]) fun E Q hE hN hQ => K_start ?_
 repeat' (first | apply nx | refine Kq_exit_ne (by decide) ?_ | rw [wrap64 (by omega) (by omega)] | ((first | refine hK _ ?_ | refine hKp _ _ ?_); clear hK hKp K Kp; try clear hanc anc) | ((with_reducible refine And.intro ?_ ?_); (focus (first | trivial | omega | (simp only [Fits]; omega) | assumption | (rw [hanc]; rfl)))) | ((first | refine K_regA hE fun K Kp hK hKp => ?_ | refine K_drwA false mixed hE fun K Kp hK hKp anc hanc => ?_); simp only [go_sem]) | ((first | refine onG_split_t (fun hg => ?_) (fun hg => ?_) | refine onG_split_f (fun hg => ?_) (fun hg => ?_)) <;> simp only [go_sem, hg]) | (refine K_condA (fun hc => ?_) (fun hc => ?_) <;> try (exact absurd hc (by decide))) | (refine K_ret ?_; refine (hQ _ ⟨_, by (try simp only [go_sem, ↓reduceIte, Nat.reduceEqDiff]); rfl, by simp [go_sem], ?_, by first | rfl | assumption⟩).1))
 refine K_loop (X := Nat) (fun i => i ≤ l.length) (fun i => mkSt [(0, .sl (ubl l)), (3, .i (tot (l.take i))), (9, .sl (ubl l)), (10, .i l.length), (11, AV.i i)] [] 0) (fun i => l.length - i) 0 (Nat.zero_le _) (fun i => i) (by refine ent_mk (by simp [go_sem, tot]) (by simp [go_sem, tot]) (by simp) (by simp [hN])) ?_
 intro i hi
 by_cases hlt : i < l.length
 ·obtain ⟨r, hr⟩ := get?_of hlt
  have e := tot_take hr
  have e2 := tot_le l (i + 1)
  have u : IntKind.i64.wrap ((tot (l.take i) : Int) + (r.length : Int)) = ((tot (l.take (i + 1)) : Nat) : Int) := by rw [wrap64 (by omega) (by omega)]; omega
  have q : decide (((tot (l.take (i + 1)) : Nat) : Int) < 0) = false := by simp
  repeat' (first | apply nx | refine Kq_exit_ne (by decide) ?_ | rw [wrap64 (by omega) (by omega)] | ((first | refine hK _ ?_ | refine hKp _ _ ?_); clear hK hKp K Kp; try clear hanc anc) | ((with_reducible refine And.intro ?_ ?_); (focus (first | trivial | omega | (simp only [Fits]; omega) | assumption | (rw [hanc]; rfl)))) | ((first | refine K_regA hE fun K Kp hK hKp => ?_ | refine K_drwA false mixed hE fun K Kp hK hKp anc hanc => ?_); simp only [go_sem, lt_dec hlt, hr, u, q]) | ((first | refine onG_split_t (fun hg => ?_) (fun hg => ?_) | refine onG_split_f (fun hg => ?_) (fun hg => ?_)) <;> simp only [go_sem, lt_dec hlt, hr, u, q, hg]) | (refine K_condA (fun hc => ?_) (fun hc => ?_) <;> try (exact absurd hc (by decide))) | (refine K_ret ?_; refine (hQ _ ⟨_, by (try simp only [go_sem, ↓reduceIte, Nat.reduceEqDiff]); rfl, by simp [go_sem], ?_, by first | rfl | assumption⟩).1))
  exact ⟨i + 1, by omega, by omega, fun i => i, by refine ent_mk (by simp [go_sem]) (by simp [go_sem]) (by simp) (by simp [hN])⟩
 ·obtain rfl : i = l.length := by omega
  repeat' (first | apply nx | refine Kq_exit_ne (by decide) ?_ | rw [wrap64 (by omega) (by omega)] | ((first | refine hK _ ?_ | refine hKp _ _ ?_); clear hK hKp K Kp; try clear hanc anc) | ((with_reducible refine And.intro ?_ ?_); (focus (first | trivial | omega | (simp only [Fits]; omega) | assumption | (rw [hanc]; rfl)))) | ((first | refine K_regA hE fun K Kp hK hKp => ?_ | refine K_drwA false mixed hE fun K Kp hK hKp anc hanc => ?_); simp only [go_sem, ge_dec, List.take_length]) | ((first | refine onG_split_t (fun hg => ?_) (fun hg => ?_) | refine onG_split_f (fun hg => ?_) (fun hg => ?_)) <;> simp only [go_sem, ge_dec, List.take_length, hg]) | (refine K_condA (fun hc => ?_) (fun hc => ?_) <;> try (exact absurd hc (by decide))) | (refine K_ret ?_; refine (hQ _ ⟨_, by (try simp only [go_sem, ↓reduceIte, Nat.reduceEqDiff]); rfl, by simp [go_sem], ?_, by first | rfl | assumption⟩).1))
  refine Hold.mk (CallB.newRow hg (by simp [AV.cloL, AV.clo]) (by rfl) ?_)
  simp only [go_sem]
  refine hK _ ?_; clear hK hKp K Kp; try clear hanc anc
  repeat (first | refine Kq_norm_code ?_ | refine Kq_norm_blk ?_ | refine Kq_norm_lp ?_)
  repeat' (first | apply nx | refine Kq_exit_ne (by decide) ?_ | rw [wrap64 (by omega) (by omega)] | ((first | refine hK _ ?_ | refine hKp _ _ ?_); clear hK hKp K Kp; try clear hanc anc) | ((with_reducible refine And.intro ?_ ?_); (focus (first | trivial | omega | (simp only [Fits]; omega) | assumption | (rw [hanc]; rfl)))) | ((first | refine K_regA hE fun K Kp hK hKp => ?_ | refine K_drwA false mixed hE fun K Kp hK hKp anc hanc => ?_); simp only [go_sem]) | ((first | refine onG_split_t (fun hg => ?_) (fun hg => ?_) | refine onG_split_f (fun hg => ?_) (fun hg => ?_)) <;> simp only [go_sem, hg]) | (refine K_condA (fun hc => ?_) (fun hc => ?_) <;> try (exact absurd hc (by decide))) | (refine K_ret ?_; refine (hQ _ ⟨_, by (try simp only [go_sem, ↓reduceIte, Nat.reduceEqDiff]); rfl, by simp [go_sem], ?_, by first | rfl | assumption⟩).1))
  refine K_loop (X := Nat) (fun i => i ≤ l.length) (fun i => mkSt [(6, .rw 0), (25, .sl (ubl l)), (26, .i l.length), (27, AV.i i)] [(0, .row 1 (ub (l.take i).flatten))] 1) (fun i => l.length - i) 0 (Nat.zero_le _) (fun i => 2097152) (by refine ent_mk (by simp [go_sem]) (by simp [go_sem]) (by simp) (by simp [hN])) ?_
  intro i hi
  by_cases hlt : i < l.length
  ·obtain ⟨r, hr⟩ := get?_of hlt
   have e := flat_take hr
   have e2 := tot_le l (i + 1)
   have e3 := tot_flat (l.take (i + 1))
   rw [e, List.length_append] at e3
   have hf : Fits ((l.take i).flatten.length + r.length) 1 := by simp only [Fits]; omega
   repeat' (first | apply nx | refine Kq_exit_ne (by decide) ?_ | rw [wrap64 (by omega) (by omega)] | ((first | refine hK _ ?_ | refine hKp _ _ ?_); clear hK hKp K Kp; try clear hanc anc) | ((with_reducible refine And.intro ?_ ?_); (focus (first | trivial | omega | (simp only [Fits]; omega) | assumption | (rw [hanc]; rfl)))) | ((first | refine K_regA hE fun K Kp hK hKp => ?_ | refine K_drwA false mixed hE fun K Kp hK hKp anc hanc => ?_); simp only [go_sem, lt_dec hlt, hr]) | ((first | refine onG_split_t (fun hg => ?_) (fun hg => ?_) | refine onG_split_f (fun hg => ?_) (fun hg => ?_)) <;> simp only [go_sem, lt_dec hlt, hr, hg]) | (refine K_condA (fun hc => ?_) (fun hc => ?_) <;> try (exact absurd hc (by decide))) | (refine K_ret ?_; refine (hQ _ ⟨_, by (try simp only [go_sem, ↓reduceIte, Nat.reduceEqDiff]); rfl, by simp [go_sem], ?_, by first | rfl | assumption⟩).1))
   exact ⟨i + 1, by omega, by omega, fun i => 6291457, by refine ent_mk (by simp [go_sem, e]) (by simp [go_sem, e]) (by simp) (by simp [hN])⟩
  ·obtain rfl : i = l.length := by omega
   repeat' (first | apply nx | refine Kq_exit_ne (by decide) ?_ | rw [wrap64 (by omega) (by omega)] | ((first | refine hK _ ?_ | refine hKp _ _ ?_); clear hK hKp K Kp; try clear hanc anc) | ((with_reducible refine And.intro ?_ ?_); (focus (first | trivial | omega | (simp only [Fits]; omega) | assumption | (rw [hanc]; rfl)))) | ((first | refine K_regA hE fun K Kp hK hKp => ?_ | refine K_drwA false mixed hE fun K Kp hK hKp anc hanc => ?_); simp only [go_sem, ge_dec, List.take_length]) | ((first | refine onG_split_t (fun hg => ?_) (fun hg => ?_) | refine onG_split_f (fun hg => ?_) (fun hg => ?_)) <;> simp only [go_sem, ge_dec, List.take_length, hg]) | (refine K_condA (fun hc => ?_) (fun hc => ?_) <;> try (exact absurd hc (by decide))) | (refine K_ret ?_; refine (hQ _ ⟨_, by (try simp only [go_sem, ↓reduceIte, Nat.reduceEqDiff]); rfl, by simp [go_sem], ?_, by first | rfl | assumption⟩).1))
   simp [AV.snap, go_sem]
theorem join_call (l : List (List UInt8)) (hl : l.length ≤ 2 ^ 20) (h0 : 0 < tot l) (ht : tot l ≤ 2 ^ 40) : PCall Tryd.prog 27 [.sl (ubl l)] (.sl (ub l.flatten)) := by
 have hc0 := concat_call l hl h0 ht
 refine PCall.intro Tryd.func27 rfl isf27 (by simp [Tryd.f27]) (by simp [AV.cloL, AV.clo]) fun E Q hE hN hQ => K_start ?_
 repeat' (first | apply nx | refine Kq_exit_ne (by decide) ?_ | rw [wrap64 (by omega) (by omega)] | ((first | refine hK _ ?_ | refine hKp _ _ ?_); clear hK hKp K Kp; try clear hanc anc) | ((with_reducible refine And.intro ?_ ?_); (focus (first | trivial | omega | (simp only [Fits]; omega) | assumption | (rw [hanc]; rfl)))) | ((first | refine K_regA hE fun K Kp hK hKp => ?_ | refine K_drwA false mixed hE fun K Kp hK hKp anc hanc => ?_ | ((first | apply CallP_mk | apply CallB_mk); (focus (simp only [go_sem] <;> rfl)); (focus (exact hc0)); (focus (first | (simp [go_sem]; done) | (simp [go_sem, CloRow, AV.cells, AV.clo]; done))); (focus (first | exact .inl rfl | (right; simp [go_sem]))))); simp only [go_sem]) | ((first | refine onG_split_t (fun hg => ?_) (fun hg => ?_) | refine onG_split_f (fun hg => ?_) (fun hg => ?_)) <;> simp only [go_sem, hg]) | (refine K_condA (fun hc => ?_) (fun hc => ?_) <;> try (exact absurd hc (by decide))) | (refine K_ret ?_; refine (hQ _ ⟨_, by (try simp only [go_sem, ↓reduceIte, Nat.reduceEqDiff]); rfl, by simp [go_sem], ?_, by first | rfl | assumption⟩).1))
 simp [AV.snap]
end Go.Proofs.YtfiehjbijdmbaaaDoor
