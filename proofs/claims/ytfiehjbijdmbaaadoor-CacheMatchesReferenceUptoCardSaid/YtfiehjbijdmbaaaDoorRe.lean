/- A part of the proof: an abstract machine for the walks, and what the walked functions compute. -/
import Derived.Test.YtfiehjbijdmbaaaDoorRd
import Derived.Test.YtfiehjbijdmbaaaDoorMs
set_option linter.unusedVariables false
set_option linter.unusedSimpArgs false
set_option linter.unusedSimpArgs false
set_option linter.unusedVariables false
set_option maxHeartbeats 4000000
set_option maxRecDepth 100000
namespace Go.Proofs.YtfiehjbijdmbaaaDoor
open Go.Am Go.Proofs Go.Ca
open Classical
attribute [local irreducible] AW CallP CallB
def isN (s : ByteArray) (f : Fl) : Bool := decide (f.nm = s)
theorem named_hc (f : Fl) (s : ByteArray) (hp : Nat → Option AObj) (np a : Nat) (hw : WF hp np) (ha : hp a = some (.cells [.str s])) : HC Tryd.prog 40 [f.av, .ptr a 0] hp np (.bool (isN s f)) := by
 have q := ba_eqB f.nm s
 have hla := (hw.1 a _ ha).1
 have hnp := hw.2.2
 rw [Fl.av_eq]
 refine HC.intro hw rfl Tryd.func40 rfl isf40 (by simp [Tryd.f40]) fun E Q hE hN hQ => K_start ?_
 have da : (a = 1000000) = False := by simp; omega
 unfold isN at hQ
 repeat' (first | apply nx | refine Kq_exit_ne (by decide) ?_ | rw [wrap64 (by omega) (by omega)] | ((first | refine hK _ ?_ | refine hKp _ _ ?_); clear hK hKp K Kp; try clear hanc anc) | ((with_reducible refine And.intro ?_ ?_); (focus (first | trivial | omega | (simp only [Fits]; omega) | assumption | (rw [hanc]; rfl)))) | ((first | refine K_regA hE fun K Kp hK hKp => ?_ | refine K_drwA true mixed hE fun K Kp hK hKp anc hanc => ?_ | refine K_drwA false mixed hE fun K Kp hK hKp anc hanc => ?_); simp only [go_sem, ha, q, da, if_false]) | ((first | refine onG_split_t (fun hg => ?_) (fun hg => ?_) | refine onG_split_f (fun hg => ?_) (fun hg => ?_)) <;> simp only [go_sem, ha, q, da, if_false, hg]) | (refine K_condA (fun hc => ?_) (fun hc => ?_) <;> try (exact absurd hc (by decide))))
 exact K_ret (hQ _ (by simp only [go_sem]; rfl) (fun id ob h => by have := (hw.1 id ob h).1; simp only [updo]; rw [if_neg (by omega)]; exact h)).1
def dHp (l : List Fl) (s : ByteArray) : Nat → Option AObj := mkHp [(0, .row 2 (fl l)), (1, .cells [.str s])]
theorem dHp_wf (l : List Fl) (s : ByteArray) : WF (dHp l s) 2 := WF.of_list (by decide) (by simp [AObj.ids, AV.ids, AV.idsL, go_sem]) (fun id hid => by
 rcases (by omega : id = 0 ∨ id = 1) with rfl | rfl <;> simp [mkHp, updo])
theorem idx_hc (l : List Fl) (s : ByteArray) (hl : l.length ≤ 2 ^ 30) : HC Tryd.prog 48 [.rw 0, .fn (.func 40) [] [.ptr 1 0]] (dHp l s) 2 (.i (fidx (isN s) l 0)) := by
  have hw := dHp_wf l s
  refine HC.intro hw rfl Tryd.func48 rfl isf48 (by simp [Tryd.f48]) fun E Q hE hN hQ => K_start ?_
  have g0 : dHp l s 0 = some (.row 2 (fl l)) := rfl
  have g1 : dHp l s 1 = some (.cells [.str s]) := rfl
  have hlt0 : ∀ id ob, dHp l s id = some ob → id < 1000000 ∧ ob.ids (· < 1000000) := fun id ob h => by
    have := hw.1 id ob h
    exact ⟨by omega, objids_mono _ (fun i hi => by omega) this.2⟩
  repeat' (first | apply nx | refine Kq_exit_ne (by decide) ?_ | rw [wrap64 (by omega) (by omega)] | ((first | refine hK _ ?_ | refine hKp _ _ ?_); clear hK hKp K Kp; try clear hanc anc) | ((with_reducible refine And.intro ?_ ?_); (focus (first | trivial | omega | (simp only [Fits]; omega) | assumption | (rw [hanc]; rfl)))) | ((first | refine K_regA hE fun K Kp hK hKp => ?_ | refine K_drwA true mixed hE fun K Kp hK hKp anc hanc => ?_ | refine K_drwA false mixed hE fun K Kp hK hKp anc hanc => ?_); simp only [go_sem, g0]) | ((first | refine onG_split_t (fun hg => ?_) (fun hg => ?_) | refine onG_split_f (fun hg => ?_) (fun hg => ?_)) <;> simp only [go_sem, g0, hg]) | (refine K_condA (fun hc => ?_) (fun hc => ?_) <;> try (exact absurd hc (by decide))))
  refine K_loop (X := Nat) (fun i => i ≤ l.length ∧ fidx (isN s) l 0 = fidx (isN s) (l.drop i) i) (fun i => ⟨mkFr [(0, .rw 0), (1, .fn (.func 40) [] [.ptr 1 0]), (7, AV.i l.length), (8, AV.i i)], dHp l s, 1000000⟩) (fun i => l.length - i) 0 ⟨Nat.zero_le _, rfl⟩ (fun i => i) (ent_keep (by simp [go_sem, AV.ids, AV.idsL]) (fun id ob h => ⟨h, hlt0 id ob h⟩) (by omega)) ?_
  rintro i ⟨hi, ht⟩
  by_cases hlt : i < l.length
  · obtain ⟨x, hx⟩ := get?_of hlt
    rw [drop_of hx, fidx] at ht
    have hgx := named_hc x s (mkHp [(0, .cells [.str s])]) 1 0 (WF.of_list (by decide) (by simp [AObj.ids, AV.ids, AV.idsL, go_sem]) (fun id hid => by obtain rfl : id = 0 := by omega
                                                                                                                                                       simp [mkHp, updo])) (by simp [mkHp, updo])
    rw [Fl.av_eq] at hgx
    repeat' (first | apply nx | refine Kq_exit_ne (by decide) ?_ | rw [wrap64 (by omega) (by omega)] | ((first | refine hK _ ?_ | refine hKp _ _ ?_); clear hK hKp K Kp; try clear hanc anc) | ((with_reducible refine And.intro ?_ ?_); (focus (first | trivial | omega | (simp only [Fits]; omega) | assumption | (rw [hanc]; rfl)))) | ((first | refine K_regA hE fun K Kp hK hKp => ?_ | refine K_drwA true mixed hE fun K Kp hK hKp anc hanc => ?_ | refine K_drwA false mixed hE fun K Kp hK hKp anc hanc => ?_); simp only [go_sem, lt_dec hlt, hx, Fl.av_eq, g0]) | ((first | refine onG_split_t (fun hg => ?_) (fun hg => ?_) | refine onG_split_f (fun hg => ?_) (fun hg => ?_)) <;> simp only [go_sem, lt_dec hlt, hx, Fl.av_eq, g0, hg]) | (refine K_condA (fun hc => ?_) (fun hc => ?_) <;> try (exact absurd hc (by decide))))
    refine Hold.mk (HC.use hgx (fun _ => 1) (by simp [AV.renL, AV.ren, go_sem]) (by simp [go_sem, AV.ids, AV.idsL]) (mkHp_allP (by simp [go_sem, AObj.ren, AV.renL, AV.ren, g1])) (fun i j h1 h2 e => by omega) ?_)
    rintro hpn hold
    simp only [go_sem]
    refine hK _ ?_; clear hK hKp K Kp; try clear hanc anc
    repeat (first | refine Kq_norm_code ?_ | refine Kq_norm_blk ?_ | refine Kq_norm_lp ?_)
    refine AW.ent (fun i => i) (σ' := ⟨mkFr [(0, .rw 0), (1, .fn (.func 40) [] [.ptr 1 0]), (5, AV.i i), (7, AV.i l.length), (8, AV.i i), (16, .bool (isN s x))], dHp l s, 1000000⟩) (ent_keep (by simp [go_sem, AV.ids, AV.idsL]) (fun id ob h => ⟨hold id ob h, hlt0 id ob h⟩) (by omega)) ?_
    cases hbx : isN s x
    · rw [hbx] at ht
      repeat' (first | apply nx | refine Kq_exit_ne (by decide) ?_ | rw [wrap64 (by omega) (by omega)] | ((first | refine hK _ ?_ | refine hKp _ _ ?_); clear hK hKp K Kp; try clear hanc anc) | ((with_reducible refine And.intro ?_ ?_); (focus (first | trivial | omega | (simp only [Fits]; omega) | assumption | (rw [hanc]; rfl)))) | ((first | refine K_regA hE fun K Kp hK hKp => ?_ | refine K_drwA true mixed hE fun K Kp hK hKp anc hanc => ?_ | refine K_drwA false mixed hE fun K Kp hK hKp anc hanc => ?_); simp only [go_sem]) | ((first | refine onG_split_t (fun hg => ?_) (fun hg => ?_) | refine onG_split_f (fun hg => ?_) (fun hg => ?_)) <;> simp only [go_sem, hg]) | (refine K_condA (fun hc => ?_) (fun hc => ?_) <;> try (exact absurd hc (by decide))))
      exact ⟨i + 1, ⟨by omega, by simpa using ht⟩, by omega, fun i => i, ent_keep (by simp [go_sem, AV.ids, AV.idsL]) (fun id ob h => ⟨h, hlt0 id ob h⟩) (by omega)⟩
    · rw [hbx, if_pos rfl] at ht
      rw [ht] at hQ
      repeat' (first | apply nx | refine Kq_exit_ne (by decide) ?_ | rw [wrap64 (by omega) (by omega)] | ((first | refine hK _ ?_ | refine hKp _ _ ?_); clear hK hKp K Kp; try clear hanc anc) | ((with_reducible refine And.intro ?_ ?_); (focus (first | trivial | omega | (simp only [Fits]; omega) | assumption | (rw [hanc]; rfl)))) | ((first | refine K_regA hE fun K Kp hK hKp => ?_ | refine K_drwA true mixed hE fun K Kp hK hKp anc hanc => ?_ | refine K_drwA false mixed hE fun K Kp hK hKp anc hanc => ?_); simp only [go_sem]) | ((first | refine onG_split_t (fun hg => ?_) (fun hg => ?_) | refine onG_split_f (fun hg => ?_) (fun hg => ?_)) <;> simp only [go_sem, hg]) | (refine K_condA (fun hc => ?_) (fun hc => ?_) <;> try (exact absurd hc (by decide))))
      exact K_ret (hQ _ (by simp only [go_sem]; rfl) (fun id ob h => h)).1
  · obtain rfl : i = l.length := by omega
    rw [List.drop_length, fidx] at ht
    rw [ht] at hQ
    repeat' (first | apply nx | refine Kq_exit_ne (by decide) ?_ | rw [wrap64 (by omega) (by omega)] | ((first | refine hK _ ?_ | refine hKp _ _ ?_); clear hK hKp K Kp; try clear hanc anc) | ((with_reducible refine And.intro ?_ ?_); (focus (first | trivial | omega | (simp only [Fits]; omega) | assumption | (rw [hanc]; rfl)))) | ((first | refine K_regA hE fun K Kp hK hKp => ?_ | refine K_drwA true mixed hE fun K Kp hK hKp anc hanc => ?_ | refine K_drwA false mixed hE fun K Kp hK hKp anc hanc => ?_); simp only [go_sem, ge_dec]) | ((first | refine onG_split_t (fun hg => ?_) (fun hg => ?_) | refine onG_split_f (fun hg => ?_) (fun hg => ?_)) <;> simp only [go_sem, ge_dec, hg]) | (refine K_condA (fun hc => ?_) (fun hc => ?_) <;> try (exact absurd hc (by decide))))
    exact K_ret (hQ _ (by simp only [go_sem]; rfl) (fun id ob h => h)).1
end Go.Proofs.YtfiehjbijdmbaaaDoor

set_option linter.unusedSimpArgs false
set_option linter.unusedVariables false
set_option maxHeartbeats 4000000
set_option maxRecDepth 100000
namespace Go.Proofs.YtfiehjbijdmbaaaDoor
open Go.Am Go.Proofs Go.Ca
open Classical
attribute [local irreducible] AW CallP CallB
theorem fidx_cases {α : Type} (b : α → Bool) : ∀ (l : List α) (k : Nat), (fidx b l k = -1 ∧ l.filter (fun x => !b x) = l) ∨ ∃ i x, fidx b l k = ((k + i : Nat) : Int) ∧ l[i]? = some x ∧ b x = true ∧ (l.take i).filter (fun x => !b x) = l.take i
 | [], k => .inl ⟨rfl, rfl⟩
 | x :: l, k => by
  rw [fidx]
  cases hb : b x
  ·rw [if_neg (by simp)]
   rcases fidx_cases b l (k + 1) with ⟨h1, h2⟩ | ⟨i, y, h1, h2, h3, h4⟩
   ·exact .inl ⟨h1, by simp [hb, h2]⟩
   ·exact .inr ⟨i + 1, y, by rw [h1]; congr 1; omega, by simpa using h2, h3, by simp [hb, h4]⟩
  ·rw [if_pos rfl]
   exact .inr ⟨0, x, rfl, rfl, hb, rfl⟩
def keep (s : ByteArray) (l : List Fl) : List Fl := l.filter fun f => !isN s f
theorem keep_take {s : ByteArray} {l : List Fl} {j : Nat} {f : Fl} (h : l[j]? = some f) : keep s (l.take (j + 1)) = keep s (l.take j) ++ (if isN s f then [] else [f]) := by
 rw [take_get h, keep, List.filter_append]
 cases hb : isN s f <;> simp [keep, hb]
theorem keep_len (s : ByteArray) (l : List Fl) : (keep s l).length ≤ l.length := List.length_filter_le ..
theorem del_c (l : List Fl) (s : ByteArray) (hl : l.length ≤ 2 ^ 30) : ACall Tryd.prog 39 [.rw 0, .fn (.func 40) [] [.ptr 1 0]] (dHp l s) 1000000 2
    (fun r hp' => (r = .rw 0 ∧ hp' = dHp (keep s l) s) ∨ (r = .rw 2 ∧ hp' = mkHp [(1, .cells [.str s]), (2, .row 2 (fl (keep s l)))])) (fun _ _ => False) := by
  have hix := idx_hc l s hl
  have hw := dHp_wf l s
  have hlt0 : ∀ id ob, dHp l s id = some ob → id < 1000000 ∧ ob.ids (· < 1000000) := fun id ob h => by
    have := hw.1 id ob h
    exact ⟨by omega, objids_mono _ (fun i hi => by omega) this.2⟩
  refine ACall.of_bodyR Tryd.func39 isf39 rfl (by simp [Tryd.f39]) fun E Q hE hN hQ hQp => K_start ?_
  repeat' (first | apply nx | refine Kq_exit_ne (by decide) ?_ | rw [wrap64 (by omega) (by omega)] | ((first | refine hK _ ?_ | refine hKp _ _ ?_); clear hK hKp K Kp; try clear hanc anc) | ((with_reducible refine And.intro ?_ ?_); (focus (first | trivial | omega | (simp only [Fits]; omega) | assumption | (rw [hanc]; rfl)))) | ((first | refine K_regA hE fun K Kp hK hKp => ?_ | refine K_drwA true mixed hE fun K Kp hK hKp anc hanc => ?_ | refine K_drwA false mixed hE fun K Kp hK hKp anc hanc => ?_); simp only [go_sem]) | ((first | refine onG_split_t (fun hg => ?_) (fun hg => ?_) | refine onG_split_f (fun hg => ?_) (fun hg => ?_)) <;> simp only [go_sem, hg]) | (refine K_condA (fun hc => ?_) (fun hc => ?_) <;> try (exact absurd hc (by decide))))
  refine Hold.mk (HC.use hix (fun i => i) (by rw [renL_id]) (by simp [go_sem, AV.ids, AV.idsL]) (fun id ob h => by rw [oren_id]; exact h) (fun _ _ _ _ e => e) ?_)
  rintro hpn hold
  have hcl := fidx_cases (isN s) l 0
  rw [show (fun x => !isN s x) = (fun f => !isN s f) from rfl] at hcl
  generalize fidx (isN s) l 0 = ix at *
  simp only [go_sem]
  refine hK _ ?_; clear hK hKp K Kp; try clear hanc anc
  repeat (first | refine Kq_norm_code ?_ | refine Kq_norm_blk ?_ | refine Kq_norm_lp ?_)
  refine AW.ent (fun i => i) (σ' := mkSt [(0, .rw 0), (1, .fn (.func 40) [] [.ptr 1 0]), (5, .i ix)] [(0, .row 2 (fl l)), (1, .cells [.str s])] 1000000) (ent_keep (by simp [go_sem, AV.ids, AV.idsL]) (fun id ob h => ⟨hold id ob h, hlt0 id ob h⟩) (by omega)) ?_
  clear hold
  rcases hcl with ⟨rfl, hk⟩ | ⟨i0, x0, rfl, hx0, hb0, hk⟩
  · have q : ((-1 : Int) == -1) = true := rfl
    repeat' (first | apply nx | refine Kq_exit_ne (by decide) ?_ | rw [wrap64 (by omega) (by omega)] | ((first | refine hK _ ?_ | refine hKp _ _ ?_); clear hK hKp K Kp; try clear hanc anc) | ((with_reducible refine And.intro ?_ ?_); (focus (first | trivial | omega | (simp only [Fits]; omega) | assumption | (rw [hanc]; rfl)))) | ((first | refine K_regA hE fun K Kp hK hKp => ?_ | refine K_drwA true mixed hE fun K Kp hK hKp anc hanc => ?_ | refine K_drwA false mixed hE fun K Kp hK hKp anc hanc => ?_); simp only [go_sem, q]) | ((first | refine onG_split_t (fun hg => ?_) (fun hg => ?_) | refine onG_split_f (fun hg => ?_) (fun hg => ?_)) <;> simp only [go_sem, q, hg]) | (refine K_condA (fun hc => ?_) (fun hc => ?_) <;> try (exact absurd hc (by decide))))
    refine K_ret (hQ _ ⟨.rw 0, fun i => i, _, 1000000, (by simp only [go_sem]; rfl), (by simp [AV.ids, AV.idsL]), ?_, .inl ⟨rfl, rfl⟩⟩).1
    rw [show keep s l = l from hk]
    show Ent _ _ _ (mkSt [] [(0, .row 2 (fl l)), (1, .cells [.str s])] 1000000)
    exact ent_mk (by simp [go_sem]) (by simp [go_sem]) (by simp) (by simp [hN]; intro id hid; omega)
  · have hi0 : i0 < l.length := (List.getElem?_eq_some_iff.1 hx0).1
    have q : (((0 + i0 : Nat) : Int) == -1) = false := by simp
    have u : IntKind.i64.wrap (((0 + i0 : Nat) : Int) + 1) = ((i0 + 1 : Nat) : Int) := by rw [wrap64 (by omega) (by omega)]; omega
    repeat' (first | apply nx | refine Kq_exit_ne (by decide) ?_ | rw [wrap64 (by omega) (by omega)] | ((first | refine hK _ ?_ | refine hKp _ _ ?_); clear hK hKp K Kp; try clear hanc anc) | ((with_reducible refine And.intro ?_ ?_); (focus (first | trivial | omega | (simp only [Fits]; omega) | assumption | (rw [hanc]; rfl)))) | ((first | refine K_regA hE fun K Kp hK hKp => ?_ | refine K_drwA true mixed hE fun K Kp hK hKp anc hanc => ?_ | refine K_drwA false mixed hE fun K Kp hK hKp anc hanc => ?_); simp only [go_sem, q, u]) | ((first | refine onG_split_t (fun hg => ?_) (fun hg => ?_) | refine onG_split_f (fun hg => ?_) (fun hg => ?_)) <;> simp only [go_sem, q, u, hg]) | (refine K_condA (fun hc => ?_) (fun hc => ?_) <;> try (exact absurd hc (by decide))))
    refine K_loop (X := Nat × List Fl) (fun z => z.1 ≤ l.length ∧ z.2.length = l.length ∧ (keep s (l.take z.1)).length < z.1 ∧ z.2.take (keep s (l.take z.1)).length = keep s (l.take z.1) ∧ z.2.drop z.1 = l.drop z.1) (fun z => mkSt [(0, .rw 0), (1, .fn (.func 40) [] [.ptr 1 0]), (5, .i (keep s (l.take z.1)).length), (6, .i z.1)] [(0, .row 2 (fl z.2)), (1, .cells [.str s])] 1000000) (fun z => l.length - z.1) (i0 + 1, l) ?_ (fun i => i) ?_ ?_
    · have e := keep_take (s := s) hx0
      rw [hb0, if_pos rfl, List.append_nil] at e
      have e2 : keep s (l.take i0) = l.take i0 := hk
      have e3 : (l.take i0).length = i0 := by simp; omega
      show i0 + 1 ≤ l.length ∧ l.length = l.length ∧ (keep s (l.take (i0 + 1))).length < i0 + 1 ∧ l.take (keep s (l.take (i0 + 1))).length = keep s (l.take (i0 + 1)) ∧ l.drop (i0 + 1) = l.drop (i0 + 1)
      rw [e, e2, e3]
      exact ⟨by omega, rfl, by omega, rfl, rfl⟩
    · have e := keep_take (s := s) hx0
      rw [hb0, if_pos rfl, List.append_nil] at e
      have e2 : keep s (l.take i0) = l.take i0 := hk
      have e3 : (l.take i0).length = i0 := by simp; omega
      simp only [e, e2, e3]
      exact ent_mk (by simp [go_sem]) (by simp [go_sem]) (by simp) (by simp [hN]; intro id hid; omega)
    rintro ⟨j, D⟩ ⟨hj, hD, hlt, ht, hd⟩
    simp only at hj hD hlt ht hd
    have hj30 : j ≤ 2 ^ 30 := by omega
    generalize hK : keep s (l.take j) = Kj at *
    by_cases hltj : j < l.length
    · have q1 : decide ((j : Int) < (D.length : Int)) = true := by rw [hD]; exact lt_dec hltj
      obtain ⟨f, hf⟩ := get?_of hltj
      have hDf : D[j]? = some f := by
        have h1 : (D.drop j)[0]? = (l.drop j)[0]? := by rw [hd]
        simpa [hf] using h1
      have hgx := named_hc f s (mkHp [(0, .cells [.str s])]) 1 0 (WF.of_list (by decide) (by simp [AObj.ids, AV.ids, AV.idsL, go_sem]) (fun id hid => by obtain rfl : id = 0 := by omega
                                                                                                                                                         simp [mkHp, updo])) (by simp [mkHp, updo])
      rw [Fl.av_eq] at hgx
      repeat' (first | apply nx | refine Kq_exit_ne (by decide) ?_ | rw [wrap64 (by omega) (by omega)] | ((first | refine hK _ ?_ | refine hKp _ _ ?_); clear hK hKp K Kp; try clear hanc anc) | ((with_reducible refine And.intro ?_ ?_); (focus (first | trivial | omega | (simp only [Fits]; omega) | assumption | (rw [hanc]; rfl)))) | ((first | refine K_regA hE fun K Kp hK hKp => ?_ | refine K_drwA true mixed hE fun K Kp hK hKp anc hanc => ?_ | refine K_drwA false mixed hE fun K Kp hK hKp anc hanc => ?_); simp only [go_sem, q1, hDf, Fl.av_eq]) | ((first | refine onG_split_t (fun hg => ?_) (fun hg => ?_) | refine onG_split_f (fun hg => ?_) (fun hg => ?_)) <;> simp only [go_sem, q1, hDf, Fl.av_eq, hg]) | (refine K_condA (fun hc => ?_) (fun hc => ?_) <;> try (exact absurd hc (by decide))))
      refine Hold.mk (HC.use hgx (fun _ => 1) (by simp [AV.renL, AV.ren, go_sem]) (by simp [go_sem, AV.ids, AV.idsL]) (mkHp_allP (by simp [go_sem, AObj.ren, AV.renL, AV.ren])) (fun i j h1 h2 e => by omega) ?_)
      rintro hpn hold
      have k0 := hold 0 (.row 2 (fl D)) (by simp [go_sem])
      have k1 := hold 1 (.cells [.str s]) (by simp [go_sem])
      have k2 := hold 9388608 (.cells [.str f.nm, .sl (ub f.bs)]) (by simp [go_sem])
      simp only [go_sem]
      refine hK _ ?_; clear hK hKp K Kp; try clear hanc anc
      repeat (first | refine Kq_norm_code ?_ | refine Kq_norm_blk ?_ | refine Kq_norm_lp ?_)
      have ek := keep_take (s := s) hf
      rw [hK] at ek
      refine AW.ent (σ' := mkSt [(0, .rw 0), (1, .fn (.func 40) [] [.ptr 1 0]), (5, .i Kj.length), (6, .i j), (7, .ptr 2 0), (29, .bool (!isN s f))] [(0, .row 2 (fl D)), (1, .cells [.str s]), (2, .cells [.str f.nm, .sl (ub f.bs)])] 1000000) (fun i => if i = 2 then 9388608 else i) (ent_mk (by simp [go_sem]) (by simp [go_sem, k0, k1, k2]) (by simp) (by simp [hN]; intro id hid; omega)) ?_
      have u6 : IntKind.i64.wrap ((j : Int) + 1) = ((j + 1 : Nat) : Int) := by rw [wrap64 (by omega) (by omega)]; omega
      have u5 : IntKind.i64.wrap ((Kj.length : Int) + 1) = ((Kj.length + 1 : Nat) : Int) := by rw [wrap64 (by omega) (by omega)]; omega
      cases hb : isN s f
      · rw [hb, if_neg (by simp)] at ek
        obtain ⟨y, hy⟩ := get?_of (show Kj.length < D.length by omega)
        repeat' (first | apply nx | refine Kq_exit_ne (by decide) ?_ | rw [wrap64 (by omega) (by omega)] | ((first | refine hK _ ?_ | refine hKp _ _ ?_); clear hK hKp K Kp; try clear hanc anc) | ((with_reducible refine And.intro ?_ ?_); (focus (first | trivial | omega | (simp only [Fits]; omega) | assumption | (rw [hanc]; rfl)))) | ((first | refine K_regA hE fun K Kp hK hKp => ?_ | refine K_drwA true mixed hE fun K Kp hK hKp anc hanc => ?_ | refine K_drwA false mixed hE fun K Kp hK hKp anc hanc => ?_); simp only [go_sem, Bool.not_false, hy, Fl.av_eq, u5, u6]) | ((first | refine onG_split_t (fun hg => ?_) (fun hg => ?_) | refine onG_split_f (fun hg => ?_) (fun hg => ?_)) <;> simp only [go_sem, Bool.not_false, hy, Fl.av_eq, u5, u6, hg]) | (refine K_condA (fun hc => ?_) (fun hc => ?_) <;> try (exact absurd hc (by decide))))
        refine ⟨(j + 1, D.set Kj.length f), ⟨by simp only; omega, by simpa using hD, ?_, ?_, ?_⟩, by simp only; omega, fun i => i, ?_⟩
        · simp only [ek, List.length_append, List.length_singleton]; omega
        · simp only [ek, List.length_append, List.length_singleton]
          rw [List.take_add_one, List.take_set_of_le (Nat.le_refl _), ht, List.getElem?_set_self (by omega)]
          rfl
        · simp only
          rw [List.drop_set_of_lt (by omega)]
          have h1 : (D.drop j).drop 1 = (l.drop j).drop 1 := by rw [hd]
          simpa [List.drop_drop] using h1
        · simp only [ek, List.length_append, List.length_singleton]
          exact ent_mk (by simp [go_sem]) (by simp [go_sem]) (by simp) (by simp [hN]; intro id hid; omega)
      · rw [hb, if_pos rfl, List.append_nil] at ek
        repeat' (first | apply nx | refine Kq_exit_ne (by decide) ?_ | rw [wrap64 (by omega) (by omega)] | ((first | refine hK _ ?_ | refine hKp _ _ ?_); clear hK hKp K Kp; try clear hanc anc) | ((with_reducible refine And.intro ?_ ?_); (focus (first | trivial | omega | (simp only [Fits]; omega) | assumption | (rw [hanc]; rfl)))) | ((first | refine K_regA hE fun K Kp hK hKp => ?_ | refine K_drwA true mixed hE fun K Kp hK hKp anc hanc => ?_ | refine K_drwA false mixed hE fun K Kp hK hKp anc hanc => ?_); simp only [go_sem, Bool.not_true, u6]) | ((first | refine onG_split_t (fun hg => ?_) (fun hg => ?_) | refine onG_split_f (fun hg => ?_) (fun hg => ?_)) <;> simp only [go_sem, Bool.not_true, u6, hg]) | (refine K_condA (fun hc => ?_) (fun hc => ?_) <;> try (exact absurd hc (by decide))))
        refine ⟨(j + 1, D), ⟨by simp only; omega, hD, by simp only [ek]; omega, by simp only [ek]; exact ht, ?_⟩, by simp only; omega, fun i => i, ?_⟩
        · simp only
          have h1 : (D.drop j).drop 1 = (l.drop j).drop 1 := by rw [hd]
          simpa [List.drop_drop] using h1
        · simp only [ek]
          exact ent_mk (by simp [go_sem]) (by simp [go_sem]) (by simp) (by simp [hN]; intro id hid; omega)
    · obtain rfl : j = l.length := by omega
      rw [List.take_length] at hK
      have q1 : decide ((l.length : Int) < (D.length : Int)) = false := by rw [hD]; exact ge_dec _
      repeat' (first | apply nx | refine Kq_exit_ne (by decide) ?_ | rw [wrap64 (by omega) (by omega)] | ((first | refine hK _ ?_ | refine hKp _ _ ?_); clear hK hKp K Kp; try clear hanc anc) | ((with_reducible refine And.intro ?_ ?_); (focus (first | trivial | omega | (simp only [Fits]; omega) | assumption | (rw [hanc]; rfl)))) | ((fail_if_success refine K_stop 11 ?_); (first | refine K_regA hE fun K Kp hK hKp => ?_ | refine K_drwA true mixed hE fun K Kp hK hKp anc hanc => ?_ | refine K_drwA false mixed hE fun K Kp hK hKp anc hanc => ?_); simp only [go_sem, q1]) | ((first | refine onG_split_t (fun hg => ?_) (fun hg => ?_) | refine onG_split_f (fun hg => ?_) (fun hg => ?_)) <;> simp only [go_sem, q1, hg]) | (refine K_condA (fun hc => ?_) (fun hc => ?_) <;> try (exact absurd hc (by decide))))
      refine AW_clear (rid := 0) (k := .i64) (n := Kj.length) (l := fl D) ti22 rfl ti37 rfl rfl (.inl rfl) (by decide) (by rw [hE]; decide) (by rw [hE]; decide) (by rw [hE]; decide) (by decide) (by decide) (by simp only [go_sem]) (by simp only [go_sem]) (by simp only [go_sem]) (by rw [fl_len, hD]; exact hlt) ?_
      refine Kq_norm_code ?_
      refine AW.ent (σ' := mkSt [(0, .rw 0), (5, .i Kj.length)] [(0, .row 2 ((fl D).take Kj.length ++ List.replicate ((fl D).length - Kj.length) (mkElem ⟨TK.struct [(9, 0), (23, 1)], 2, 40, some [AV.str ⟨#[]⟩, AV.nilsl]⟩ [AV.str ⟨#[]⟩, AV.nilsl]))), (1, .cells [.str s])] 1000000) (fun i => i) ?_ ?_
      · have hci : ∀ x, x ∈ (fl D).take Kj.length ++ List.replicate ((fl D).length - Kj.length) (mkElem ⟨TK.struct [(9, 0), (23, 1)], 2, 40, some [AV.str ⟨#[]⟩, AV.nilsl]⟩ [AV.str ⟨#[]⟩, AV.nilsl]) → x.clo = true := by
          intro x hx
          rcases List.mem_append.1 hx with hx | hx
          · obtain ⟨p, _, rfl⟩ := List.mem_map.1 (List.mem_of_mem_take hx); rfl
          · rw [List.eq_of_mem_replicate hx]; rfl
        have hcl := cloLeq _ hci
        generalize ((fl D).take Kj.length ++ List.replicate ((fl D).length - Kj.length) (mkElem ⟨TK.struct [(9, 0), (23, 1)], 2, 40, some [AV.str ⟨#[]⟩, AV.nilsl]⟩ [AV.str ⟨#[]⟩, AV.nilsl])) = R at *
        exact ent_mk (by simp [go_sem]) (by simp [go_sem, AObj.ren, AObj.ids, cloL_renL hcl, eq_true (cloL_idsL hcl)]) (by simp) (by simp [hN]; intro id hid; omega)
      have e : (((fl D).take Kj.length ++ List.replicate ((fl D).length - Kj.length) (mkElem ⟨TK.struct [(9, 0), (23, 1)], 2, 40, some [AV.str ⟨#[]⟩, AV.nilsl]⟩ [AV.str ⟨#[]⟩, AV.nilsl])).take Kj.length) = fl Kj := by
        rw [List.take_left' (by rw [List.length_take, fl_len, hD]; omega), fl_take, ht]
      have hRl : Kj.length ≤ ((fl D).take Kj.length ++ List.replicate ((fl D).length - Kj.length) (mkElem ⟨TK.struct [(9, 0), (23, 1)], 2, 40, some [AV.str ⟨#[]⟩, AV.nilsl]⟩ [AV.str ⟨#[]⟩, AV.nilsl])).length := by rw [List.length_append, List.length_take, List.length_replicate, fl_len, hD]; omega
      generalize hR : ((fl D).take Kj.length ++ List.replicate ((fl D).length - Kj.length) (mkElem ⟨TK.struct [(9, 0), (23, 1)], 2, 40, some [AV.str ⟨#[]⟩, AV.nilsl]⟩ [AV.str ⟨#[]⟩, AV.nilsl])) = R at *
      repeat' (first | apply nx | refine Kq_exit_ne (by decide) ?_ | rw [wrap64 (by omega) (by omega)] | ((first | refine hK _ ?_ | refine hKp _ _ ?_); clear hK hKp K Kp; try clear hanc anc) | ((with_reducible refine And.intro ?_ ?_); (focus (first | trivial | omega | (simp only [Fits]; omega) | assumption | (rw [hanc]; rfl)))) | ((first | refine K_regA hE fun K Kp hK hKp => ?_ | refine K_drwA true mixed hE fun K Kp hK hKp anc hanc => ?_ | refine K_drwA false mixed hE fun K Kp hK hKp anc hanc => ?_); simp only [go_sem, e]) | ((first | refine onG_split_t (fun hg => ?_) (fun hg => ?_) | refine onG_split_f (fun hg => ?_) (fun hg => ?_)) <;> simp only [go_sem, e, hg]) | (refine K_condA (fun hc => ?_) (fun hc => ?_) <;> try (exact absurd hc (by decide))))
      refine K_ret (hQ _ ⟨.rw 2, fun i => if i = 2 then 3097152 else i, _, 1000000, (by simp only [go_sem]; rfl), (by simp [AV.ids, AV.idsL]), ?_, .inr ⟨rfl, rfl⟩⟩).1
      rw [hK]
      show Ent _ _ _ (mkSt [] [(1, .cells [.str s]), (2, .row 2 (fl Kj))] 1000000)
      exact ent_mk (by simp [go_sem]) (by simp [go_sem]) (by simp) (by simp [hN]; intro id hid; omega)
end Go.Proofs.YtfiehjbijdmbaaaDoor
