/- A part of the proof: an abstract machine for the walks, and what the walked functions compute. -/
import Derived.Test.YtfiehjbijdmbaaaDoorRe
set_option linter.unusedVariables false
set_option linter.unusedSimpArgs false
set_option linter.unusedSimpArgs false
set_option linter.unusedVariables false
set_option maxHeartbeats 4000000
set_option maxRecDepth 100000
namespace Go.Proofs.YtfiehjbijdmbaaaDoor
open Nat (reduceAdd reduceMul reduceEqDiff reduceLT reduceLeDiff reduceSub reduceDiv)
open Int (reduceBNe reduceLE reduceEq)
open Go.Am Go.Proofs Go.Ca
open Classical
attribute [local irreducible] AW CallP CallB
theorem named_nc (s : ByteArray) : ACall Tryd.prog 25 [.str s] (fun _ => none) 0 0 (fun r hp' => r = .fn (.func 40) [] [.ptr 0 0] ∧ hp' = mkHp [(0, .cells [.str s])]) (fun _ _ => False) := by
 refine ACall.of_bodyR Tryd.func25 isf25 rfl (by simp [Tryd.f25]) fun E Q hE hN hQ hQp => K_start ?_
 repeat' (first | apply nx | refine Kq_exit_ne (by decide) ?_ | rw [wrap64 (by omega) (by omega)] | ((first | refine hK _ ?_ | refine hKp _ _ ?_); clear hK hKp K Kp; try clear hanc anc) | ((with_reducible refine And.intro ?_ ?_); (focus (first | trivial | omega | (simp only [Fits]; omega) | assumption | (rw [hanc]; rfl)))) | ((first | refine K_regA hE fun K Kp hK hKp => ?_ | refine K_drwA true mixed hE fun K Kp hK hKp anc hanc => ?_ | refine K_drwA false mixed hE fun K Kp hK hKp anc hanc => ?_); simp only [go_sem]) | ((first | refine onG_split_t (fun hg => ?_) (fun hg => ?_) | refine onG_split_f (fun hg => ?_) (fun hg => ?_)) <;> simp only [go_sem, hg]) | (refine K_condA (fun hc => ?_) (fun hc => ?_) <;> try (exact absurd hc (by decide))))
 refine K_ret (hQ _ ⟨.fn (.func 40) [] [.ptr 0 0], fun i => i, _, 1, resA_tmp (by simp only [go_sem]), (by simp [AV.ids, AV.idsL]), ?_, rfl, rfl⟩).1
 show Ent _ _ _ (mkSt [] [(0, .cells [.str s])] 1)
 refine ent_mk (by simp [go_sem]) (by simp [go_sem]) (by simp) (by simp [hN])
theorem without_c (l : List Fl) (s : ByteArray) (hl : l.length ≤ 2 ^ 30) : ACall Tryd.prog 24 [.sl (fl l), .fn (.func 40) [] [.ptr 0 0]] (mkHp [(0, .cells [.str s])]) 1000000 1
    (fun r hp' => r = .rw 1 ∧ hp' = mkHp [(0, .cells [.str s]), (1, .row 2 (fl (keep s l)))]) (fun _ _ => False) := by
  have hcl := cloneF_nc l hl
  have hdl := del_c l s hl
  refine ACall.of_bodyR Tryd.func24 isf24 rfl (by simp [Tryd.f24]) fun E Q hE hN hQ hQp => K_start ?_
  repeat' (first | apply nx | refine Kq_exit_ne (by decide) ?_ | rw [wrap64 (by omega) (by omega)] | ((first | refine hK _ ?_ | refine hKp _ _ ?_); clear hK hKp K Kp; try clear hanc anc) | ((with_reducible refine And.intro ?_ ?_); (focus (first | trivial | omega | (simp only [Fits]; omega) | assumption | (rw [hanc]; rfl)))) | ((first | refine K_regA hE fun K Kp hK hKp => ?_ | refine K_drwA true mixed hE fun K Kp hK hKp anc hanc => ?_ | refine K_drwA false mixed hE fun K Kp hK hKp anc hanc => ?_); simp only [go_sem]) | ((first | refine onG_split_t (fun hg => ?_) (fun hg => ?_) | refine onG_split_f (fun hg => ?_) (fun hg => ?_)) <;> simp only [go_sem, hg]) | (refine K_condA (fun hc => ?_) (fun hc => ?_) <;> try (exact absurd hc (by decide))))
  refine Hold.mk (CallB.newRow hcl (by simp [AV.cloL, AV.clo, go_sem]) (fl_clo _) ?_)
  simp only [go_sem]
  refine Hold.mk (CallB.use hdl (fun i => if i = 0 then 3097152 else 0) (by simp [AV.renL, AV.ren, go_sem]) (by simp [AV.ids, AV.idsL, go_sem]) (mkHp_allP (p := fun id o => _ = some (o.ren _) ∧ id < 1000000 ∧ o.ids (· < 1000000)) (by simp [go_sem, AObj.ren, AV.renL, AV.ren, AObj.ids, AV.ids, AV.idsL])) (fun id id' o o' h1 h2 e => ?_) (fun id hid => ⟨by omega, (dHp_wf l s).2.1 id hid⟩) ?_ (fun _ _ h => h.elim) ?_ (fun _ _ _ h => h.elim))
  · have a1 := ((dHp_wf l s).1 _ _ h1).1
    have a2 := ((dHp_wf l s).1 _ _ h2).1
    split at e <;> split at e <;> omega
  · rintro r hp' (⟨rfl, rfl⟩ | ⟨rfl, rfl⟩)
    · exact ⟨by simp [AV.ids], fun id ob h => by have := (dHp_wf (keep s l) s).1 id ob h; exact ⟨by omega, objids_mono _ (fun i hi => by omega) this.2⟩⟩
    · exact ⟨by simp [AV.ids], mkHp_allP (p := fun id o => id < 2 + 1048576 ∧ o.ids (· < 2 + 1048576)) (by simp [AObj.ids, AV.ids, AV.idsL, go_sem])⟩
  · rintro r hp' fr' hpn hr hfr hobj hold
    have b0 : backM (fun i => if i = 0 then 3097152 else 0) 2 (2048576 + 1048576 * 3) 0 = 3097152 := rfl
    have b1 : backM (fun i => if i = 0 then 3097152 else 0) 2 (2048576 + 1048576 * 3) 1 = 0 := rfl
    have b2 : backM (fun i => if i = 0 then 3097152 else 0) 2 (2048576 + 1048576 * 3) 2 = 5194304 := rfl
    rcases hr with ⟨rfl, rfl⟩ | ⟨rfl, rfl⟩
    · have k0 := hobj 0 (.row 2 (fl (keep s l))) rfl
      have k1 := hobj 1 (.cells [.str s]) rfl
      rw [b0] at k0
      rw [b1] at k1
      simp only [AObj.ren, fl_ren, AV.renL, AV.ren] at k0 k1
      subst hfr
      simp only [go_sem]
      refine hK _ ?_
      repeat' (first | apply nx | refine Kq_exit_ne (by decide) ?_ | rw [wrap64 (by omega) (by omega)] | ((first | refine hK _ ?_ | refine hKp _ _ ?_); clear hK hKp K Kp; try clear hanc anc) | ((with_reducible refine And.intro ?_ ?_); (focus (first | trivial | omega | (simp only [Fits]; omega) | assumption | (rw [hanc]; rfl)))) | ((first | refine K_regA hE fun K Kp hK hKp => ?_ | refine K_drwA true mixed hE fun K Kp hK hKp anc hanc => ?_ | refine K_drwA false mixed hE fun K Kp hK hKp anc hanc => ?_); simp only [go_sem]) | ((first | refine onG_split_t (fun hg => ?_) (fun hg => ?_) | refine onG_split_f (fun hg => ?_) (fun hg => ?_)) <;> simp only [go_sem, hg]) | (refine K_condA (fun hc => ?_) (fun hc => ?_) <;> try (exact absurd hc (by decide))))
      refine K_ret (hQ _ ⟨.rw 1, fun i => if i = 0 then 0 else 3097152, _, 1000000, (by simp only [go_sem]; rfl), (by simp [AV.ids, AV.idsL]), ?_, rfl, rfl⟩).1
      show Ent _ _ _ (mkSt [] [(0, .cells [.str s]), (1, .row 2 (fl (keep s l)))] 1000000)
      exact ent_mk (by simp [go_sem]) (by simp [go_sem, k0, k1]) (by simp) (by simp [hN])
    · have k1 := hobj 1 (.cells [.str s]) rfl
      have k2 := hobj 2 (.row 2 (fl (keep s l))) rfl
      rw [b1] at k1
      rw [b2] at k2
      simp only [AObj.ren, fl_ren, AV.renL, AV.ren] at k1 k2
      subst hfr
      simp only [go_sem]
      refine hK _ ?_
      repeat' (first | apply nx | refine Kq_exit_ne (by decide) ?_ | rw [wrap64 (by omega) (by omega)] | ((first | refine hK _ ?_ | refine hKp _ _ ?_); clear hK hKp K Kp; try clear hanc anc) | ((with_reducible refine And.intro ?_ ?_); (focus (first | trivial | omega | (simp only [Fits]; omega) | assumption | (rw [hanc]; rfl)))) | ((first | refine K_regA hE fun K Kp hK hKp => ?_ | refine K_drwA true mixed hE fun K Kp hK hKp anc hanc => ?_ | refine K_drwA false mixed hE fun K Kp hK hKp anc hanc => ?_); simp only [go_sem]) | ((first | refine onG_split_t (fun hg => ?_) (fun hg => ?_) | refine onG_split_f (fun hg => ?_) (fun hg => ?_)) <;> simp only [go_sem, hg]) | (refine K_condA (fun hc => ?_) (fun hc => ?_) <;> try (exact absurd hc (by decide))))
      refine K_ret (hQ _ ⟨.rw 1, fun i => if i = 0 then 0 else 5194304, _, 1000000, (by simp only [go_sem]; rfl), (by simp [AV.ids, AV.idsL]), ?_, rfl, rfl⟩).1
      show Ent _ _ _ (mkSt [] [(0, .cells [.str s]), (1, .row 2 (fl (keep s l)))] 1000000)
      exact ent_mk (by simp [go_sem]) (by simp [go_sem, k1, k2]) (by simp) (by simp [hN])
theorem hp1_np {o : AObj} {id : Nat} (h : id < 1) : mkHp [(0, o)] id ≠ none := by
 obtain rfl : id = 0 := by omega
 simp [mkHp, updo]
theorem keep_others (l : List Fl) (k : Int) : keep (nm k) l = others l k := rfl
theorem hdr_len (k : Int) (b : List UInt8) : (hdr k b).length = 12 + b.length := by simp [hdr]; omega
theorem put_call (l : List Fl) (k : Int) (b : List UInt8) (hB : FB l) (hk : I64 k) (hb : b.length ≤ 2 ^ 30) : PCall Tryd.prog 11 [.sl (fl l), .i k, .sl (ub b)] (.tup [.sl (fl (putR l k b).1), .i (putR l k b).2]) := by
 have hl := hB.len
 have hn := name_call k hk.1 hk.2
 have hnd := named_nc (nm k)
 have hwo := without_c l (nm k) hl
 have hol : (others l k).length ≤ l.length := List.length_filter_le ..
 rw [keep_others] at hwo
 refine PCall.intro Tryd.func11 rfl isf11 (by simp [Tryd.f11]) (by simp [AV.cloL, AV.clo]) fun E Q hE hN hQ => K_start ?_
 repeat' (first | apply nx | refine Kq_exit_ne (by decide) ?_ | rw [wrap64 (by omega) (by omega)] | ((first | refine hK _ ?_ | refine hKp _ _ ?_); clear hK hKp K Kp; try clear hanc anc) | ((with_reducible refine And.intro ?_ ?_); (focus (first | trivial | omega | (simp only [Fits]; omega) | assumption | (rw [hanc]; rfl)))) | ((first | refine K_regA hE fun K Kp hK hKp => ?_ | refine K_drwA false mixed hE fun K Kp hK hKp anc hanc => ?_ | ((first | apply CallP_mk | apply CallB_mk); (focus (simp only [go_sem] <;> rfl)); (focus (exact hn)); (focus (first | (simp [go_sem]; done) | (simp [go_sem, CloRow, AV.cells, AV.clo]; done))); (focus (first | exact .inl rfl | (right; simp [go_sem]))))); simp only [go_sem]) | ((first | refine onG_split_t (fun hg => ?_) (fun hg => ?_) | refine onG_split_f (fun hg => ?_) (fun hg => ?_)) <;> simp only [go_sem, hg]) | (refine K_condA (fun hc => ?_) (fun hc => ?_) <;> try (exact absurd hc (by decide))) | (refine K_ret ?_; refine (hQ _ ⟨_, by (try simp only [go_sem, ↓reduceIte, Nat.reduceEqDiff]); rfl, by simp [go_sem], ?_, by first | rfl | assumption⟩).1))
 refine Hold.mk (CallB.newP hnd (by simp [AV.cloL, AV.clo]) (by simp [AV.ids, AV.idsL]) (by intro p hp; simp only [List.mem_cons, List.not_mem_nil, or_false] at hp; rcases hp with rfl; exact ⟨by simp, by simp [AObj.ids, AV.ids, AV.idsL, go_sem]⟩) ?_)
 simp only [go_sem, AObj.ren]
 refine Hold.mk (CallB.use hwo (fun _ => 5242880) (by simp [AV.renL, AV.ren, go_sem]) (by simp [AV.ids, AV.idsL, go_sem]) (mkHp_allP (p := fun id o => _ = some (o.ren _) ∧ id < 1000000 ∧ o.ids (· < 1000000)) (by simp [go_sem, AObj.ren, AV.renL, AV.ren, AObj.ids, AV.ids, AV.idsL])) (fun id id' o o' h1 h2 e => ?_) (fun id hid => ⟨by omega, hp1_np hid⟩) ?_ (fun _ _ h => h.elim) ?_ (fun _ _ _ h => h.elim))
 ·have a1 : id < 1 := mkHp_allP (p := fun id _ => id < 1) (by simp) id o h1
  have a2 : id' < 1 := mkHp_allP (p := fun id _ => id < 1) (by simp) id' o' h2
  omega
 ·rintro r hp' ⟨rfl, rfl⟩
  exact ⟨by simp [AV.ids], mkHp_allP (p := fun id o => id < 1 + 1048576 ∧ o.ids (· < 1 + 1048576)) (by simp [AObj.ids, AV.ids, AV.idsL, go_sem])⟩
 rintro r hp' fr' hpn ⟨rfl, rfl⟩ hfr hobj hold
 have b2 : backM (fun _ => 5242880) 1 (2097152 + 1048576 * 4) 1 = 6291456 := rfl
 have b3 : backM (fun _ => 5242880) 1 6291456 1 = 6291456 := rfl
 have k2 := hobj 1 (.row 2 (fl (others l k))) rfl
 rw [b2] at k2
 simp only [AObj.ren, fl_ren] at k2
 subst hfr
 simp only [go_sem]
 refine hK _ ?_; clear hK hKp K Kp; try clear hanc anc
 repeat (first | refine Kq_norm_code ?_ | refine Kq_norm_blk ?_ | refine Kq_norm_lp ?_)
 refine AW.ent (σ' := mkSt [(1, .i k), (2, .sl (ub b)), (8, .rw 0)] [(0, .row 2 (fl (others l k)))] 1) (fun i => 6291456) (ent_mk (by simp [go_sem, b3]) (by simp [go_sem, k2]) (by simp) (by simp [hN])) ?_
 clear hobj hold k2
 unfold putR at hQ
 by_cases h4 : 400 ≤ (others l k).length
 ·have q : decide (((others l k).length : Int) ≥ 400) = true := decide_eq_true (by omega)
  rw [if_pos h4] at hQ
  repeat' (first | apply nx | refine Kq_exit_ne (by decide) ?_ | rw [wrap64 (by omega) (by omega)] | ((first | refine hK _ ?_ | refine hKp _ _ ?_); clear hK hKp K Kp; try clear hanc anc) | ((with_reducible refine And.intro ?_ ?_); (focus (first | trivial | omega | (simp only [Fits]; omega) | assumption | (rw [hanc]; rfl)))) | ((first | refine K_regA hE fun K Kp hK hKp => ?_ | refine K_drwA false mixed hE fun K Kp hK hKp anc hanc => ?_); simp only [go_sem, q]) | ((first | refine onG_split_t (fun hg => ?_) (fun hg => ?_) | refine onG_split_f (fun hg => ?_) (fun hg => ?_)) <;> simp only [go_sem, q, hg]) | (refine K_condA (fun hc => ?_) (fun hc => ?_) <;> try (exact absurd hc (by decide))) | (refine K_ret ?_; refine (hQ _ ⟨_, by (try simp only [go_sem, ↓reduceIte, Nat.reduceEqDiff]); rfl, by simp [go_sem], ?_, by first | rfl | assumption⟩).1))
  simp [AV.snap, AV.snapL, fl_nil]
 have q : decide (((others l k).length : Int) ≥ 400) = false := decide_eq_false (by omega)
 rw [if_neg h4] at hQ
 have w1 := word_call k 8 (by decide)
 have w2 := word_call b.length 4 (by decide)
 rw [show (b.length : Int) % 18446744073709551616 = b.length by omega] at w2
 have j1 : PCall Tryd.prog 27 [.sl [.sl (ub (be (k % 18446744073709551616) 8)), .sl (ub (be b.length 4)), .sl (ub b)]] (.sl (ub (hdr k b))) := by
  have := join_call [be (k % 18446744073709551616) 8, be b.length 4, b] (by simp) (by simp [tot]; omega) (by simp [tot]; omega)
  simpa [hdr, ubl] using this
 have s1 := sum_call (hdr k b) (by rw [hdr_len]; omega)
 have hr1 := sumD_range (hdr k b)
 have w3 := word_call (sumD (hdr k b)) 4 (by decide)
 rw [show sumD (hdr k b) % 18446744073709551616 = sumD (hdr k b) by omega] at w3
 have j2 : PCall Tryd.prog 27 [.sl [.sl (ub (hdr k b)), .sl (ub (be (sumD (hdr k b)) 4))]] (.sl (ub (hdr k b ++ be (sumD (hdr k b)) 4))) := by
  have := join_call [hdr k b, be (sumD (hdr k b)) 4] (by simp) (by simp [tot, hdr_len]; try omega) (by simp [tot, hdr_len]; omega)
  simpa [ubl] using this
 repeat' (first | apply nx | refine Kq_exit_ne (by decide) ?_ | rw [wrap64 (by omega) (by omega)] | ((first | refine hK _ ?_ | refine hKp _ _ ?_); clear hK hKp K Kp; try clear hanc anc) | ((with_reducible refine And.intro ?_ ?_); (focus (first | trivial | omega | (simp only [Fits]; omega) | assumption | (rw [hanc]; rfl)))) | ((first | refine K_regA hE fun K Kp hK hKp => ?_ | refine K_drwA false mixed hE fun K Kp hK hKp anc hanc => ?_ | ((first | apply CallP_mk | apply CallB_mk); (focus (simp only [go_sem] <;> rfl)); (focus (first | exact w1 | exact w2)); (focus (first | (simp [go_sem]; done) | (simp [go_sem, CloRow, AV.cells, AV.clo]; done))); (focus (first | exact .inl rfl | (right; simp [go_sem]))))); simp only [go_sem, q]) | ((first | refine onG_split_t (fun hg => ?_) (fun hg => ?_) | refine onG_split_f (fun hg => ?_) (fun hg => ?_)) <;> simp only [go_sem, q, hg]) | (refine K_condA (fun hc => ?_) (fun hc => ?_) <;> try (exact absurd hc (by decide))) | (refine K_ret ?_; refine (hQ _ ⟨_, by (try simp only [go_sem, ↓reduceIte, Nat.reduceEqDiff]); rfl, by simp [go_sem], ?_, by first | rfl | assumption⟩).1))
 refine Hold.mk (CallB.dpure [9437185] 4 j1 (by simp only [go_sem, List.mem_cons, List.not_mem_nil, or_false]) (by simp [go_sem]) (fun _ => rfl) (fun _ => ⟨trivial, trivial⟩) rfl ?_)
 simp only [go_sem]
 refine hK _ ?_; clear hK hKp K Kp; try clear hanc anc
 repeat (first | refine Kq_norm_code ?_ | refine Kq_norm_blk ?_ | refine Kq_norm_lp ?_)
 refine AW.ent (σ' := mkSt [(1, .i k), (8, .rw 0), (9, .sl (ub (hdr k b)))] [(0, .row 2 (fl (others l k)))] 1) (fun i => i) (by refine ent_mk (by simp [go_sem]) (by simp [go_sem]) (by simp) (by simp [hN])) ?_
 repeat' (first | apply nx | refine Kq_exit_ne (by decide) ?_ | rw [wrap64 (by omega) (by omega)] | ((first | refine hK _ ?_ | refine hKp _ _ ?_); clear hK hKp K Kp; try clear hanc anc) | ((with_reducible refine And.intro ?_ ?_); (focus (first | trivial | omega | (simp only [Fits]; omega) | assumption | (rw [hanc]; rfl)))) | ((first | refine K_regA hE fun K Kp hK hKp => ?_ | refine K_drwA false mixed hE fun K Kp hK hKp anc hanc => ?_ | ((first | apply CallP_mk | apply CallB_mk); (focus (simp only [go_sem] <;> rfl)); (focus (first | exact s1 | exact w3 | exact hn)); (focus (first | (simp [go_sem]; done) | (simp [go_sem, CloRow, AV.cells, AV.clo]; done))); (focus (first | exact .inl rfl | (right; simp [go_sem]))))); simp only [go_sem, q]) | ((first | refine onG_split_t (fun hg => ?_) (fun hg => ?_) | refine onG_split_f (fun hg => ?_) (fun hg => ?_)) <;> simp only [go_sem, q, hg]) | (refine K_condA (fun hc => ?_) (fun hc => ?_) <;> try (exact absurd hc (by decide))) | (refine K_ret ?_; refine (hQ _ ⟨_, by (try simp only [go_sem, ↓reduceIte, Nat.reduceEqDiff]); rfl, by simp [go_sem], ?_, by first | rfl | assumption⟩).1))
 refine Hold.mk (CallB.dpure [7340033] 8 j2 (by simp only [go_sem, List.mem_cons, List.not_mem_nil, or_false]) (by simp [go_sem]) (fun _ => rfl) (fun _ => ⟨trivial, trivial⟩) rfl ?_)
 have hf : Fits ((others l k).length + 1) 40 := by simp only [Fits]; omega
 simp only [go_sem, List.mem_cons, List.not_mem_nil, or_false]
 repeat' (first | apply nx | refine Kq_exit_ne (by decide) ?_ | rw [wrap64 (by omega) (by omega)] | ((first | refine hK _ ?_ | refine hKp _ _ ?_); clear hK hKp K Kp; try clear hanc anc) | ((with_reducible refine And.intro ?_ ?_); (focus (first | trivial | omega | (simp only [Fits]; omega) | assumption | (rw [hanc]; rfl)))) | ((first | refine K_regA hE fun K Kp hK hKp => ?_ | refine K_drwA false mixed hE fun K Kp hK hKp anc hanc => ?_); simp only [go_sem]) | ((first | refine onG_split_t (fun hg => ?_) (fun hg => ?_) | refine onG_split_f (fun hg => ?_) (fun hg => ?_)) <;> simp only [go_sem, hg]) | (refine K_condA (fun hc => ?_) (fun hc => ?_) <;> try (exact absurd hc (by decide))) | (refine K_ret ?_; refine (hQ _ ⟨_, by (try simp only [go_sem, ↓reduceIte, Nat.reduceEqDiff]); rfl, by simp [go_sem], ?_, by first | rfl | assumption⟩).1))
 simp [AV.snap, AV.snapL, fileOf, updo]
end Go.Proofs.YtfiehjbijdmbaaaDoor

set_option linter.unusedSimpArgs false
set_option linter.unusedVariables false
set_option maxHeartbeats 4000000
set_option maxRecDepth 100000
namespace Go.Proofs.YtfiehjbijdmbaaaDoor
open Nat (reduceAdd reduceMul reduceEqDiff reduceLT reduceLeDiff reduceSub reduceDiv)
open Int (reduceBNe reduceLE reduceEq)
open Go.Am Go.Proofs Go.Ca
open Classical
attribute [local irreducible] AW CallP CallB
theorem rfile_call (k : Int) (b : List UInt8) (hk : I64 k) (hb : b.length ≤ 2 ^ 30) : PCall Tryd.prog 29 [.i k, .sl (ub b)] (fileOf k b).av := by
 have n1 := number_nc (k % 18446744073709551616) 8 (by omega) (by omega) (by decide)
 have n2 := number_nc b.length 4 (by omega) (by omega) (by decide)
 have hr := sumD_range (hdr k b)
 have n3 := number_nc (sumD (hdr k b)) 4 hr.1 (by omega) (by decide)
 have s1 := rsum_call (hdr k b) (by rw [hdr_len]; omega)
 have rn := rname_call k hk.1 hk.2
 have u1 : IntKind.u64.wrap k = k % 18446744073709551616 := wrap_u64 k
 have u2 : IntKind.u64.wrap (b.length : Int) = b.length := by rw [wrap_u64]; omega
 have u3 : IntKind.u64.wrap (sumD (hdr k b)) = sumD (hdr k b) := by rw [wrap_u64]; omega
 rw [Fl.av_eq]
 refine PCall.intro Tryd.func29 rfl isf29 (by simp [Tryd.f29]) (by simp [AV.cloL, AV.clo]) fun E Q hE hN hQ => K_start ?_
 repeat' (first | apply nx | refine Kq_exit_ne (by decide) ?_ | rw [wrap64 (by omega) (by omega)] | ((first | refine hK _ ?_ | refine hKp _ _ ?_); clear hK hKp K Kp; try clear hanc anc) | ((with_reducible refine And.intro ?_ ?_); (focus (first | trivial | omega | (simp only [Fits]; omega) | assumption | (rw [hanc]; rfl)))) | ((first | refine K_regA hE fun K Kp hK hKp => ?_ | refine K_drwA false mixed hE fun K Kp hK hKp anc hanc => ?_); simp only [go_sem, u1, u2, u3]) | ((first | refine onG_split_t (fun hg => ?_) (fun hg => ?_) | refine onG_split_f (fun hg => ?_) (fun hg => ?_)) <;> simp only [go_sem, u1, u2, u3, hg]) | (refine K_condA (fun hc => ?_) (fun hc => ?_) <;> try (exact absurd hc (by decide))) | (refine K_ret ?_; refine (hQ _ ⟨_, by (try simp only [go_sem, ↓reduceIte, Nat.reduceEqDiff]); rfl, by simp [go_sem], ?_, by first | rfl | assumption⟩).1))
 refine Hold.mk (CallB.newRow n1 (by simp [AV.cloL, AV.clo]) (ub_clo _) ?_)
 simp only [go_sem, u1, u2, u3]
 refine Hold.mk (CallB.newRow n2 (by simp [AV.cloL, AV.clo]) (ub_clo _) ?_)
 simp only [go_sem, u1, u2, u3]
 refine ⟨by simp only [Fits]; omega, by simp only [Fits]; omega, ?_⟩
 refine hK _ ?_; clear hK hKp K Kp; try clear hanc anc
 repeat (first | refine Kq_norm_code ?_ | refine Kq_norm_blk ?_ | refine Kq_norm_lp ?_)
 rw [show be (k % 18446744073709551616) 8 ++ be (b.length : Int) 4 ++ b = hdr k b from rfl]
 refine AW.ent (σ' := mkSt [(0, .i k), (4, .ptr 0 0), (5, .rw 1)] [(0, .cells [.str ⟨#[]⟩, .nilsl]), (1, .row 1 (ub (hdr k b)))] 2) (fun i => if i = 0 then 0 else 10485760) (by refine ent_mk (by simp [go_sem]) (by simp [go_sem]) (by simp) (by simp [hN])) ?_
 repeat' (first | apply nx | refine Kq_exit_ne (by decide) ?_ | rw [wrap64 (by omega) (by omega)] | ((first | refine hK _ ?_ | refine hKp _ _ ?_); clear hK hKp K Kp; try clear hanc anc) | ((with_reducible refine And.intro ?_ ?_); (focus (first | trivial | omega | (simp only [Fits]; omega) | assumption | (rw [hanc]; rfl)))) | ((first | refine K_regA hE fun K Kp hK hKp => ?_ | refine K_drwA false mixed hE fun K Kp hK hKp anc hanc => ?_ | ((first | apply CallP_mk | apply CallB_mk); (focus (simp only [go_sem] <;> rfl)); (focus (first | exact rn | exact s1)); (focus (first | (simp [go_sem]; done) | (simp [go_sem, CloRow, AV.cells, AV.clo]; done))); (focus (first | exact .inl rfl | (right; simp [go_sem]))))); simp only [go_sem, u3]) | ((first | refine onG_split_t (fun hg => ?_) (fun hg => ?_) | refine onG_split_f (fun hg => ?_) (fun hg => ?_)) <;> simp only [go_sem, u3, hg]) | (refine K_condA (fun hc => ?_) (fun hc => ?_) <;> try (exact absurd hc (by decide))) | (refine K_ret ?_; refine (hQ _ ⟨_, by (try simp only [go_sem, ↓reduceIte, Nat.reduceEqDiff]); rfl, by simp [go_sem], ?_, by first | rfl | assumption⟩).1))
 refine Hold.mk (CallB.newRow n3 (by simp [AV.cloL, AV.clo]) (ub_clo _) ?_)
 simp only [go_sem]
 refine ⟨by simp only [Fits, hdr_len]; omega, ?_⟩
 refine hK _ ?_; clear hK hKp K Kp; try clear hanc anc
 repeat (first | refine Kq_norm_code ?_ | refine Kq_norm_blk ?_ | refine Kq_norm_lp ?_)
 refine K_ret (hQ _ ⟨.agg [.str (nm k), .rw 7340034], (by simp [resA, rvA, Tryd.f29, go_sem, updo]; rfl), (by simp [AV.snapOk, AV.snapOkL, go_sem, updo]), (by (simp [AV.snap, AV.snapL, go_sem, fileOf, updo])), (by first | rfl | simp [AV.clo, AV.cloL, go_sem, updo])⟩).1
theorem others_take {l : List Fl} {k : Int} {j : Nat} {f : Fl} (h : l[j]? = some f) : others (l.take (j + 1)) k = others (l.take j) k ++ (if f.nm = nm k then [] else [f]) := by
 rw [take_get h, others, List.filter_append]
 by_cases hb : f.nm = nm k <;> simp [others, hb]
theorem others_len (l : List Fl) (k : Int) : (others l k).length ≤ l.length := List.length_filter_le ..
theorem rput_call (l : List Fl) (k : Int) (b : List UInt8) (hB : FB l) (hk : I64 k) (hb : b.length ≤ 2 ^ 30) : PCall Tryd.prog 12 [.sl (fl l), .i k, .sl (ub b)] (.tup [.sl (fl (putR l k b).1), .i (putR l k b).2]) := by
 have hl := hB.len
 have rn := rname_call k hk.1 hk.2
 have rf := rfile_call k b hk hb
 have hol := others_len l k
 rw [Fl.av_eq] at rf
 refine PCall.intro Tryd.func12 rfl isf12 (by simp [Tryd.f12]) (by simp [AV.cloL, AV.clo]) fun E Q hE hN hQ => K_start ?_
 repeat' (first | apply nx | refine Kq_exit_ne (by decide) ?_ | rw [wrap64 (by omega) (by omega)] | ((first | refine hK _ ?_ | refine hKp _ _ ?_); clear hK hKp K Kp; try clear hanc anc) | ((with_reducible refine And.intro ?_ ?_); (focus (first | trivial | omega | (simp only [Fits]; omega) | assumption | (rw [hanc]; rfl)))) | ((first | refine K_regA hE fun K Kp hK hKp => ?_ | refine K_drwA false mixed hE fun K Kp hK hKp anc hanc => ?_); simp only [go_sem]) | ((first | refine onG_split_t (fun hg => ?_) (fun hg => ?_) | refine onG_split_f (fun hg => ?_) (fun hg => ?_)) <;> simp only [go_sem, hg]) | (refine K_condA (fun hc => ?_) (fun hc => ?_) <;> try (exact absurd hc (by decide))) | (refine K_ret ?_; refine (hQ _ ⟨_, by (try simp only [go_sem, ↓reduceIte, Nat.reduceEqDiff]); rfl, by simp [go_sem], ?_, by first | rfl | assumption⟩).1))
 refine AW_nil 8 2 (by rw [hE]; decide) (by simp only [go_sem]) ?_
 refine K_loop (X := Nat) (fun i => i ≤ l.length) (fun i => mkSt [(0, .sl (fl l)), (1, .i k), (2, .sl (ub b)), (8, .rw 0), (9, .i i)] [(0, .row 2 (fl (others (l.take i) k)))] 1) (fun i => l.length - i) 0 (Nat.zero_le _) (fun i => 4194304) (by refine ent_mk (by simp [go_sem, others]) (by simp [go_sem, others]) (by simp) (by simp [hN])) ?_
 intro i hi
 by_cases hlt : i < l.length
 ·obtain ⟨f, hf⟩ := get?_of hlt
  have q := ba_eqB f.nm (nm k)
  have et := others_take (k := k) hf
  have hot := others_len (l.take i) k
  simp only [List.length_take] at hot
  by_cases hn : f.nm = nm k
  ·rw [if_pos hn, List.append_nil] at et
   rw [decide_eq_true hn] at q
   repeat' (first | apply nx | refine Kq_exit_ne (by decide) ?_ | rw [wrap64 (by omega) (by omega)] | ((first | refine hK _ ?_ | refine hKp _ _ ?_); clear hK hKp K Kp; try clear hanc anc) | ((with_reducible refine And.intro ?_ ?_); (focus (first | trivial | omega | (simp only [Fits]; omega) | assumption | (rw [hanc]; rfl)))) | ((first | refine K_regA hE fun K Kp hK hKp => ?_ | refine K_drwA false mixed hE fun K Kp hK hKp anc hanc => ?_ | ((first | apply CallP_mk | apply CallB_mk); (focus (simp only [go_sem] <;> rfl)); (focus (exact rn)); (focus (first | (simp [go_sem]; done) | (simp [go_sem, CloRow, AV.cells, AV.clo]; done))); (focus (first | exact .inl rfl | (right; simp [go_sem]))))); simp only [go_sem, lt_dec hlt, hf, Fl.av_eq, bne, q]) | ((first | refine onG_split_t (fun hg => ?_) (fun hg => ?_) | refine onG_split_f (fun hg => ?_) (fun hg => ?_)) <;> simp only [go_sem, lt_dec hlt, hf, Fl.av_eq, bne, q, hg]) | (refine K_condA (fun hc => ?_) (fun hc => ?_) <;> try (exact absurd hc (by decide))) | (refine K_ret ?_; refine (hQ _ ⟨_, by (try simp only [go_sem, ↓reduceIte, Nat.reduceEqDiff]); rfl, by simp [go_sem], ?_, by first | rfl | assumption⟩).1))
   exact ⟨i + 1, by omega, by omega, fun i => i, by refine ent_mk (by simp [go_sem, et]) (by simp [go_sem, et]) (by simp) (by simp [hN])⟩
  ·rw [if_neg hn] at et
   rw [decide_eq_false hn] at q
   repeat' (first | apply nx | refine Kq_exit_ne (by decide) ?_ | rw [wrap64 (by omega) (by omega)] | ((first | refine hK _ ?_ | refine hKp _ _ ?_); clear hK hKp K Kp; try clear hanc anc) | ((with_reducible refine And.intro ?_ ?_); (focus (first | trivial | omega | (simp only [Fits]; omega) | assumption | (rw [hanc]; rfl)))) | ((first | refine K_regA hE fun K Kp hK hKp => ?_ | refine K_drwA false mixed hE fun K Kp hK hKp anc hanc => ?_ | ((first | apply CallP_mk | apply CallB_mk); (focus (simp only [go_sem] <;> rfl)); (focus (exact rn)); (focus (first | (simp [go_sem]; done) | (simp [go_sem, CloRow, AV.cells, AV.clo]; done))); (focus (first | exact .inl rfl | (right; simp [go_sem]))))); simp only [go_sem, lt_dec hlt, hf, Fl.av_eq, bne, q]) | ((first | refine onG_split_t (fun hg => ?_) (fun hg => ?_) | refine onG_split_f (fun hg => ?_) (fun hg => ?_)) <;> simp only [go_sem, lt_dec hlt, hf, Fl.av_eq, bne, q, hg]) | (refine K_condA (fun hc => ?_) (fun hc => ?_) <;> try (exact absurd hc (by decide))) | (refine K_ret ?_; refine (hQ _ ⟨_, by (try simp only [go_sem, ↓reduceIte, Nat.reduceEqDiff]); rfl, by simp [go_sem], ?_, by first | rfl | assumption⟩).1))
   exact ⟨i + 1, by omega, by omega, fun i => if i = 0 then 18874369 else i, by refine ent_mk (by simp [go_sem, et]) (by simp [go_sem, et]) (by simp) (by simp [hN])⟩
 ·obtain rfl : i = l.length := by omega
  rw [List.take_length]
  unfold putR at hQ
  by_cases h4 : 400 ≤ (others l k).length
  ·have q : decide (((others l k).length : Int) ≥ 400) = true := decide_eq_true (by omega)
   rw [if_pos h4] at hQ
   repeat' (first | apply nx | refine Kq_exit_ne (by decide) ?_ | rw [wrap64 (by omega) (by omega)] | ((first | refine hK _ ?_ | refine hKp _ _ ?_); clear hK hKp K Kp; try clear hanc anc) | ((with_reducible refine And.intro ?_ ?_); (focus (first | trivial | omega | (simp only [Fits]; omega) | assumption | (rw [hanc]; rfl)))) | ((first | refine K_regA hE fun K Kp hK hKp => ?_ | refine K_drwA false mixed hE fun K Kp hK hKp anc hanc => ?_); simp only [go_sem, ge_dec, q]) | ((first | refine onG_split_t (fun hg => ?_) (fun hg => ?_) | refine onG_split_f (fun hg => ?_) (fun hg => ?_)) <;> simp only [go_sem, ge_dec, q, hg]) | (refine K_condA (fun hc => ?_) (fun hc => ?_) <;> try (exact absurd hc (by decide))) | (refine K_ret ?_; refine (hQ _ ⟨_, by (try simp only [go_sem, ↓reduceIte, Nat.reduceEqDiff]); rfl, by simp [go_sem], ?_, by first | rfl | assumption⟩).1))
   simp [AV.snap, AV.snapL, fl_nil]
  ·have q : decide (((others l k).length : Int) ≥ 400) = false := decide_eq_false (by omega)
   rw [if_neg h4] at hQ
   repeat' (first | apply nx | refine Kq_exit_ne (by decide) ?_ | rw [wrap64 (by omega) (by omega)] | ((first | refine hK _ ?_ | refine hKp _ _ ?_); clear hK hKp K Kp; try clear hanc anc) | ((with_reducible refine And.intro ?_ ?_); (focus (first | trivial | omega | (simp only [Fits]; omega) | assumption | (rw [hanc]; rfl)))) | ((first | refine K_regA hE fun K Kp hK hKp => ?_ | refine K_drwA false mixed hE fun K Kp hK hKp anc hanc => ?_ | ((first | apply CallP_mk | apply CallB_mk); (focus (simp only [go_sem] <;> rfl)); (focus (exact rf)); (focus (first | (simp [go_sem]; done) | (simp [go_sem, CloRow, AV.cells, AV.clo]; done))); (focus (first | exact .inl rfl | (right; simp [go_sem]))))); simp only [go_sem, ge_dec, q]) | ((first | refine onG_split_t (fun hg => ?_) (fun hg => ?_) | refine onG_split_f (fun hg => ?_) (fun hg => ?_)) <;> simp only [go_sem, ge_dec, q, hg]) | (refine K_condA (fun hc => ?_) (fun hc => ?_) <;> try (exact absurd hc (by decide))) | (refine K_ret ?_; refine (hQ _ ⟨_, by (try simp only [go_sem, ↓reduceIte, Nat.reduceEqDiff]); rfl, by simp [go_sem], ?_, by first | rfl | assumption⟩).1))
   simp [AV.snap, AV.snapL, updo, fileOf]
end Go.Proofs.YtfiehjbijdmbaaaDoor
