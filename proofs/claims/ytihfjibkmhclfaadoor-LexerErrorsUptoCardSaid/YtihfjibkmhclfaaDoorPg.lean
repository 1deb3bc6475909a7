/- A part of the proof: an abstract machine for the walks, and what the walked functions compute. -/
import Derived.KernelRfl
import Derived.Test.YtihfjibkmhclfaaDoorPf
import Derived.Test.YtihfjibkmhclfaaDoorPa
import Derived.Test.YtihfjibkmhclfaaDoorMr
import Derived.Test.YtihfjibkmhclfaaDoorPd
import Derived.Test.YtihfjibkmhclfaaDoorMf
set_option linter.unusedVariables false
set_option linter.unusedSimpArgs false
set_option linter.unusedSimpArgs false
set_option linter.unusedVariables false
set_option maxHeartbeats 4000000
set_option maxRecDepth 100000
namespace Go.Proofs.YtihfjibkmhclfaaDoor
open Go.Am Go.Proofs Go.Lx
open Classical
attribute [local irreducible] AW CallP CallB CallY
def m2 (b c i : Nat) : Nat := if i = 0 then b else c
theorem lx_useM {f : FuncId} {l : List UInt8} {es : List (AV × AV)} {vs : List AV} {r : AV} {fr : Nat → Option AV} {h0 : Nat → Option AObj} {n0 k : Nat} {d : Option Nat} {K : St → Prop} {Kp : AV → St → Prop} {b c : Nat} (hr : HC Tryd.prog f (.ptr 0 0 :: vs) (lxHp l es) 2 r) (hes : EsClo es) (hv : AV.cloL vs = true) (hbc : b ≠ c) (hb : h0 b = some (.cells (lxc l c))) (hc : h0 c = some (.map es))
    (hK : ∀ hpn, (∀ id ob, h0 id = some ob → hpn id = some ob) → K ⟨(St.put ⟨fr, h0, n0⟩ d r).fr, hpn, n0⟩) : CallB Tryd.prog f (.ptr b 0 :: vs) ⟨fr, h0, n0⟩ k d K Kp := by
  refine HC.use hr (m2 b c) ?_ ⟨by show 0 < 2; decide, cloL_idsL hv⟩ (fun id ob h => ?_) (fun i j hi hj e => ?_) hK
  · rw [AV.renL, cloL_renL hv]; rfl
  · exact mkHp_allP (p := fun id ob => h0 (m2 b c id) = some (ob.ren (m2 b c))) (by
      intro q hq
      simp only [List.mem_cons, List.not_mem_nil, or_false] at hq
      rcases hq with rfl | rfl
      · show h0 b = _; rw [hb, AObj.ren, lxc_ren]; rfl
      · show h0 c = _; rw [hc, AObj.ren, hes.ren]) id ob h
  · unfold m2 at e
    rcases (by omega : i = 0 ∨ i = 1) with rfl | rfl <;> rcases (by omega : j = 0 ∨ j = 1) with rfl | rfl <;> simp at e ⊢
    · exact hbc e
    · exact hbc e.symm
def ysT (l : List UInt8) (p : Nat) : List (List AV) := (ysP l p).map fun q => [q.1.av, .i q.2]
theorem ysT_get {l : List UInt8} {p i : Nat} {q : Tk × Int} (h : (ysP l p)[i]? = some q) : (ysT l p)[i]? = some [q.1.av, .i q.2] := by
 rw [ysT, List.getElem?_map, h]; rfl
theorem ysT_len (l : List UInt8) (p : Nat) : (ysT l p).length = (ysP l p).length := List.length_map ..
def mC (X i : Nat) : Nat := if i = 1000000 then X else i
theorem ent_c1 {objs : Nat → Option AObj} (hob : ∀ id o, objs id = some o → id < 1000000 ∧ o.ids (· < 1000000)) {X : Nat} (hX : 1000000 ≤ X) {hpn : Nat → Option AObj} {cs : List AV} (hcs : AV.cloL cs = true) (h0 : ∀ id o, id < 1000000 → objs id = some o → hpn id = some o) (hx : hpn X = some (.cells cs))
    {fr0 : Nat → Option AV} {nx0 np : Nat} {fr : List (Nat × AV)} (hf : ∀ p, p ∈ fr → fr0 p.1 = some (p.2.ren (mC X)) ∧ p.2.ids (· < 1000001)) (hn : np ≤ 1000000) : Ent np (mC X) ⟨fr0, hpn, nx0⟩ ⟨mkFr fr, updo objs 1000000 (some (.cells cs)), 1000001⟩ := by
  have hlt : ∀ {id}, id < 1000000 → mC X id = id := fun h => by unfold mC; rw [if_neg (by omega)]
  refine ent_gen hf (fun id o h => ?_) (fun id id' o o' h h' e => ?_) (fun id hid => ⟨hlt (by omega), by omega⟩)
  · simp only [updo] at h
    split at h
    · rename_i e
      cases h
      subst e
      exact ⟨by rw [AObj.ren, cloL_renL hcs]; exact hx, by decide, by rw [AObj.ids]; exact cloL_idsL hcs⟩
    · obtain ⟨g1, g2⟩ := hob id o h
      refine ⟨?_, by omega, objids_mono _ (fun i hi => by omega) g2⟩
      show hpn (mC X id) = _
      rw [hlt g1, h0 id o g1 h, oren_congr (m' := fun i => i) (fun i hi => hlt hi) g2, oren_id]
  · have key : ∀ {id o}, updo objs 1000000 (some (.cells cs)) id = some o → id = 1000000 ∨ id < 1000000 := by
      intro id o h
      simp only [updo] at h
      split at h
      · left; assumption
      · exact .inr (hob id o h).1
    unfold mC at e
    rcases key h with rfl | g <;> rcases key h' with rfl | g'
    · rfl
    · rw [if_pos rfl, if_neg (by omega)] at e; omega
    · rw [if_neg (by omega), if_pos rfl] at e; omega
    · rw [if_neg (by omega), if_neg (by omega)] at e; exact e
theorem tok_iter {l : List UInt8} {es : List (AV × AV)} (hl : l.length ≤ 2 ^ 30) (hes : EsClo es) (hez : EsZ es) (hm : MapS es symF) {a b c : Nat} (hbc : b ≠ c) : IterC Tryd.prog 23 [.ptr a 0] [(a, .cells [.ptr b 0]), (b, .cells (lxc l c)), (c, .map es)] (ysT l (nxt l 0)) := by
 intro ln S objs np hn1 hcaps hL hob hnp Inv Fin IP hIP hround s h0
 simp only [AV.idsL, AV.ids] at hcaps
 obtain ⟨ha1, _⟩ := hcaps
 have hca : ∀ s, objs s a = some (.cells [.ptr b 0]) := fun s => hL s (a, .cells [.ptr b 0]) (by simp)
 have hcb : ∀ s, objs s b = some (.cells (lxc l c)) := fun s => hL s (b, .cells (lxc l c)) (by simp)
 have hcc : ∀ s, objs s c = some (.map es) := fun s => hL s (c, .map es) (by simp)
 have a2 : a < 1000000 := by omega
 have g0 := gap_hc l es hes 0 (Nat.zero_le _) (by omega)
 have hp0 := beg_nxt l 0
 have hp1 := nxt_le (l := l) (Nat.zero_le l.length)
 generalize hp : nxt l 0 = p at *
 refine ACall.of_bodyR Tryd.func23 isf23 rfl (by simp [Tryd.f23]) fun E Q hE hN hQ hQp => K_start ?_
 have ga := hca s
 repeat (first | refine K_seq ?_ | refine K_blk ?_ | refine AW_skip ?_ | refine Kq_norm_code ?_ | refine Kq_norm_blk ?_)
 refine K_regA hE fun K Kp hK hKp => ?_
 simp only [go_sem, ga]
 refine Hold.mk (lx_useM g0 hes rfl hbc (hcb s) (hcc s) ?_)
 intro hpn hold
 simp only [go_sem]
 refine hK _ ?_; clear hK hKp K Kp; try clear hanc anc
 repeat (first | refine Kq_norm_code ?_ | refine Kq_norm_blk ?_ | refine Kq_norm_lp ?_)
 repeat (first | refine K_seq ?_ | refine K_blk ?_ | refine AW_skip ?_ | refine Kq_norm_code ?_ | refine Kq_norm_blk ?_)
 refine K_loop (X := Nat × Nat × S) (fun z => z.2.1 ≤ l.length ∧ Beg l z.2.1 ∧ (ysP l p).drop z.1 = ysP l z.2.1 ∧ z.1 ≤ (ysP l p).length ∧ Inv z.1 z.2.2) (fun z => ⟨mkFr [(0, .fn (.yield ln) [] []), (1, .ptr a 0), (3, .i z.2.1)], objs z.2.2, 1000000⟩) (fun z => l.length - z.2.1) (0, p, s) ⟨hp1, hp0, rfl, Nat.zero_le _, h0⟩ (fun i => i) ?_ ?_
 ·exact ent_idG (by simp [go_sem, a2]) (fun id o ho => ⟨hold id o ho, hob s id o ho⟩) (by rw [hN]; exact hn1)
 rintro ⟨i, pos, s⟩ ⟨hi, hbeg, hdr, hile, hinv⟩
 simp only at hi hbeg hdr hile hinv
 have ga := hca s
 have gb := hcb s
 have gc := hcc s
 by_cases hlt : pos < l.length
 ·have tc := token_hc l es hes hez hm pos hlt (by omega)
  have hte : (tokL (l.drop pos)).err = 0 → ysP l pos = (tkAt l pos, 0) :: ysP l (nxt l (pos + (tkAt l pos).text.length)) := ysP_tok hlt hbeg
  have htn : (tokL (l.drop pos)).err ≠ 0 → ysP l pos = [(tkAt l pos, (tokL (l.drop pos)).err)] := ysP_err hlt hbeg
  have hgt : (tokL (l.drop pos)).err = 0 → pos < nxt l (pos + (tkAt l pos).text.length) := fun he => (lx_at_tok hlt hbeg he).1
  have htl := tkAt_len hlt
  have hy : (ysT l p)[i]? = some [(tkAt l pos).av, .i (tokL (l.drop pos)).err] := by
   by_cases he : (tokL (l.drop pos)).err = 0
   ·rw [he]; exact ysT_get (drop_one (hdr.trans (hte he))).1
   ·exact ysT_get (drop_one (hdr.trans (htn he))).1
  have hro := hround i _ s hinv hy
  generalize (tokL (l.drop pos)).err = e at *
  rw [Tk.av_eq] at tc hro
  have q : decide ((pos : Int) < (l.length : Int)) = true := decide_eq_true (by omega)
  repeat' (first | apply nx | refine Kq_exit_ne (by decide) ?_ | rw [wrap64 (by omega) (by omega)] | ((first | refine hK _ ?_ | refine hKp _ _ ?_); clear hK hKp K Kp; try clear hanc anc) | ((with_reducible refine And.intro ?_ ?_); (focus (first | trivial | omega | (simp only [Fits]; omega) | assumption | (rw [hanc]; rfl)))) | ((fail_if_success refine K_stop 2 ?_); (first | refine K_regA hE fun K Kp hK hKp => ?_ | refine K_drwA true mixed hE fun K Kp hK hKp anc hanc => ?_ | refine K_drwA false mixed hE fun K Kp hK hKp anc hanc => ?_); simp only [go_sem, ga, gb, q]) | ((first | refine onG_split_t (fun hg => ?_) (fun hg => ?_) | refine onG_split_f (fun hg => ?_) (fun hg => ?_)) <;> simp only [go_sem, ga, gb, q, hg]) | (refine K_condA (fun hc => ?_) (fun hc => ?_) <;> try (exact absurd hc (by decide))))
  repeat (first | refine K_seq ?_ | refine K_blk ?_ | refine AW_skip ?_ | refine Kq_norm_code ?_ | refine Kq_norm_blk ?_)
  refine K_regA hE fun K Kp hK hKp => ?_
  simp only [go_sem, ga]
  refine Hold.mk (lx_useM tc hes rfl hbc gb gc ?_)
  intro hpn hold
  simp only [go_sem]
  refine hK _ ?_; clear hK hKp K Kp; try clear hanc anc
  repeat (first | refine Kq_norm_code ?_ | refine Kq_norm_blk ?_ | refine Kq_norm_lp ?_)
  generalize ht : tkAt l pos = t at *
  refine AW.ent (σ' := ⟨mkFr [(0, .fn (.yield ln) [] []), (1, .ptr a 0), (3, .i pos), (4, .ptr 1000000 0), (5, .i e)], updo (objs s) 1000000 (some (.cells t.cs)), 1000001⟩) _ (ent_c1 (hob s) (X := 14631488) (by decide) rfl (fun id o h1 h2 => ?_) (by simp [updo]; rfl) ?_ (by rw [hN]; exact hn1)) ?_
  ·simp only [updo]; rw [if_neg (by omega), if_neg (by omega)]; exact hold id o h2
  ·have hne : a ≠ 1000000 := by omega
   simp [go_sem, mC, hne]; omega
  have e4 : updo (objs s) 1000000 (some (.cells t.cs)) 1000000 = some (.cells [.i t.kind, .str (tx t.text), .i t.num, .i t.off]) := by simp [updo]; rfl
  repeat (first | refine K_seq ?_ | refine K_blk ?_ | refine AW_skip ?_ | refine Kq_norm_code ?_ | refine Kq_norm_blk ?_)
  repeat (first | refine K_seq ?_ | refine K_blk ?_ | refine AW_skip ?_ | refine Kq_norm_code ?_ | refine Kq_norm_blk ?_)
  refine K_regA hE fun K Kp hK hKp => ?_
  simp only [go_sem, e4]
  refine Hold.mk (CallY.use hro (fun i => i) (by rw [renL_id]) (by simp [AV.ids, AV.idsL, go_sem]) (fun id o ho => ⟨by rw [oren_id]; simp only [updo]; rw [if_neg (by have := (hob s id o ho).1; omega)]; exact ho, hob s id o ho⟩) (fun id id' o o' _ _ e => e) (fun id hid => ⟨by omega, hnp s id hid⟩) ?_ ?_ ?_ ?_)
  ·rintro r hp' ⟨s', hr, rfl⟩
   refine ⟨by rcases hr with ⟨rfl, _⟩ | ⟨rfl, _⟩ <;> trivial, fun id o ho => ⟨by have := (hob s' id o ho).1; omega, ?_⟩⟩
   exact objids_mono _ (fun j hj => by omega) (hob s' id o ho).2
  ·rintro r hp' ⟨s', hr, rfl⟩
   refine ⟨clo_ids (hIP _ s' hr), fun id o ho => ⟨by have := (hob s' id o ho).1; omega, ?_⟩⟩
   exact objids_mono _ (fun j hj => by omega) (hob s' id o ho).2
  ·rintro r hp' fr' hpn2 ⟨s', hr, rfl⟩ hfr hobj hold2
   simp only [St.put, putf] at hfr
   clear hQp
   subst hfr
   have h4' := hold2 1000000 _ e4 (fun j hj e => by
    cases ho : objs s j with
    | none => exact hj ho
    | some o => have := (hob s j o ho).1; omega)
   have hba : backM (fun i => i) np (1000001 + 1048576 * 3) a = a := backM_lt ha1
   have hbb : backM (fun i => i) np (1000001 + 1048576 * 3) b ≠ backM (fun i => i) np (1000001 + 1048576 * 3) c := fun e => hbc (backM_id_inj (by omega) e)
   have ga' := hobj a _ (hca s')
   have gb' := hobj b _ (hcb s')
   have gc' := hobj c _ (hcc s')
   rw [hba, AObj.ren] at ga'
   rw [AObj.ren, lxc_ren] at gb'
   rw [AObj.ren, hes.ren] at gc'
   simp only [AV.renL, AV.ren] at ga'
   have hback : ∀ hpn3, (∀ id o, hpn2 id = some o → hpn3 id = some o) → ∀ fr0 nx0, Ent np (backM (fun i => i) np (1000001 + 1048576 * 3)) ⟨fr0, hpn3, nx0⟩ ⟨mkFr [], objs s', 1000000⟩ := fun hpn3 h3 fr0 nx0 =>
    ent_gen (fr := []) (by simp) (fun id o ho => ⟨h3 _ _ (hobj id o ho), hob s' id o ho⟩) (fun id id' o o' _ _ e => backM_id_inj (by omega) e) (fun id hid => ⟨backM_lt hid, by omega⟩)
   have hlen : i < (ysP l p).length := by
    have := (List.getElem?_eq_some_iff.1 hy).1
    rwa [ysT_len] at this
   by_cases he : e = 0
   ·subst he
    obtain ⟨y1, y2, y3⟩ := drop_one (hdr.trans (hte rfl))
    have hgt0 := hgt rfl
    rcases hr with ⟨rfl, hi'⟩ | ⟨rfl, hf'⟩
    ·have g1 := gap_hc l es hes (pos + t.text.length) htl (by omega)
     have v1 : IntKind.i64.wrap ((pos : Int) + (t.text.length : Int)) = ((pos + t.text.length : Nat) : Int) := by rw [wrap64 (by omega) (by omega)]; omega
     simp only [go_sem]
     refine hK _ ?_
     clear hK hKp K Kp
     repeat' (first | apply nx | refine Kq_exit_ne (by decide) ?_ | rw [wrap64 (by omega) (by omega)] | ((first | refine hK _ ?_ | refine hKp _ _ ?_); clear hK hKp K Kp; try clear hanc anc) | ((with_reducible refine And.intro ?_ ?_); (focus (first | trivial | omega | (simp only [Fits]; omega) | assumption | (rw [hanc]; rfl)))) | ((fail_if_success refine K_stop 4 ?_); (first | refine K_regA hE fun K Kp hK hKp => ?_ | refine K_drwA true mixed hE fun K Kp hK hKp anc hanc => ?_ | refine K_drwA false mixed hE fun K Kp hK hKp anc hanc => ?_); simp only [go_sem]) | ((first | refine onG_split_t (fun hg => ?_) (fun hg => ?_) | refine onG_split_f (fun hg => ?_) (fun hg => ?_)) <;> simp only [go_sem, hg]) | (refine K_condA (fun hc => ?_) (fun hc => ?_) <;> try (exact absurd hc (by decide))))
     repeat (first | refine K_seq ?_ | refine K_blk ?_ | refine AW_skip ?_ | refine Kq_norm_code ?_ | refine Kq_norm_blk ?_)
     refine K_regA hE fun K Kp hK hKp => ?_
     simp only [go_sem, ga', h4', v1]
     refine Hold.mk (lx_useM g1 hes rfl hbb gb' gc' ?_)
     intro hpn3 hold3
     simp only [go_sem]
     refine hK _ ?_; clear hK hKp K Kp; try clear hanc anc
     repeat (first | refine Kq_norm_code ?_ | refine Kq_norm_blk ?_ | refine Kq_norm_lp ?_)
     refine ⟨(i + 1, nxt l (pos + t.text.length), s'), ⟨nxt_le htl, beg_nxt _ _, y2, hlen, hi'⟩, by simp only; omega, backM (fun i => i) np (1000001 + 1048576 * 3), ?_⟩
     rw [hN]
     exact ent_gen (by simp [go_sem, a2, hba]) (fun id o ho => ⟨hold3 _ _ (hobj id o ho), hob s' id o ho⟩) (fun id id' o o' _ _ e => backM_id_inj (by omega) e) (fun id hid => ⟨backM_lt hid, by omega⟩)
    ·simp only [go_sem]
     refine hK _ ?_
     clear hK hKp K Kp
     repeat' (first | apply nx | refine Kq_exit_ne (by decide) ?_ | rw [wrap64 (by omega) (by omega)] | ((first | refine hK _ ?_ | refine hKp _ _ ?_); clear hK hKp K Kp; try clear hanc anc) | ((with_reducible refine And.intro ?_ ?_); (focus (first | trivial | omega | (simp only [Fits]; omega) | assumption | (rw [hanc]; rfl)))) | ((first | refine K_regA hE fun K Kp hK hKp => ?_ | refine K_drwA true mixed hE fun K Kp hK hKp anc hanc => ?_ | refine K_drwA false mixed hE fun K Kp hK hKp anc hanc => ?_); simp only [go_sem]) | ((first | refine onG_split_t (fun hg => ?_) (fun hg => ?_) | refine onG_split_f (fun hg => ?_) (fun hg => ?_)) <;> simp only [go_sem, hg]) | (refine K_condA (fun hc => ?_) (fun hc => ?_) <;> try (exact absurd hc (by decide))))
     exact K_ret (hQ _ ⟨.tup [], _, objs s', 1000000, rfl, trivial, hback _ (fun _ _ h => h) _ _, rfl, s', .inr hf', rfl⟩).1
   ·have q5 : (e != 0) = true := by simpa using he
    obtain ⟨y1, y2, y3⟩ := drop_one (hdr.trans (htn he))
    have hil : (ysP l p).length ≤ i + 1 := List.drop_eq_nil_iff.1 y2
    have hii : i + 1 = (ysT l p).length := by rw [ysT_len]; omega
    rcases hr with ⟨rfl, hi'⟩ | ⟨rfl, hf'⟩
    ·simp only [go_sem, q5]
     refine hK _ ?_
     clear hK hKp K Kp
     repeat' (first | apply nx | refine Kq_exit_ne (by decide) ?_ | rw [wrap64 (by omega) (by omega)] | ((first | refine hK _ ?_ | refine hKp _ _ ?_); clear hK hKp K Kp; try clear hanc anc) | ((with_reducible refine And.intro ?_ ?_); (focus (first | trivial | omega | (simp only [Fits]; omega) | assumption | (rw [hanc]; rfl)))) | ((first | refine K_regA hE fun K Kp hK hKp => ?_ | refine K_drwA true mixed hE fun K Kp hK hKp anc hanc => ?_ | refine K_drwA false mixed hE fun K Kp hK hKp anc hanc => ?_); simp only [go_sem]) | ((first | refine onG_split_t (fun hg => ?_) (fun hg => ?_) | refine onG_split_f (fun hg => ?_) (fun hg => ?_)) <;> simp only [go_sem, hg]) | (refine K_condA (fun hc => ?_) (fun hc => ?_) <;> try (exact absurd hc (by decide))))
     exact K_ret (hQ _ ⟨.tup [], _, objs s', 1000000, rfl, trivial, hback _ (fun _ _ h => h) _ _, rfl, s', .inl (by rw [← hii]; exact hi'), rfl⟩).1
    ·simp only [go_sem, q5]
     refine hK _ ?_
     clear hK hKp K Kp
     repeat' (first | apply nx | refine Kq_exit_ne (by decide) ?_ | rw [wrap64 (by omega) (by omega)] | ((first | refine hK _ ?_ | refine hKp _ _ ?_); clear hK hKp K Kp; try clear hanc anc) | ((with_reducible refine And.intro ?_ ?_); (focus (first | trivial | omega | (simp only [Fits]; omega) | assumption | (rw [hanc]; rfl)))) | ((first | refine K_regA hE fun K Kp hK hKp => ?_ | refine K_drwA true mixed hE fun K Kp hK hKp anc hanc => ?_ | refine K_drwA false mixed hE fun K Kp hK hKp anc hanc => ?_); simp only [go_sem]) | ((first | refine onG_split_t (fun hg => ?_) (fun hg => ?_) | refine onG_split_f (fun hg => ?_) (fun hg => ?_)) <;> simp only [go_sem, hg]) | (refine K_condA (fun hc => ?_) (fun hc => ?_) <;> try (exact absurd hc (by decide))))
     exact K_ret (hQ _ ⟨.tup [], _, objs s', 1000000, rfl, trivial, hback _ (fun _ _ h => h) _ _, rfl, s', .inr hf', rfl⟩).1
  ·rintro x hp' hpn2 ⟨s', hx, rfl⟩ hobj _
   refine hKp _ _ (hQp _ _ ⟨x, _, _, 1000000, rfl, clo_ids (hIP x s' hx), ?_, s', hx, rfl⟩)
   refine ent_gen (fr := []) (by simp) (fun id o ho => ⟨hobj id o ho, hob s' id o ho⟩) (fun id id' o o' _ _ e => backM_id_inj (by omega) e) (fun id hid => ⟨backM_lt hid, by omega⟩)
 ·obtain rfl : pos = l.length := by omega
  rw [ysP_end] at hdr
  have hil : (ysP l p).length ≤ i := List.drop_eq_nil_iff.1 hdr
  have q : decide ((l.length : Int) < (l.length : Int)) = false := by simp
  repeat' (first | apply nx | refine Kq_exit_ne (by decide) ?_ | rw [wrap64 (by omega) (by omega)] | ((first | refine hK _ ?_ | refine hKp _ _ ?_); clear hK hKp K Kp; try clear hanc anc) | ((with_reducible refine And.intro ?_ ?_); (focus (first | trivial | omega | (simp only [Fits]; omega) | assumption | (rw [hanc]; rfl)))) | ((first | refine K_regA hE fun K Kp hK hKp => ?_ | refine K_drwA true mixed hE fun K Kp hK hKp anc hanc => ?_ | refine K_drwA false mixed hE fun K Kp hK hKp anc hanc => ?_); simp only [go_sem, ga, gb, q]) | ((first | refine onG_split_t (fun hg => ?_) (fun hg => ?_) | refine onG_split_f (fun hg => ?_) (fun hg => ?_)) <;> simp only [go_sem, ga, gb, q, hg]) | (refine K_condA (fun hc => ?_) (fun hc => ?_) <;> try (exact absurd hc (by decide))))
  refine Kq_norm_nil ?_
  have hi2 : i ≤ (ysP l p).length := hile
  have hii : i = (ysT l p).length := by rw [ysT_len]; omega
  refine (hQ _ ⟨.tup [], fun i => i, objs s, 1000000, rfl, trivial, ?_, rfl, s, .inl (by rw [← hii]; exact hinv), rfl⟩).2
  exact ent_idG (fr := []) (by simp) (fun id o ho => ⟨ho, hob s id o ho⟩) hn1
end Go.Proofs.YtihfjibkmhclfaaDoor

set_option linter.unusedSimpArgs false
set_option linter.unusedVariables false
set_option maxHeartbeats 4000000
set_option maxRecDepth 100000
namespace Go.Proofs.YtihfjibkmhclfaaDoor
open Go.Am Go.Proofs Go.Lx
open Classical
attribute [local irreducible] AW CallP CallB CallY
theorem tokens_call (l : List UInt8) (es : List (AV × AV)) (hes : EsClo es) : ACall Tryd.prog 19 [.ptr 0 0] (lxHp l es) 2 2 (fun r hp' => r = .fn (.func 23) [] [.ptr 2 0] ∧ hp' = updo (lxHp l es) 2 (some (.cells [.ptr 0 0]))) (fun _ _ => False) := by
 refine ACall.of_bodyR Tryd.func19 isf19 rfl (by simp [Tryd.f19]) fun E Q hE hN hQ hQp => K_start ?_
 repeat' (first | apply nx | refine Kq_exit_ne (by decide) ?_ | rw [wrap64 (by omega) (by omega)] | ((first | refine hK _ ?_ | refine hKp _ _ ?_); clear hK hKp K Kp; try clear hanc anc) | ((with_reducible refine And.intro ?_ ?_); (focus (first | trivial | omega | (simp only [Fits]; omega) | assumption | (rw [hanc]; rfl)))) | ((first | refine K_regA hE fun K Kp hK hKp => ?_ | refine K_drwA true mixed hE fun K Kp hK hKp anc hanc => ?_ | refine K_drwA false mixed hE fun K Kp hK hKp anc hanc => ?_); simp only [go_sem]) | ((first | refine onG_split_t (fun hg => ?_) (fun hg => ?_) | refine onG_split_f (fun hg => ?_) (fun hg => ?_)) <;> simp only [go_sem, hg]) | (refine K_condA (fun hc => ?_) (fun hc => ?_) <;> try (exact absurd hc (by decide))))
 refine K_ret (hQ _ ⟨.fn (.func 23) [] [.ptr 2 0], fun i => i, _, 3, resA_tmp (by simp only [go_sem]), (by simp [AV.ids, AV.idsL]), ?_, rfl, rfl⟩).1
 have hw := lxHp_wf hes l
 refine ent_idG (fr := []) (by simp) (fun id o ho => ⟨ho, ?_⟩) (by decide)
 simp only [updo] at ho
 split at ho
 ·rename_i e; cases ho; subst e; exact ⟨by decide, by simp [AObj.ids, AV.idsL, AV.ids]⟩
 ·have := hw.1 id o ho; exact ⟨by omega, objids_mono _ (fun i hi => by omega) this.2⟩
theorem f10a : List.drop 256 (il (List.replicate 256 0) ++ [AV.nilmap]) = [AV.nilmap] := by
 rw [clsA_0, List.drop_append_of_le_length (by rw [clsA_len]; exact Nat.le_refl _), clsA_drop]; rfl
theorem f10b : List.take 256 (clsA cls ++ [AV.nilmap]) = clsA cls := List.take_left' (clsA_len _)
theorem f10c : List.drop 257 (clsA cls ++ [AV.nilmap]) = [] := List.drop_eq_nil_of_le (by rw [List.length_append, clsA_len]; exact Nat.le_refl _)
theorem f10d (l : List UInt8) (m : Nat) : AV.str (tx l) :: (clsA cls ++ [AV.mp m]) = lxc l m := rfl
def lxO (l : List UInt8) (es : List (AV × AV)) (z : List Tk × Int × Nat) : Nat → Option AObj := mkHp [(0, .cells (lxc l 2)), (1, .cells [.nilsl]), (2, .map es), (3, .cells [.i z.2.1]), (4, .cells [.ptr 0 0]), (5, .cells [.i z.2.2]), (6, .cells [.rw 9]), (9, .row 4 (tkl z.1))]
def mR (X i : Nat) : Nat := if i = 9 then X else i
theorem ent_famR {np : Nat} {fr : Nat → Option AV} {hp : Nat → Option AObj} {nx N X : Nat} {o : AObj} {L : List (Nat × AObj)} (hX : 9 ≤ X) (hX2 : X = 9 ∨ 1000000 ≤ X) (hL : ∀ p, p ∈ L → hp (mR X p.1) = some (p.2.ren (mR X)) ∧ p.1 < 1000000 ∧ p.2.ids (· < 1000000)) (hN : hp N = some o) (hN2 : N < 9) (ho : o.ren (mR X) = o) (ho2 : o.ids (· < 1000000)) (hnp : np ≤ 9) :
    Ent np (mR X) ⟨fr, hp, nx⟩ ⟨mkFr [], updo (mkHp L) N (some o), 1000000⟩ := by
  have key : ∀ id ob, updo (mkHp L) N (some o) id = some ob → hp (mR X id) = some (ob.ren (mR X)) ∧ id < 1000000 ∧ ob.ids (· < 1000000) := by
    intro id ob h
    simp only [updo] at h
    split at h
    · rename_i e
      cases h
      subst e
      exact ⟨by unfold mR at *; rw [if_neg (by omega), ho]; exact hN, by omega, ho2⟩
    · exact mkHp_allP (p := fun id ob => hp (mR X id) = some (ob.ren (mR X)) ∧ id < 1000000 ∧ ob.ids (· < 1000000)) hL id ob h
  refine ent_gen (fr := []) (by simp) key (fun id id' ob ob' h h' e => ?_) (fun id hid => ⟨by unfold mR; rw [if_neg (by omega)], by omega⟩)
  have := (key id ob h).2.1
  have := (key id' ob' h').2.1
  unfold mR at e
  split at e <;> split at e <;> omega
theorem lex_call (l : List UInt8) (hl : l.length ≤ 2 ^ 30) : PCall Tryd.prog 10 [.str (tx l)] (resL (lexT l)) := by
 have cc := classes_call
 refine PCall.introM Tryd.func10 rfl isf10 (by simp [Tryd.f10]) (by simp [AV.cloL, AV.clo]) fun E Q hE hN hM hQ => K_start ?_
 by_cases hbig : 20000 < l.length
 ·have q : decide ((l.length : Int) > 20000) = true := decide_eq_true (by omega)
  rw [lexT_gt hbig] at hQ
  repeat' (first | apply nx | refine Kq_exit_ne (by decide) ?_ | rw [wrap64 (by omega) (by omega)] | ((first | refine hK _ ?_ | refine hKp _ _ ?_); clear hK hKp K Kp; try clear hanc anc) | ((with_reducible refine And.intro ?_ ?_); (focus (first | trivial | omega | (simp only [Fits]; omega) | assumption | (rw [hanc]; rfl)))) | ((first | refine K_regA hE fun K Kp hK hKp => ?_ | refine K_drwA true mixed hE fun K Kp hK hKp anc hanc => ?_ | refine K_drwA false mixed hE fun K Kp hK hKp anc hanc => ?_); simp only [go_sem, q]) | ((first | refine onG_split_t (fun hg => ?_) (fun hg => ?_) | refine onG_split_f (fun hg => ?_) (fun hg => ?_)) <;> simp only [go_sem, q, hg]) | (refine K_condA (fun hc => ?_) (fun hc => ?_) <;> try (exact absurd hc (by decide))))
  refine K_ret (hQ _ ⟨.tup [.nilsl, .i 2, .i 20000], (by simp [resA, rvA, Tryd.f10, go_sem, updo]; rfl), (by simp [AV.snapOk, AV.snapOkL, go_sem, updo]), (by (simp [AV.snap, AV.snapL, go_sem, resL])), (by first | rfl | simp [AV.clo, AV.cloL, go_sem, updo])⟩).1
 rw [lexT_le (by omega)] at hQ
 have q : decide ((l.length : Int) > 20000) = false := decide_eq_false (by omega)
 repeat' (first | apply nx | refine Kq_exit_ne (by decide) ?_ | rw [wrap64 (by omega) (by omega)] | ((first | refine hK _ ?_ | refine hKp _ _ ?_); clear hK hKp K Kp; try clear hanc anc) | ((with_reducible refine And.intro ?_ ?_); (focus (first | trivial | omega | (simp only [Fits]; omega) | assumption | (rw [hanc]; rfl)))) | ((first | refine K_regA hE fun K Kp hK hKp => ?_ | refine K_drwA true mixed hE fun K Kp hK hKp anc hanc => ?_ | refine K_drwA false mixed hE fun K Kp hK hKp anc hanc => ?_ | ((first | apply CallP_mk | apply CallB_mk); (focus (simp only [go_sem] <;> rfl)); (focus (exact cc)); (focus (first | (simp [go_sem]; done) | (simp [go_sem, CloRow, AV.cells, AV.clo]; done))); (focus (first | exact .inl rfl | (right; simp [go_sem]))))); simp only [go_sem, q]) | ((first | refine onG_split_t (fun hg => ?_) (fun hg => ?_) | refine onG_split_f (fun hg => ?_) (fun hg => ?_)) <;> simp only [go_sem, q, hg]) | (refine K_condA (fun hc => ?_) (fun hc => ?_) <;> try (exact absurd hc (by decide))))
 refine Hold.mk (CallB.use symbols_call (fun i => i) rfl trivial (fun id o h => by cases h) (fun id id' o o' h => by cases h) (fun id h => absurd h (Nat.not_lt_zero _)) ?_ (fun _ _ h => h.elim) ?_ (fun _ _ _ h => h.elim))
 ·rintro r hp' ⟨rfl, es, rfl, hm, hes, hez⟩
  exact ⟨by show 0 < _; omega, mkHp_allP (p := fun id o => id < 0 + 1048576 ∧ o.ids (· < 0 + 1048576)) (by simp [AObj.ids]; exact hes.ids2 _)⟩
 rintro r hp' fr' hpn ⟨rfl, es, rfl, hm, hes, hez⟩ hfr hobj hold
 simp only [St.put, putf] at hfr
 subst hfr
 have hmap := hobj 0 _ rfl
 have hb0 := hold 0 _ rfl (fun j hj => absurd rfl hj)
 have hb1 := hold 1048576 _ rfl (fun j hj => absurd rfl hj)
 have hb2 := hold 2097152 _ rfl (fun j hj => absurd rfl hj)
 rw [AObj.ren, hes.ren] at hmap
 simp only [backM, Nat.not_lt_zero, if_false, Nat.sub_zero, Nat.reduceMul, Nat.reduceAdd] at hmap
 simp only [go_sem, f10a, f10b, f10c, f10d, backM, Nat.not_lt_zero, List.append_nil, Nat.reduceAdd, List.length_cons, List.length_nil, Nat.sub_zero]
 refine hK _ ?_; clear hK hKp K Kp; try clear hanc anc
 repeat (first | refine Kq_norm_code ?_ | refine Kq_norm_blk ?_ | refine Kq_norm_lp ?_)
 have hw := lxHp_wf hes l
 refine AW.ent (σ' := mkSt [(2, .ptr 1 0), (3, .ptr 3 0), (4, .ptr 5 0), (5, .ptr 0 0)] [(0, .cells (lxc l 2)), (1, .cells [.nilsl]), (2, .map es), (3, .cells [.i 0]), (5, .cells [.i 0])] 6) (fun i => if i = 0 then 10485760 else if i = 1 then 0 else if i = 2 then 8388608 else if i = 3 then 1048576 else if i = 5 then 2097152 else i)
  (ent_mk (by simp [go_sem]) (by simp [go_sem, hb0, hb1, hb2, hmap, lxc_ren, lxc_ids, hes.ren]; exact hes.ids2 _) (by simp) (by simp [hN])) ?_
 repeat (first | refine K_seq ?_ | refine K_blk ?_ | refine AW_skip ?_ | refine Kq_norm_code ?_ | refine Kq_norm_blk ?_)
 refine K_regA hE fun K Kp hK hKp => ?_
 simp only [go_sem]
 refine hK _ ?_; clear hK hKp K Kp; try clear hanc anc
 repeat (first | refine Kq_norm_code ?_ | refine Kq_norm_blk ?_ | refine Kq_norm_lp ?_)
 repeat (first | refine K_seq ?_ | refine K_blk ?_ | refine AW_skip ?_ | refine Kq_norm_code ?_ | refine Kq_norm_blk ?_)
 refine K_regA hE fun K Kp hK hKp => ?_
 simp only [go_sem]
 refine Hold.mk (CallB.use (tokens_call l es hes) (m2 0 2) rfl (by simp [AV.idsL, AV.ids]) ?_ ?_ ?_ ?_ (fun _ _ h => h.elim) ?_ (fun _ _ _ h => h.elim))
 ·exact mkHp_allP (p := fun id o => updo (mkHp [(0, .cells (lxc l 2)), (1, .cells [.nilsl]), (2, .map es), (3, .cells [.i 0]), (5, .cells [.i 0])]) 6 (some (.cells [.nilsl])) (m2 0 2 id) = some (o.ren (m2 0 2)) ∧ id < 2 ∧ o.ids (· < 2)) (by simp [go_sem, m2, lxc_ren, lxc_ids, hes.ren]; exact hes.ids2 _)
 ·intro id id' o o' h h' e
  have g := (hw.1 id o h).1
  have g' := (hw.1 id' o' h').1
  unfold m2 at e
  rcases (by omega : id = 0 ∨ id = 1) with rfl | rfl <;> rcases (by omega : id' = 0 ∨ id' = 1) with rfl | rfl <;> simp at e ⊢
 ·exact fun id hid => ⟨hid, hw.2.1 id hid⟩
 ·rintro r hp' ⟨rfl, rfl⟩
  refine ⟨by simp [AV.ids, AV.idsL], fun id o ho => ?_⟩
  simp only [updo] at ho
  split at ho
  ·rename_i e; cases ho; subst e; exact ⟨by decide, by simp [AObj.ids, AV.idsL, AV.ids]⟩
  ·have := hw.1 id o ho; exact ⟨by omega, objids_mono _ (fun i hi => by omega) this.2⟩
 rintro r hp' fr' hpn2 ⟨rfl, rfl⟩ hfr hobj2 hold2
 simp only [St.put, putf] at hfr
 subst hfr
 have hne : ∀ j, lxHp l es j ≠ none → m2 0 2 j = 0 ∨ m2 0 2 j = 2 := fun j hj => by
  unfold m2
  by_cases h : j = 0
  ·left; rw [if_pos h]
  ·right; rw [if_neg h]
 have k0 := hold2 1 (.cells [.nilsl]) rfl (fun j hj e => by rcases hne j hj with h | h <;> omega)
 have k1 := hold2 3 (.cells [.i 0]) rfl (fun j hj e => by rcases hne j hj with h | h <;> omega)
 have k2 := hold2 5 (.cells [.i 0]) rfl (fun j hj e => by rcases hne j hj with h | h <;> omega)
 have k5 := hold2 6 (.cells [.nilsl]) rfl (fun j hj e => by rcases hne j hj with h | h <;> omega)
 have k3 := hobj2 0 (.cells (lxc l 1)) rfl
 have k4 := hobj2 1 (.map es) rfl
 have k6 := hobj2 2 (.cells [.ptr 0 0]) rfl
 rw [AObj.ren, lxc_ren] at k3
 rw [AObj.ren, hes.ren] at k4
 simp [backM, m2, AObj.ren, AV.renL, AV.ren] at k3 k4 k6
 clear hobj2 hold2 hobj hold
 simp only [go_sem, backM, m2, AV.ren, AV.renL]
 refine hK _ ?_; clear hK hKp K Kp; try clear hanc anc
 repeat (first | refine Kq_norm_code ?_ | refine Kq_norm_blk ?_ | refine Kq_norm_lp ?_)
 refine AW.ent (σ' := mkSt [(2, .ptr 1 0), (3, .ptr 3 0), (4, .ptr 5 0), (6, .ptr 6 0), (18, .fn (.func 23) [] [.ptr 4 0])] [(0, .cells (lxc l 2)), (1, .cells [.nilsl]), (2, .map es), (3, .cells [.i 0]), (4, .cells [.ptr 0 0]), (5, .cells [.i 0]), (6, .cells [.nilsl])] 7) (fun i => if i = 4 then 2097158 else i)
  (ent_mk (by simp [go_sem, AV.ids, AV.idsL]) (by simp [go_sem, k0, k1, k2, k3, k4, k5, k6, lxc_ren, lxc_ids, hes.ren]; exact hes.ids2 _) (by simp) (by simp [hN])) ?_
 refine AW_nilc 6 0 4 (by simp [go_sem]; rfl) rfl ?_
 simp only [go_sem]
 refine AW.ent (σ' := ⟨mkFr [(2, .ptr 1 0), (3, .ptr 3 0), (4, .ptr 5 0), (6, .ptr 6 0), (18, .fn (.func 23) [] [.ptr 4 0])], lxO l es ([], 0, 0), 1000000⟩) (fun i => if i = 9 then 7 else i) (by
  show Ent _ _ _ (mkSt _ [(0, .cells (lxc l 2)), (1, .cells [.nilsl]), (2, .map es), (3, .cells [.i 0]), (4, .cells [.ptr 0 0]), (5, .cells [.i ((0 : Nat) : Int)]), (6, .cells [.rw 9]), (9, .row 4 (tkl []))] 1000000)
  exact ent_mk (by simp [go_sem, AV.ids, AV.idsL]) (by simp [go_sem, lxc_ren, lxc_ids, hes.ren]; exact hes.ids2 _) (by simp) (by simp [hN])) ?_
 refine K_blk ?_
 refine AW_iter hM (tok_iter hl hes hez hm (a := 4) (b := 0) (c := 2) (by decide)) (lxO l es) 7 (by decide) (by rw [hN]; decide) (by simp [AV.idsL, AV.ids]) (by simp) (fun z => by simp [lxO, mkHp, updo]) (fun z id o ho => ?_) (fun z id hid => ?_) [(2, .ptr 1 0), (3, .ptr 3 0), (4, .ptr 5 0), (6, .ptr 6 0), (18, .fn (.func 23) [] [.ptr 4 0])] (by simp [AV.ids, AV.idsL]) (by simp [go_sem]) (by simp [go_sem]) [2, 3, 4, 6] [.ptr 1 0, .ptr 3 0, .ptr 5 0, .ptr 6 0]
  (by intro i hi; match i, hi with | 0, _ => rfl | 1, _ => rfl | 2, _ => rfl | 3, _ => rfl | i + 4, h => simp at h; omega) (by simp [AV.idsL, AV.ids]) (fun y hy => ?_) (by rw [hE]; decide)
  (fun i z => Kept l i z.1 ∧ z.2 = (0, 0)) (fun c z => c = none ∧ lexM l = ([], z.2)) (fun _ _ => False) (fun _ _ h => h.elim) ?_ ([], 0, 0) ⟨Kept.nil l, rfl⟩ ?_ ?_ (fun _ _ _ _ h => h.elim)
 ·revert ho
  exact mkHp_allP (p := fun id o => (id < 1000000 ∧ id ≠ 7) ∧ o.ids (fun j => j < 1000000 ∧ j ≠ 7)) (by simp [AObj.ids, AV.ids, AV.idsL, go_sem, lxc_ids]; exact hes.ids2 _) id o
 ·rcases (by omega : id = 0 ∨ id = 1 ∨ id = 2 ∨ id = 3 ∨ id = 4 ∨ id = 5 ∨ id = 6) with rfl | rfl | rfl | rfl | rfl | rfl | rfl <;> simp [lxO, mkHp, updo]
 ·obtain ⟨q, _, rfl⟩ := List.mem_map.1 hy; rfl
 ·rintro ll fnn i y ⟨s, z⟩ E' Q' ⟨hk, hz⟩ hy hE' hN' hnorm hleft hpan
  simp only at hk hz
  subst hz
  rw [ysT, List.getElem?_map] at hy
  obtain ⟨⟨t, e⟩, hy1, rfl⟩ := Option.map_eq_some_iff.1 hy
  have hyi := ysP_inv hy1
  have o0 : lxO l es (s, 0, 0) 1 = some (.cells [.nilsl]) := rfl
  have o1 : lxO l es (s, 0, 0) 3 = some (.cells [.i 0]) := rfl
  have o2 : lxO l es (s, 0, 0) 5 = some (.cells [.i 0]) := rfl
  have o3 : lxO l es (s, 0, 0) 0 = some (.cells (lxc l 2)) := rfl
  have o4 : lxO l es (s, 0, 0) 2 = some (.map es) := rfl
  have o5 : lxO l es (s, 0, 0) 4 = some (.cells [.ptr 0 0]) := rfl
  have o6 : lxO l es (s, 0, 0) 6 = some (.cells [.rw 9]) := rfl
  have o7 : lxO l es (s, 0, 0) 9 = some (.row 4 (tkl s)) := rfl
  unfold RoundG
  rw [Tk.av_eq]
  refine K_start ?_
  show AW Tryd.prog E' _ _ ⟨upd (upd (mkFr [(2, .ptr 1 0), (3, .ptr 3 0), (4, .ptr 5 0), (6, .ptr 6 0)]) 19 (.agg [.i t.kind, .str (tx t.text), .i t.num, .i t.off])) 20 (.i e), updo (lxO l es (s, 0, 0)) 7 _, 1000000⟩
  rw [hE] at hE'
  replace hE := hE'
  repeat' (first | apply nx | refine Kq_exit_ne (by decide) ?_ | rw [wrap64 (by omega) (by omega)] | ((first | refine hK _ ?_ | refine hKp _ _ ?_); clear hK hKp K Kp; try clear hanc anc) | ((with_reducible refine And.intro ?_ ?_); (focus (first | trivial | omega | (simp only [Fits]; omega) | assumption | (rw [hanc]; rfl)))) | ((first | refine K_regA hE fun K Kp hK hKp => ?_ | refine K_drwA true mixed hE fun K Kp hK hKp anc hanc => ?_ | refine K_drwA false mixed hE fun K Kp hK hKp anc hanc => ?_); simp only [go_sem]) | ((first | refine onG_split_t (fun hg => ?_) (fun hg => ?_) | refine onG_split_f (fun hg => ?_) (fun hg => ?_)) <;> simp only [go_sem, hg]) | (refine K_condA (fun hc => ?_) (fun hc => ?_) <;> try (exact absurd hc (by decide))))
  refine Kq_norm_nil ?_
  refine ⟨[.ptr 1 0, .ptr 3 0, .ptr 5 0, .ptr 6 0], by simp [updo], K_start ?_⟩
  show AW Tryd.prog E' _ _ ⟨_, _, 4145728⟩
  have q2 : ((s.length : Int) == 6000) = decide (i = 6000) := by
   rw [hk.2.1]; by_cases h : i = 6000 <;> simp [h]; omega
  have hsl : s.length ≤ 6000 := by have h1 := hk.2.1; have h2 := hk.2.2; omega
  by_cases he : e = 0
  ·subst he
   have ht : (lx 0 l).1[i]? = some t := by
    rcases hyi with ⟨_, h⟩ | ⟨h, _⟩
    ·exact h
    ·exact absurd rfl h
   by_cases h6 : i = 6000
   ·rw [decide_eq_true h6] at q2
    repeat' (first | apply nx | refine Kq_exit_ne (by decide) ?_ | rw [wrap64 (by omega) (by omega)] | ((first | refine hK _ ?_ | refine hKp _ _ ?_); clear hK hKp K Kp; try clear hanc anc) | ((with_reducible refine And.intro ?_ ?_); (focus (first | trivial | omega | (simp only [Fits]; omega) | assumption | (rw [hanc]; rfl)))) | ((first | refine K_regA hE fun K Kp hK hKp => ?_ | refine K_drwA true mixed hE fun K Kp hK hKp anc hanc => ?_ | refine K_drwA false mixed hE fun K Kp hK hKp anc hanc => ?_); simp only [go_sem, o0, o1, o2, o6, o7, q2]) | ((first | refine onG_split_t (fun hg => ?_) (fun hg => ?_) | refine onG_split_f (fun hg => ?_) (fun hg => ?_)) <;> simp only [go_sem, o0, o1, o2, o6, o7, q2, hg]) | (refine K_condA (fun hc => ?_) (fun hc => ?_) <;> try (exact absurd hc (by decide))))
    refine K_ret ?_
    show leftQ Q' none _
    refine hleft _ (s, 2, t.off) (mR 9) none ⟨rfl, lexM_full (by rw [← h6]; exact ht)⟩ ?_
    exact ent_famR (X := 9) (by decide) (by decide) (by simp [go_sem, mR, updo, o0, o1, o2, o3, o4, o5, o6, o7, lxc_ren, lxc_ids, hes.ren, AV.ids, AV.idsL]; exact hes.ids2 _) (by simp [updo]) (by decide) (by simp [AObj.ren, AV.renL, AV.ren, mR]) (by simp [AObj.ids, AV.ids, AV.idsL]) (by decide)
   ·rw [decide_eq_false h6] at q2
    repeat' (first | apply nx | refine Kq_exit_ne (by decide) ?_ | rw [wrap64 (by omega) (by omega)] | ((first | refine hK _ ?_ | refine hKp _ _ ?_); clear hK hKp K Kp; try clear hanc anc) | ((with_reducible refine And.intro ?_ ?_); (focus (first | trivial | omega | (simp only [Fits]; omega) | assumption | (rw [hanc]; rfl)))) | ((first | refine K_regA hE fun K Kp hK hKp => ?_ | refine K_drwA true mixed hE fun K Kp hK hKp anc hanc => ?_ | refine K_drwA false mixed hE fun K Kp hK hKp anc hanc => ?_); simp only [go_sem, o0, o1, o2, o6, o7, q2]) | ((first | refine onG_split_t (fun hg => ?_) (fun hg => ?_) | refine onG_split_f (fun hg => ?_) (fun hg => ?_)) <;> simp only [go_sem, o0, o1, o2, o6, o7, q2, hg]) | (refine K_condA (fun hc => ?_) (fun hc => ?_) <;> try (exact absurd hc (by decide))))
    repeat (first | refine Kq_norm_blk ?_ | refine Kq_norm_nil ?_)
    refine hnorm _ (s ++ [t], 0, 0) (mR 16728640) ⟨hk.snoc ht h6, rfl⟩ ?_
    exact ent_famR (X := 16728640) (by decide) (by decide) (by simp [go_sem, mR, updo, o0, o1, o2, o3, o4, o5, o6, o7, lxc_ren, lxc_ids, hes.ren, AV.ids, AV.idsL]; exact hes.ids2 _) (by simp [updo]) (by decide) (by simp [AObj.ren, AV.renL, AV.ren, mR]) (by simp [AObj.ids, AV.ids, AV.idsL]) (by decide)
  ·have ht : i = (lx 0 l).1.length ∧ (lx 0 l).2 = (e, t.off) := by
    rcases hyi with ⟨h, _⟩ | ⟨_, h⟩
    ·exact absurd h he
    ·exact h
   have q1 : (e == 0) = false := by simpa using he
   have q5 : (e != 0) = true := by simpa using he
   repeat' (first | apply nx | refine Kq_exit_ne (by decide) ?_ | rw [wrap64 (by omega) (by omega)] | ((first | refine hK _ ?_ | refine hKp _ _ ?_); clear hK hKp K Kp; try clear hanc anc) | ((with_reducible refine And.intro ?_ ?_); (focus (first | trivial | omega | (simp only [Fits]; omega) | assumption | (rw [hanc]; rfl)))) | ((first | refine K_regA hE fun K Kp hK hKp => ?_ | refine K_drwA true mixed hE fun K Kp hK hKp anc hanc => ?_ | refine K_drwA false mixed hE fun K Kp hK hKp anc hanc => ?_); simp only [go_sem, o0, o1, o2, o6, o7, q1, q5]) | ((first | refine onG_split_t (fun hg => ?_) (fun hg => ?_) | refine onG_split_f (fun hg => ?_) (fun hg => ?_)) <;> simp only [go_sem, o0, o1, o2, o6, o7, q1, q5, hg]) | (refine K_condA (fun hc => ?_) (fun hc => ?_) <;> try (exact absurd hc (by decide))))
   refine K_ret ?_
   show leftQ Q' none _
   refine hleft _ (s, e, t.off) (mR 9) none ⟨rfl, lexM_err (by rw [← ht.1]; exact hk.2.2) ht.2 he⟩ ?_
   exact ent_famR (X := 9) (by decide) (by decide) (by simp [go_sem, mR, updo, o0, o1, o2, o3, o4, o5, o6, o7, lxc_ren, lxc_ids, hes.ren, AV.ids, AV.idsL]; exact hes.ids2 _) (by simp [updo]) (by decide) (by simp [AObj.ren, AV.renL, AV.ren, mR]) (by simp [AObj.ids, AV.ids, AV.idsL]) (by decide)
 ·rintro σ ⟨s, z⟩ m ⟨hk, rfl⟩ he
  rw [ysT_len] at hk
  rw [kept_end hk] at hQ
  refine Kq_norm_blk (Kq_norm_code (AW.ent m he ?_))
  have o0 : lxO l es (s, 0, 0) 1 = some (.cells [.nilsl]) := rfl
  have o1 : lxO l es (s, 0, 0) 3 = some (.cells [.i 0]) := rfl
  have o2 : lxO l es (s, 0, 0) 5 = some (.cells [.i 0]) := rfl
  have o6 : lxO l es (s, 0, 0) 6 = some (.cells [.rw 9]) := rfl
  have o7 : lxO l es (s, 0, 0) 9 = some (.row 4 (tkl s)) := rfl
  repeat' (first | apply nx | refine Kq_exit_ne (by decide) ?_ | rw [wrap64 (by omega) (by omega)] | ((first | refine hK _ ?_ | refine hKp _ _ ?_); clear hK hKp K Kp; try clear hanc anc) | ((with_reducible refine And.intro ?_ ?_); (focus (first | trivial | omega | (simp only [Fits]; omega) | assumption | (rw [hanc]; rfl)))) | ((first | refine K_regA hE fun K Kp hK hKp => ?_ | refine K_drwA true mixed hE fun K Kp hK hKp anc hanc => ?_ | refine K_drwA false mixed hE fun K Kp hK hKp anc hanc => ?_); simp only [go_sem, o0, o1, o2, o6, o7]) | ((first | refine onG_split_t (fun hg => ?_) (fun hg => ?_) | refine onG_split_f (fun hg => ?_) (fun hg => ?_)) <;> simp only [go_sem, o0, o1, o2, o6, o7, hg]) | (refine K_condA (fun hc => ?_) (fun hc => ?_) <;> try (exact absurd hc (by decide))))
  refine K_ret (hQ _ ⟨.tup [.rw 9, .i 0, .i 0], (by simp [resA, rvA, Tryd.f10, go_sem, updo, o7]; rfl), (by simp [AV.snapOk, AV.snapOkL, go_sem, updo, o7]), (by (simp [AV.snap, AV.snapL, go_sem, updo, o7, resL])), (by first | rfl | simp [AV.clo, AV.cloL, go_sem, updo, o7])⟩).1
 ·rintro σ ⟨s, e, p⟩ m c ⟨rfl, hn⟩ he
  rw [hn] at hQ
  have h2 := he.1 2 (.ptr 1 0) rfl
  have h3 := he.1 3 (.ptr 3 0) rfl
  have h4 := he.1 4 (.ptr 5 0) rfl
  have g0 := (he.2.1 1 (.cells [.nilsl]) rfl).1
  have g1 := (he.2.1 3 (.cells [.i e]) rfl).1
  have g2 := (he.2.1 5 (.cells [.i p]) rfl).1
  simp only [AV.ren, AObj.ren, AV.renL] at h2 h3 h4 g0 g1 g2
  show Kq _ _ _ _ .ret σ
  refine Kq_ret_cons (Kq_ret_cons (Kq_ret_nil ?_))
  exact (hQ _ ⟨.tup [.nilsl, .i e, .i p], by simp [resA, rvA, Tryd.f10, go_sem, h2, h3, h4, g0, g1, g2]; rfl, by simp [AV.snapOk, AV.snapOkL], by simp [AV.snap, AV.snapL, resL, tkl], by simp [resL, AV.clo, AV.cloL]⟩).1
end Go.Proofs.YtihfjibkmhclfaaDoor

set_option linter.unusedSimpArgs false
set_option linter.unusedVariables false
set_option maxHeartbeats 4000000
set_option maxRecDepth 100000
namespace Go.Proofs.YtihfjibkmhclfaaDoor
open Nat (reduceAdd reduceMul reduceEqDiff reduceLT reduceLeDiff reduceSub reduceDiv)
open Int (reduceBNe reduceLE reduceEq)
open Go.Am Go.Proofs Go.Lx
open Classical
attribute [local irreducible] AW CallP CallB
def exA : List UInt8 := [108, 101, 116, 32, 114, 32, 61, 32, 38, 33, 120, 59, 32, 35, 32, 108, 111, 97, 110]
def exB : List UInt8 := [120, 45, 62, 121, 32, 97, 58, 58, 98, 60, 45, 49]
def exC : List UInt8 := [97, 32, 33, 32, 98]
def exD : List UInt8 := [32, 49, 48, 48, 48, 48, 48, 48, 48, 48, 49]
def toA : List Tk := [⟨1, [108, 101, 116], 0, 0⟩, ⟨1, [114], 0, 4⟩, ⟨3, [61], 0, 6⟩, ⟨3, [38, 33], 0, 8⟩, ⟨1, [120], 0, 10⟩, ⟨3, [59], 0, 11⟩]
def toB : List Tk := [⟨1, [120], 0, 0⟩, ⟨3, [45, 62], 0, 1⟩, ⟨1, [121], 0, 3⟩, ⟨1, [97], 0, 5⟩, ⟨3, [58, 58], 0, 6⟩, ⟨1, [98], 0, 8⟩, ⟨3, [60], 0, 9⟩, ⟨3, [45], 0, 10⟩, ⟨2, [49], 1, 11⟩]
theorem lxA : lexT exA = (toA, 0, 0) := by decide
theorem lxB : lexT exB = (toB, 0, 0) := by decide
theorem lxC : lexT exC = ([], 3, 2) := by decide
theorem lxD : lexT exD = ([], 2, 1) := by decide
theorem head_call : PCall Tryd.prog 9 [] (.bool true) := by
 have cA := lex_call exA (by decide)
 have cB := lex_call exB (by decide)
 have cC := lex_call exC (by decide)
 have cD := lex_call exD (by decide)
 rw [lxA] at cA
 rw [lxB] at cB
 rw [lxC] at cC
 rw [lxD] at cD
 unfold resL at cA cB cC cD
 simp only at cA cB cC cD
 have nA : toA.length = 6 := rfl
 have nB : toB.length = 9 := rfl
 have a3 : toA[3]? = some ⟨3, [38, 33], 0, 8⟩ := rfl
 have a5 : toA[5]? = some ⟨3, [59], 0, 11⟩ := rfl
 have b1 : toB[1]? = some ⟨3, [45, 62], 0, 1⟩ := rfl
 have b4 : toB[4]? = some ⟨3, [58, 58], 0, 6⟩ := rfl
 have b7 : toB[7]? = some ⟨3, [45], 0, 10⟩ := rfl
 have b8 : toB[8]? = some ⟨2, [49], 1, 11⟩ := rfl
 have ha : aggE Tryd.prog .eql 30 [.i 3, .str (tx [38, 33]), .i 0, .i ((8 : Nat) : Int)] [.int .i64 3, .str ⟨#[38, 33]⟩, .int .i64 0, .int .i64 8] = some (True, .bool true) := agg30 .eql ⟨3, [38, 33], 0, 8⟩ ⟨3, [38, 33], 0, 8⟩ true (by simp)
 have z1 : ((tx [45, 62]).toList == (⟨#[45, 62]⟩ : ByteArray).toList) = true := by rw [ba_eqB]; exact decide_eq_true rfl
 have z2 : ((tx [58, 58]).toList == (⟨#[58, 58]⟩ : ByteArray).toList) = true := by rw [ba_eqB]; exact decide_eq_true rfl
 have z3 : ((tx [45]).toList == (⟨#[45]⟩ : ByteArray).toList) = true := by rw [ba_eqB]; exact decide_eq_true rfl
 have q6 : (((6 : Nat) : Int) != 6) = false := rfl
 have q9 : (((9 : Nat) : Int) != 9) = false := rfl
 have e11 : (((11 : Nat) : Int) == 11) = true := rfl
 have e2 : (((2 : Nat) : Int) == 2) = true := rfl
 have e1 : (((1 : Nat) : Int) == 1) = true := rfl
 refine PCall.intro Tryd.func9 rfl isf9 (by simp [Tryd.f9]) (by simp [AV.cloL, AV.clo]) fun E Q hE hN hQ => K_start ?_
 repeat' (first | apply nx | refine Kq_exit_ne (by decide) ?_ | rw [wrap64 (by omega) (by omega)] | ((first | refine hK _ ?_ | refine hKp _ _ ?_); clear hK hKp K Kp; try clear hanc anc) | ((with_reducible refine And.intro ?_ ?_); (focus (first | trivial | omega | (simp only [Fits]; omega) | assumption | (rw [hanc]; rfl)))) | ((first | refine K_regA hE fun K Kp hK hKp => ?_ | refine K_drwA false mixed hE fun K Kp hK hKp anc hanc => ?_ | ((first | apply CallP_mk | apply CallB_mk); (focus (simp only [go_sem] <;> rfl)); (focus (first | exact cA | exact cB | exact cC | exact cD)); (focus (first | (simp [go_sem]; done) | (simp [go_sem, CloRow, AV.cells, AV.clo]; done))); (focus (first | exact .inl rfl | (right; simp [go_sem]))))); simp only [go_sem, nA, nB, a3, a5, b1, b4, b7, b8, Tk.av_eq, ha, z1, z2, z3, q6, q9, e11, e2, e1]) | ((first | refine onG_split_t (fun hg => ?_) (fun hg => ?_) | refine onG_split_f (fun hg => ?_) (fun hg => ?_)) <;> simp only [go_sem, nA, nB, a3, a5, b1, b4, b7, b8, Tk.av_eq, ha, z1, z2, z3, q6, q9, e11, e2, e1, hg]) | (refine K_condA (fun hc => ?_) (fun hc => ?_) <;> try (exact absurd hc (by decide))) | (refine K_ret ?_; refine (hQ _ ⟨_, by (try simp only [go_sem, ↓reduceIte, Nat.reduceEqDiff]); rfl, by simp [go_sem], ?_, by first | rfl | assumption⟩).1))
 simp [AV.snap]
end Go.Proofs.YtihfjibkmhclfaaDoor
