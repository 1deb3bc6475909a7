/- A part of the proof: an abstract machine for the walks, and what the walked functions compute. -/
import Derived.Test.YtdheeecpkkjfiaaCa
import Derived.Test.YtdheeecpkkjfiaaMf
import Derived.Test.YtdheeecpkkjfiaaCg
import Derived.Test.YtdheeecpkkjfiaaCh
set_option linter.unusedVariables false
set_option linter.unusedSimpArgs false
/- Chapter 10: a function that makes a lowering: its memory brought into a method's form. -/
set_option linter.unusedVariables false
set_option linter.unusedSimpArgs false
namespace Go.Low
open Go Go.Am
variable {P : Program} {E : En} {σ : St} {Q : AEx → St → Prop}

theorem Ent.le {np np' : Nat} {m : Nat → Nat} {σ σ' : St} (h : Ent np m σ σ') (hn : np' ≤ np) : Ent np' m σ σ' :=
  ⟨h.1, h.2.1, h.2.2.1, fun id hid => h.2.2.2 id (Nat.lt_of_lt_of_le hid hn)⟩

/-- As K_low, for a function to which the lowering belongs. -/
theorem K_lowE {c : Code} {fr : List (Nat × AV)} {loc : List (Nat × AObj)} {md : Hs} {bl : List Blk} {cur : Int} (base : Nat) (q : Nat → Nat) (hN : E.np = 0) (hb : OkB bl) (hlen : bl.length ≤ 500000) (hm : OkM md) (hbase : 2 ≤ base) (hl : LowIn σ.hp md base bl cur)
    (h1 : ∀ p, p ∈ fr → σ.fr p.1 = some (p.2.ren (lowM q base)) ∧ p.2.ids (· < 1000000))
    (h2 : ∀ p, p ∈ loc → 2 ≤ p.1 ∧ p.1 < 10 ∧ σ.hp (q p.1) = some (p.2.ren (lowM q base)) ∧ p.2.ids (· < 1000000) ∧ lowHp md base bl cur (q p.1) = none) (h3 : loc.Pairwise fun a b => q a.1 ≠ q b.1)
    (h : AW P E c Q ⟨mkFr fr, hpOn loc (lowHp md 10 bl cur), 1000000⟩) : AW P E c Q σ :=
  AW.ent (lowM q base) (by rw [hN]; exact Ent.le (ent_low q hb hlen hm hbase hl h1 h2 h3) (Nat.zero_le _)) h

def topM (X Y base : Nat) (q : Nat → Nat) (i : Nat) : Nat := if i = 0 then X else if i = 1 then Y else if i < 10 then q i else base

theorem K_top {c : Code} {fr : List (Nat × AV)} {loc : List (Nat × AObj)} {md : Hs} {cur : Int} (X Y base : Nat) (q : Nat → Nat) (hN : E.np = 0) (hm : OkM md) (hXY : X ≠ Y) (hXb : X ≠ base) (hYb : Y ≠ base)
    (h0 : σ.hp X = some (.cells (AV.renL (topM X Y base q) (md.cs cur 10)))) (h1 : ∀ ob, md.o1 = some ob → σ.hp Y = some ob) (h2 : σ.hp base = some (.row 4 []))
    (hfr : ∀ p, p ∈ fr → σ.fr p.1 = some (p.2.ren (topM X Y base q)) ∧ p.2.ids (· < 1000000))
    (hlc : ∀ p, p ∈ loc → 2 ≤ p.1 ∧ p.1 < 10 ∧ σ.hp (q p.1) = some (p.2.ren (topM X Y base q)) ∧ p.2.ids (· < 1000000) ∧ q p.1 ≠ X ∧ q p.1 ≠ Y ∧ q p.1 ≠ base) (hpw : ∀ p p', p ∈ loc → p' ∈ loc → q p.1 = q p'.1 → p.1 = p'.1)
    (h : AW P E c Q ⟨mkFr fr, hpOn loc (lowHp md 10 [] cur), 1000000⟩) : AW P E c Q σ := by
  refine AW.ent (topM X Y base q) ?_ h
  rw [hN]
  have mq : ∀ i, 2 ≤ i → i < 10 → topM X Y base q i = q i := by
    intro i g1 g2
    unfold topM
    rw [if_neg (by omega), if_neg (by omega), if_pos g2]
  refine ⟨fun t x hx => hfr _ (mkFr_mem hx), fun id o ho => ?_, fun id id' o o' ho ho' he => ?_, fun id hid => absurd hid (Nat.not_lt_zero _)⟩
  · rcases hpOn_mem ho with ho | ho
    · obtain ⟨g1, g2, g3, g4, _⟩ := hlc _ ho
      simp only at g1 g2 g3 g4
      rw [mq _ g1 g2]
      exact ⟨g3, by show id < 1000000; omega, g4⟩
    · have g := lowHp_lt (by omega) (fun _ h => by cases h) hm ho
      refine ⟨?_, by have := g.1; simp only [List.length_nil] at this; show id < 1000000; omega, objids_mono _ (fun i hi => by show i < 1000000; simp only [List.length_nil] at hi; omega) g.2⟩
      rcases lowHp_cases (by omega) ho with ⟨rfl, rfl⟩ | ⟨rfl, e⟩ | ⟨rfl, rfl⟩ | ⟨k, b, _, hk, _⟩
      · exact h0
      · rw [(hm.ob _ e).2.1]; exact h1 _ e
      · exact h2
      · cases hk
  · have mix : ∀ {i o j ob}, (i, o) ∈ loc → lowHp md 10 [] cur j = some ob → topM X Y base q i = topM X Y base q j → False := by
      intro i o j ob hi hj e
      obtain ⟨g1, g2, g3, g4, g5, g6, g7⟩ := hlc _ hi
      simp only at g1 g2 g3 g4 g5 g6 g7
      rw [mq _ g1 g2] at e
      rcases lowHp_cases (by omega) hj with ⟨rfl, _⟩ | ⟨rfl, _⟩ | ⟨rfl, _⟩ | ⟨k, b, _, hk, _⟩
      · exact g5 e
      · exact g6 e
      · exact g7 e
      · cases hk
    rcases hpOn_mem ho with ho | ho <;> rcases hpOn_mem ho' with ho' | ho'
    · have a1 := hlc _ ho
      have a2 := hlc _ ho'
      simp only at a1 a2
      rw [mq _ a1.1 a1.2.1, mq _ a2.1 a2.2.1] at he
      exact hpw _ _ ho ho' he
    · exact (mix ho ho' he).elim
    · exact (mix ho' ho he.symm).elim
    · rcases lowHp_cases (by omega) ho with ⟨rfl, _⟩ | ⟨rfl, _⟩ | ⟨rfl, _⟩ | ⟨k, b, _, hk, _⟩ <;> rcases lowHp_cases (by omega) ho' with ⟨rfl, _⟩ | ⟨rfl, _⟩ | ⟨rfl, _⟩ | ⟨k', b', _, hk', _⟩ <;>
        first | rfl | (cases hk; done) | (cases hk'; done) | (simp [topM] at he; omega)
end Go.Low

/- Chapter 10: the blocks of a lowering, frozen. -/
set_option linter.unusedVariables false
set_option linter.unusedSimpArgs false
namespace Go.Low
open Go Go.Am
variable {P : Program} {E : En} {σ : St} {Q : AEx → St → Prop}

def frzB (b : Blk) : AV := .agg [.sl b.code, .i b.kind, .i b.a, .sl ((b.tg.getD []).map AV.i)]

/-- Blocks and a number of an error, as results. -/
def resAV (p : List Blk × Int) : AV := .tup [.sl (p.1.map frzB), .i p.2]

theorem cloL_mem : ∀ {l : List AV}, AV.cloL l = true → ∀ x, x ∈ l → x.clo = true
  | a :: l, h, x, hx => by
    simp only [AV.cloL, Bool.and_eq_true] at h
    rcases List.mem_cons.1 hx with rfl | hx
    · exact h.1
    · exact cloL_mem h.2 x hx
theorem clo_cells {x : AV} (h : x.clo = true) : ∀ c, c ∈ x.cells → c.clo = true := by
  cases x <;> simp only [AV.cells, List.mem_singleton] <;> first | (rintro c rfl; exact h) | skip
  exact cloL_mem h

theorem blk_snap {md : Hs} {o : Nat} {bl : List Blk} {cur : Int} {c k : Nat} {b : Blk} (hc : c = o + 1 + k) (ho : 2 ≤ o) (hk : bl[k]? = some b) (hb : ∀ x, x ∈ b.code → x.clo = true) :
    (blkAV c b).snapOk (fun i => if o < i then lowHp md o bl cur i else none) ∧ frzB b = (blkAV c b).snap (fun i => if o < i then lowHp md o bl cur i else none) := by
  unfold blkAV frzB
  have ht : (tgAV b.tg).snapOk (fun i => if o < i then lowHp md o bl cur i else none) ∧ AV.sl ((b.tg.getD []).map AV.i) = (tgAV b.tg).snap (fun i => if o < i then lowHp md o bl cur i else none) := by
    cases b.tg <;> exact ⟨by simp [tgAV, AV.snapOk], by simp [tgAV, AV.snap]⟩
  have hcd : (cAV c b).snapOk (fun i => if o < i then lowHp md o bl cur i else none) ∧ AV.sl b.code = (cAV c b).snap (fun i => if o < i then lowHp md o bl cur i else none) := by
    unfold cAV
    split
    · rename_i e; rw [e]; exact ⟨by simp [AV.snapOk], by simp [AV.snap]⟩
    · rename_i e
      have hF : (if o < c then lowHp md o bl cur c else none) = some (.row 7 b.code) := by
        rw [if_pos (by omega)]; exact lowHp_code ⟨hc, ho⟩ hk e
      refine ⟨?_, ?_⟩
      · rw [AV.snapOk, hF]; exact fun x hx => clo_cells (hb x hx)
      · rw [AV.snap, hF]
  refine ⟨?_, ?_⟩
  · simp only [AV.snapOk, AV.snapOkL, and_true]
    exact ⟨hcd.1, trivial, trivial, ht.1⟩
  · simp only [AV.snap, AV.snapL]
    rw [← hcd.2, ← ht.2]

theorem AW_frzBl {c : Code} {md : Hs} {bl : List Blk} {cur : Int} (t base : Nat) (hb2 : 2 ≤ base) (hx : σ.fr t = some (.rw base)) (hl : LowIn σ.hp md base bl cur) (hb : OkB bl)
    (h : AW P E c Q ⟨upd σ.fr t (.sl (bl.map frzB)), fun _ => none, σ.nx⟩) : AW P E c Q σ := by
  have hrow : lowHp md base bl cur base = some (.row 4 (blksAV (base + 1) bl)) := by
    unfold lowHp
    rw [if_neg (by omega), if_neg (by omega), if_pos rfl]
  refine AW.frz (σ' := ⟨σ.fr, fun i => if i = base then some (.row 4 (bl.map frzB)) else none, σ.nx⟩) (fun i => if base < i then lowHp md base bl cur i else none) (fun i o h' => ?_) (fun t' x' h' => ⟨x', h', .inl rfl⟩) (fun i o' h' => ?_) rfl ?_
  · split at h'
    · exact hl _ _ h'
    · cases h'
  · simp only at h'
    split at h'
    · rename_i e
      subst e
      cases h'
      refine ⟨if_neg (Nat.lt_irrefl _), _, hl _ _ hrow, rfl, by simp [blksAV_len], fun k hk => ?_⟩
      rw [blksAV_len] at hk
      have e1 : (blksAV (i + 1) bl).getD k default = blkAV (i + 1 + k) bl[k] := by
        rw [List.getD_eq_getElem?_getD, blksAV_get?]; simp [hk]
      have e2 : (bl.map frzB).getD k default = frzB bl[k] := by
        rw [List.getD_eq_getElem?_getD]; simp [hk]
      rw [e1, e2]
      generalize hbk : bl[k] = b
      have hbm : b ∈ bl := hbk ▸ List.getElem_mem hk
      have hk? : bl[k]? = some b := by rw [← hbk]; simp [hk]
      exact .inr (blk_snap (by omega) hb2 hk? (hb b hbm))
    · cases h'
  · refine AW.frz (σ' := ⟨upd σ.fr t (.sl (bl.map frzB)), fun _ => none, σ.nx⟩) (fun i => if i = base then some (.row 4 (bl.map frzB)) else none) (fun i o h' => h') (fun t' x' h' => ?_) (fun i o' h' => by cases h') rfl h
    simp only [upd] at h'
    split at h'
    · rename_i e
      subst e
      cases h'
      refine ⟨_, hx, .inr ⟨?_, ?_⟩⟩
      · rw [AV.snapOk]
        simp only [if_true]
        intro x hx' y hy
        obtain ⟨b, _, rfl⟩ := List.mem_map.1 hx'
        simp only [frzB, AV.cells, List.mem_cons, List.not_mem_nil, or_false] at hy
        rcases hy with rfl | rfl | rfl | rfl <;> rfl
      · rw [AV.snap]; simp
    · exact ⟨x', h', .inl rfl⟩
end Go.Low

/- Chapter 10: check. -/
set_option linter.unusedSimpArgs false
set_option linter.unusedVariables false
set_option maxHeartbeats 4000000
set_option maxRecDepth 100000
namespace Go.Proofs.Ytdheeecpkkjfiaa
open Nat (reduceAdd reduceMul reduceEqDiff reduceLT reduceLeDiff reduceSub reduceDiv)
open Int (reduceBNe reduceLE reduceEq)
open Go.Am Go.Proofs Go.Low
attribute [local irreducible] AW CallP CallB

abbrev failAV (e : Int) : AV := .iface 66 (.agg [.i e])

theorem check_call (b : Bool) (e : Int) : A0 Try.prog 30 [.bool b, .i e] (fun r => b = true ∧ r = .tup []) (fun x => b = false ∧ x = failAV e) := by
  refine A0.intro Try.func30 rfl isf30 (by simp [Try.f30]) fun E Q hE hN hQ hQp => K_start ?_
  repeat' (first | apply w1 | apply w2 | apply w3 | apply w4 | apply w5 | apply w6 | apply w7 | refine Kq_exit_ne (by decide) ?_ | apply w8 | apply w9 | apply w0 | rw [wrap64 (by omega) (by omega)] | ((first | refine hK _ ?_ | refine hKp _ _ ?_); clear hK hKp K Kp; try clear hanc anc) | ((with_reducible refine And.intro ?_ ?_); (focus (first | trivial | omega | (simp only [Fits]; omega) | assumption | (rw [hanc]; rfl)))) | ((first | refine K_regA hE fun K Kp hK hKp => ?_ | refine K_drwA true mixed hE fun K Kp hK hKp anc hanc => ?_ | refine K_drwA false mixed hE fun K Kp hK hKp anc hanc => ?_); simp only [go_sem, ↓reduceIte, reduceCtorEq, reduceAdd, reduceMul, reduceEqDiff, reduceLT, reduceLeDiff, reduceSub, reduceDiv, Nat.reduceBEq, Int.reduceBEq, reduceBNe, Int.reduceLT, reduceLE, reduceEq]) | ((first | refine onG_split_t (fun hg => ?_) (fun hg => ?_) | refine onG_split_f (fun hg => ?_) (fun hg => ?_)) <;> simp only [go_sem, ↓reduceIte, reduceCtorEq, reduceAdd, reduceMul, reduceEqDiff, reduceLT, reduceLeDiff, reduceSub, reduceDiv, Nat.reduceBEq, Int.reduceBEq, reduceBNe, Int.reduceLT, reduceLE, reduceEq, hg]) | (refine K_condA (fun hc => ?_) (fun hc => ?_) <;> try (exact absurd hc (by decide))))
  · exact hQp _ _ ⟨by simpa using hc, rfl⟩ rfl
  · refine Kq_norm_nil ?_
    exact (hQ _ ⟨.tup [], rfl, ⟨by simpa using hc, rfl⟩, rfl⟩).2
end Go.Proofs.Ytdheeecpkkjfiaa


/- Chapter 10: the memory of a lowering whose blocks have no instructions. -/
set_option linter.unusedVariables false
set_option linter.unusedSimpArgs false
namespace Go.Low
open Go Go.Am
variable {P : Program} {E : En} {σ : St} {Q : AEx → St → Prop}

theorem blks_clo : ∀ (bl : List Blk) (c : Nat), (∀ b, b ∈ bl → b.code = []) → AV.cloL (blksAV c bl) = true
  | [], _, _ => rfl
  | b :: l, c, h => by
    have hb : cAV c b = .nilsl := if_pos (h b (by simp))
    simp only [blksAV, blkAV, hb, AV.cloL, AV.clo, tgAV_clo, Bool.and_true, Bool.true_and]
    exact blks_clo l (c + 1) fun b hb => h b (List.mem_cons_of_mem _ hb)
theorem blks_any : ∀ (bl : List Blk) (c c' : Nat), (∀ b, b ∈ bl → b.code = []) → blksAV c bl = blksAV c' bl
  | [], _, _, _ => rfl
  | b :: l, c, c', h => by
    have hb : ∀ c, cAV c b = .nilsl := fun c => if_pos (h b (by simp))
    simp only [blksAV, blkAV, hb, blks_any l (c + 1) (c' + 1) fun b hb => h b (List.mem_cons_of_mem _ hb)]

theorem low_nocode {md : Hs} {o : Nat} {bl : List Blk} {cur : Int} {id : Nat} {ob : AObj} (ho : 2 ≤ o) (hbl : ∀ b, b ∈ bl → b.code = []) (h : lowHp md o bl cur id = some ob) :
    (id = 0 ∧ ob = .cells (md.cs cur o)) ∨ (id = 1 ∧ md.o1 = some ob) ∨ (id = o ∧ ob = .row 4 (blksAV 0 bl)) := by
  rcases lowHp_cases ho h with h | h | ⟨h1, h2⟩ | ⟨k, b, _, _, h1, h2, _⟩
  · exact .inl h
  · exact .inr (.inl h)
  · exact .inr (.inr ⟨h1, by rw [h2, blks_any bl (o + 1) 0 hbl]⟩)
  · exact absurd (hbl b (List.mem_of_getElem? h1)) h2

theorem ent_low0 {md : Hs} {bl : List Blk} {cur : Int} {m : Nat → Nat} {o n : Nat} (ho : 2 ≤ o) (hm : OkM md) (hbl : ∀ b, b ∈ bl → b.code = []) (hn : o < n)
    (h0 : σ.hp (m 0) = some (.cells (AV.renL m (md.cs cur o)))) (h1 : ∀ ob, md.o1 = some ob → σ.hp (m 1) = some ob) (h2 : σ.hp (m o) = some (.row 4 (blksAV 0 bl))) (d1 : m 0 ≠ m 1) (d2 : m 0 ≠ m o) (d3 : m 1 ≠ m o) :
    (∀ id ob, lowHp md o bl cur id = some ob → σ.hp (m id) = some (ob.ren m) ∧ id < n ∧ ob.ids (· < n)) ∧ (∀ id id' ob ob', lowHp md o bl cur id = some ob → lowHp md o bl cur id' = some ob' → m id = m id' → id = id') := by
  refine ⟨fun id ob h => ?_, fun id id' ob ob' h h' e => ?_⟩
  · rcases low_nocode ho hbl h with ⟨rfl, rfl⟩ | ⟨rfl, e⟩ | ⟨rfl, rfl⟩
    · exact ⟨h0, by omega, hm.ids _ _ _ hn (show 1 < n by omega)⟩
    · exact ⟨by rw [(hm.ob _ e).2.1]; exact h1 _ e, by omega, (hm.ob _ e).2.2 _⟩
    · exact ⟨by rw [h2]; simp only [AObj.ren, cloL_renL (blks_clo bl 0 hbl)], hn, cloL_idsL (blks_clo bl 0 hbl)⟩
  · rcases low_nocode ho hbl h with ⟨rfl, _⟩ | ⟨rfl, _⟩ | ⟨rfl, _⟩ <;> rcases low_nocode ho hbl h' with ⟨rfl, _⟩ | ⟨rfl, _⟩ | ⟨rfl, _⟩ <;>
      first | rfl | exact absurd e d1 | exact absurd e d2 | exact absurd e d3 | exact absurd e.symm d1 | exact absurd e.symm d2 | exact absurd e.symm d3

theorem ent_out0 {md : Hs} {bl : List Blk} {cur : Int} {m : Nat → Nat} {o n : Nat} (ho : 2 ≤ o) (hm : OkM md) (hbl : ∀ b, b ∈ bl → b.code = []) (hn : o < n) (d1 : m 0 ≠ m 1) (d2 : m 0 ≠ m o) (d3 : m 1 ≠ m o)
    (h0 : σ.hp (m 0) = some (.cells (AV.renL m (md.cs cur o)))) (h1 : ∀ ob, md.o1 = some ob → σ.hp (m 1) = some ob) (h2 : σ.hp (m o) = some (.row 4 (blksAV 0 bl))) : Ent 0 m σ ⟨fun _ => none, lowHp md o bl cur, n⟩ := by
  obtain ⟨k1, k2⟩ := ent_low0 ho hm hbl hn h0 h1 h2 d1 d2 d3
  exact ⟨fun t x hx => (by cases hx), k1, k2, fun id hid => absurd hid (Nat.not_lt_zero _)⟩

theorem ent_top {fr : List (Nat × AV)} {loc : List (Nat × AObj)} {md : Hs} {bl : List Blk} {cur : Int} (X Y base : Nat) (q : Nat → Nat) (hm : OkM md) (hbl : ∀ b, b ∈ bl → b.code = []) (hXY : X ≠ Y) (hXb : X ≠ base) (hYb : Y ≠ base)
    (h0 : σ.hp X = some (.cells (AV.renL (topM X Y base q) (md.cs cur 10)))) (h1 : ∀ ob, md.o1 = some ob → σ.hp Y = some ob) (h2 : σ.hp base = some (.row 4 (blksAV 0 bl)))
    (hfr : ∀ p, p ∈ fr → σ.fr p.1 = some (p.2.ren (topM X Y base q)) ∧ p.2.ids (· < 1000000))
    (hlc : ∀ p, p ∈ loc → 2 ≤ p.1 ∧ p.1 < 10 ∧ σ.hp (q p.1) = some (p.2.ren (topM X Y base q)) ∧ p.2.ids (· < 1000000) ∧ q p.1 ≠ X ∧ q p.1 ≠ Y ∧ q p.1 ≠ base) (hpw : ∀ p p', p ∈ loc → p' ∈ loc → q p.1 = q p'.1 → p.1 = p'.1) :
    Ent 0 (topM X Y base q) σ ⟨mkFr fr, hpOn loc (lowHp md 10 bl cur), 1000000⟩ := by
  have mq : ∀ i, 2 ≤ i → i < 10 → topM X Y base q i = q i := by
    intro i g1 g2
    unfold topM
    rw [if_neg (by omega), if_neg (by omega), if_pos g2]
  obtain ⟨k1, k2⟩ := ent_low0 (σ := σ) (md := md) (bl := bl) (cur := cur) (m := topM X Y base q) (o := 10) (n := 1000000) (by omega) hm hbl (by omega) h0 h1 h2 hXY hXb hYb
  have mix : ∀ {i o j ob}, (i, o) ∈ loc → lowHp md 10 bl cur j = some ob → topM X Y base q i = topM X Y base q j → False := by
    intro i o j ob hi hj e
    obtain ⟨g1, g2, g3, g4, g5, g6, g7⟩ := hlc _ hi
    simp only at g1 g2 g3 g4 g5 g6 g7
    rw [mq _ g1 g2] at e
    rcases low_nocode (by omega) hbl hj with ⟨rfl, _⟩ | ⟨rfl, _⟩ | ⟨rfl, _⟩
    · exact g5 e
    · exact g6 e
    · exact g7 e
  refine ⟨fun t x hx => hfr _ (mkFr_mem hx), fun id o ho => ?_, fun id id' o o' ho ho' he => ?_, fun id hid => absurd hid (Nat.not_lt_zero _)⟩
  · rcases hpOn_mem ho with ho | ho
    · obtain ⟨g1, g2, g3, g4, _⟩ := hlc _ ho
      simp only at g1 g2 g3 g4
      rw [mq _ g1 g2]
      exact ⟨g3, by show id < 1000000; omega, g4⟩
    · exact k1 _ _ ho
  · rcases hpOn_mem ho with ho | ho <;> rcases hpOn_mem ho' with ho' | ho'
    · have a1 := hlc _ ho
      have a2 := hlc _ ho'
      simp only at a1 a2
      rw [mq _ a1.1 a1.2.1, mq _ a2.1 a2.2.1] at he
      exact hpw _ _ ho ho' he
    · exact (mix ho ho' he).elim
    · exact (mix ho' ho he.symm).elim
    · exact k2 _ _ _ _ ho ho' he
end Go.Low

/- Chapter 10: of. -/
set_option linter.unusedSimpArgs false
set_option linter.unusedVariables false
set_option maxHeartbeats 4000000
set_option maxRecDepth 100000
namespace Go.Proofs.Ytdheeecpkkjfiaa
open Nat (reduceAdd reduceMul reduceEqDiff reduceLT reduceLeDiff reduceSub reduceDiv)
open Int (reduceBNe reduceLE reduceEq)
open Go.Am Go.Proofs Go.Low
attribute [local irreducible] AW CallP CallB

theorem of_call : ACall Try.prog 28 [] (fun _ => none) 0 0 (fun r hp' => r = .ptr 0 0 ∧ hp' = lowHp (hsL mdL) 2 [Blk.nil] 0) (fun _ _ => False) := by
  refine ACall.of_body' Try.func28 isf28 rfl (by simp [Try.f28]) fun E Q hE hN hQ hQp => K_start ?_
  repeat' (first | apply w1 | apply w2 | apply w3 | apply w4 | apply w5 | apply w6 | apply w7 | refine Kq_exit_ne (by decide) ?_ | apply w8 | apply w9 | apply w0 | rw [wrap64 (by omega) (by omega)] | ((first | refine hK _ ?_ | refine hKp _ _ ?_); clear hK hKp K Kp; try clear hanc anc) | ((with_reducible refine And.intro ?_ ?_); (focus (first | trivial | omega | (simp only [Fits]; omega) | assumption | (rw [hanc]; rfl)))) | ((first | refine K_regA hE fun K Kp hK hKp => ?_ | refine K_drwA true mixed hE fun K Kp hK hKp anc hanc => ?_ | refine K_drwA false mixed hE fun K Kp hK hKp anc hanc => ?_); simp only [go_sem, ↓reduceIte, reduceCtorEq, reduceAdd, reduceMul, reduceEqDiff, reduceLT, reduceLeDiff, reduceSub, reduceDiv, Nat.reduceBEq, Int.reduceBEq, reduceBNe, Int.reduceLT, reduceLE, reduceEq]) | ((first | refine onG_split_t (fun hg => ?_) (fun hg => ?_) | refine onG_split_f (fun hg => ?_) (fun hg => ?_)) <;> simp only [go_sem, ↓reduceIte, reduceCtorEq, reduceAdd, reduceMul, reduceEqDiff, reduceLT, reduceLeDiff, reduceSub, reduceDiv, Nat.reduceBEq, Int.reduceBEq, reduceBNe, Int.reduceLT, reduceLE, reduceEq, hg]) | (refine K_condA (fun hc => ?_) (fun hc => ?_) <;> try (exact absurd hc (by decide))))
  refine K_ret ?_
  refine (hQ _ ⟨.ptr 0 0, fun i => if i = 0 then 11534336 else if i = 1 then 2097152 else 1048576, _, 3, resA_tmp (by simp only [go_sem, ↓reduceIte, reduceCtorEq, reduceAdd, reduceMul, reduceEqDiff, reduceLT, reduceLeDiff, reduceSub, reduceDiv, Nat.reduceBEq, Int.reduceBEq, reduceBNe, Int.reduceLT, reduceLE, reduceEq]), (show 0 < 3 by decide), ?_, rfl, rfl⟩).1
  refine ent_out0 (Nat.le_refl 2) mdL_ok (by simp) (by omega) (by decide) (by decide) (by decide) (by simp only [go_sem, ↓reduceIte, reduceCtorEq, reduceAdd, reduceMul, reduceEqDiff, reduceLT, reduceLeDiff, reduceSub, reduceDiv, Nat.reduceBEq, Int.reduceBEq, reduceBNe, Int.reduceLT, reduceLE, reduceEq]) (fun ob h => ?_) (by simp only [go_sem, ↓reduceIte, reduceCtorEq, reduceAdd, reduceMul, reduceEqDiff, reduceLT, reduceLeDiff, reduceSub, reduceDiv, Nat.reduceBEq, Int.reduceBEq, reduceBNe, Int.reduceLT, reduceLE, reduceEq]; rfl)
  cases h
  simp only [go_sem, ↓reduceIte, reduceCtorEq, reduceAdd, reduceMul, reduceEqDiff, reduceLT, reduceLeDiff, reduceSub, reduceDiv, Nat.reduceBEq, Int.reduceBEq, reduceBNe, Int.reduceLT, reduceLE, reduceEq]
  rfl
end Go.Proofs.Ytdheeecpkkjfiaa

