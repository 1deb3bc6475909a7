/- A part of the proof: an abstract machine for the walks, and what the walked functions compute. -/
import Derived.Test.YtdheeecpkkjfiaaCu
import Derived.Test.YtdheeecpkkjfiaaMf
import Derived.Test.YtdheeecpkkjfiaaCm
set_option linter.unusedVariables false
set_option linter.unusedSimpArgs false
/- Chapter 10: memory and contracts of the methods of *run. -/
set_option linter.unusedVariables false
set_option linter.unusedSimpArgs false
namespace Go.Proofs.Ytdheeecpkkjfiaa
open Go Go.Am Go.Proofs Go.Low

def _root_.Go.Low.Ev.av : Ev → AV
  | .ins x => .agg [.i x.op, .i x.dst, .i x.a, .i x.b, .i x.n, .sl (x.args.map AV.i), .sl (Ty.avL x.types), .i 0, .i 0]
  | .mark k a => .agg [.i 0, .i 0, .i 0, .i 0, .i 0, .nilsl, .nilsl, .i k, .i a]
def chs (l : List Nat) : List AV := l.map fun (n : Nat) => AV.int .u8 (n : Int)
def evs (l : List Ev) : List AV := l.map Ev.av
theorem chs_clo (l : List Nat) : AV.cloL (chs l) = true := cloL_eq _ (fun x hx => by obtain ⟨n, _, rfl⟩ := List.mem_map.1 hx; rfl)
theorem ev_clo (e : Ev) : e.av.clo = true := by cases e <;> rfl
theorem evs_clo (l : List Ev) : AV.cloL (evs l) = true := cloL_eq _ (fun x hx => by obtain ⟨n, _, rfl⟩ := List.mem_map.1 hx; exact ev_clo n)
@[go_sem] theorem chs_ren (m : Nat → Nat) (l : List Nat) : AV.renL m (chs l) = chs l := cloL_renL (chs_clo l)
@[go_sem] theorem chs_ids (p : Nat → Prop) (l : List Nat) : AV.idsL p (chs l) = True := eq_true (cloL_idsL (chs_clo l))
@[go_sem] theorem chs_len (l : List Nat) : (chs l).length = l.length := List.length_map ..
@[go_sem] theorem evs_ren (m : Nat → Nat) (l : List Ev) : AV.renL m (evs l) = evs l := cloL_renL (evs_clo l)
@[go_sem] theorem evs_ids (p : Nat → Prop) (l : List Ev) : AV.idsL p (evs l) = True := eq_true (cloL_idsL (evs_clo l))
@[go_sem] theorem evs_len (l : List Ev) : (evs l).length = l.length := List.length_map ..
@[go_sem] theorem evs_get (l : List Ev) (i : Nat) : (evs l)[i]? = (l[i]?).map Ev.av := List.getElem?_map ..

def rcs (s : RS) (e : Nat) : List AV := [.sl (chs s.ch), .i s.at_, .rw e, .bool s.ov]
def runHp (s : RS) : Nat → Option AObj := mkHp [(0, .cells (rcs s 1)), (1, .row 9 (evs s.ev))]
theorem runHp0 (s : RS) : runHp s 0 = some (.cells (rcs s 1)) := rfl
theorem runHp1 (s : RS) : runHp s 1 = some (.row 9 (evs s.ev)) := rfl
theorem runHp_cases {s : RS} {id : Nat} {ob : AObj} (h : runHp s id = some ob) : (id = 0 ∧ ob = .cells (rcs s 1)) ∨ (id = 1 ∧ ob = .row 9 (evs s.ev)) := by
  by_cases h0 : id = 0
  · subst h0; rw [runHp0] at h; cases h; exact .inl ⟨rfl, rfl⟩
  by_cases h1 : id = 1
  · subst h1; rw [runHp1] at h; cases h; exact .inr ⟨rfl, rfl⟩
  · exfalso
    simp only [runHp, mkHp, updo, if_neg h0, if_neg h1] at h
    cases h
theorem rcs_ren (m : Nat → Nat) (s : RS) (e : Nat) : AV.renL m (rcs s e) = rcs s (m e) := by simp only [rcs, AV.renL, AV.ren, chs_ren]
theorem rcs_ids (p : Nat → Prop) (s : RS) (e : Nat) (h : p e) : AV.idsL p (rcs s e) := by
  simp only [rcs, AV.idsL, AV.ids, chs_ids, and_true, true_and]; exact h
theorem runHp_lt {s : RS} {id : Nat} {ob : AObj} (h : runHp s id = some ob) (n : Nat) (hn : 2 ≤ n) : id < n ∧ ob.ids (· < n) := by
  rcases runHp_cases h with ⟨rfl, rfl⟩ | ⟨rfl, rfl⟩
  · exact ⟨by omega, rcs_ids _ _ _ (by show 1 < n; omega)⟩
  · exact ⟨by omega, idsL_clo _ _ (evs_clo _)⟩

/-- The contract of a method of a run. -/
def RCall (f : FuncId) (vs : List AV) (s : RS) (F : AV → RS → Prop) : Prop :=
  ACall Try.prog f (.ptr 0 0 :: vs) (runHp s) 2 1 (fun r hp' => ∃ s', F r s' ∧ r.clo = true ∧ hp' = runHp s') (fun _ _ => False)

variable {E : En} {Q : AEx → St → Prop} {σ : St}

theorem RCall.use' {f : FuncId} {vs : List AV} {s : RS} {F : AV → RS → Prop} (hA : RCall f vs s F) (hvs : AV.cloL vs = true) {A e : Nat} (hAe : A ≠ e) (h0 : σ.hp A = some (.cells (rcs s e))) (h1 : σ.hp e = some (.row 9 (evs s.ev)))
    {k : Nat} {d : Option Nat} {K : St → Prop} {Kp : AV → St → Prop}
    (hK : ∀ r s' σ' e', e' = σ.nx + 1048576 * k → F r s' → r.clo = true → σ'.nx = σ.nx → σ'.fr = (σ.put d r).fr → σ'.hp A = some (.cells (rcs s' e')) → σ'.hp e' = some (.row 9 (evs s'.ev)) → (∀ id ob, σ.hp id = some ob → id ≠ A → id ≠ e → σ'.hp id = some ob) → K σ') :
    CallB Try.prog f (.ptr A 0 :: vs) σ k d K Kp := by
  refine CallB.of_A hA (fun j => if j = 0 then A else e) ?_ ?_ ?_ ?_ ?_ ?_ ?_ ?_ ?_
  · simp only [AV.renL, AV.ren, renL_clo _ _ hvs]; rfl
  · exact ⟨show 0 < 2 by omega, idsL_clo _ _ hvs⟩
  · intro id ob hid
    refine ⟨?_, runHp_lt hid 2 (Nat.le_refl 2)⟩
    rcases runHp_cases hid with ⟨rfl, rfl⟩ | ⟨rfl, rfl⟩
    · simp only [AObj.ren, rcs_ren]
      exact h0
    · simp only [AObj.ren, evs_ren]
      exact h1
  · intro id id' o1 o2 ho1 ho2 he
    rcases runHp_cases ho1 with ⟨rfl, _⟩ | ⟨rfl, _⟩ <;> rcases runHp_cases ho2 with ⟨rfl, _⟩ | ⟨rfl, _⟩
    · rfl
    · exact absurd he hAe
    · exact absurd he.symm hAe
    · rfl
  · intro id hid
    obtain rfl : id = 0 := by omega
    exact ⟨by omega, by rw [runHp0]; simp⟩
  · rintro r hp' ⟨s', h2, h3, rfl⟩
    exact ⟨ids_clo _ _ h3, fun id ob hid => runHp_lt hid _ (by omega)⟩
  · rintro r hp' h
    exact h.elim
  · rintro r hp' σ' ⟨s', h2, h3, rfl⟩ hB
    have b0 := hB.obj 0 _ (runHp0 s')
    have b1 := hB.obj 1 _ (runHp1 s')
    simp only [AObj.ren, rcs_ren, evs_ren] at b0 b1
    refine hK r s' σ' (σ.nx + 1048576 * k) rfl h2 h3 hB.nx (by rw [hB.fr]; simp only [ren_clo _ r h3]) ?_ ?_ ?_
    · exact b0
    · exact b1
    · intro id ob hid hi1 hi2
      refine hB.old id ob hid fun j hj e' => ?_
      cases hj' : runHp s j with
      | none => exact hj hj'
      | some o =>
        rcases runHp_cases hj' with ⟨rfl, _⟩ | ⟨rfl, _⟩
        · exact hi1 e'.symm
        · exact hi2 e'.symm
  · rintro r hp' σ' h
    exact h.elim

theorem RCall.use {f : FuncId} {vs : List AV} {s : RS} {F : AV → RS → Prop} (hA : RCall f vs s F) (hvs : AV.cloL vs = true) {A e : Nat} (hAe : A ≠ e) (h0 : σ.hp A = some (.cells (rcs s e))) (h1 : σ.hp e = some (.row 9 (evs s.ev)))
    {k : Nat} {d : Option Nat} {K : St → Prop} {Kp : AV → St → Prop}
    (hK : ∀ r s' σ' e', σ.nx ≤ e' → F r s' → r.clo = true → σ'.nx = σ.nx → σ'.fr = (σ.put d r).fr → σ'.hp A = some (.cells (rcs s' e')) → σ'.hp e' = some (.row 9 (evs s'.ev)) → (∀ id ob, σ.hp id = some ob → id ≠ A → id ≠ e → σ'.hp id = some ob) → K σ') :
    CallB Try.prog f (.ptr A 0 :: vs) σ k d K Kp :=
  RCall.use' hA hvs hAe h0 h1 fun r s' σ' e' he => hK r s' σ' e' (by omega)

/-- The contract of a method, out of its body. -/
theorem RCall.intro {f : FuncId} {fn : Func} {c : Code} {vs : List AV} {s : RS} {F : AV → RS → Prop} (hf : Try.prog.funcs[f]? = some fn) (hb : fn.body = some c) (hfn : isFn Try.prog f = true) (hn : vs.length + 1 ≤ fn.ntmps)
    (h : ∀ (E : En) (Q : AEx → St → Prop), E.nt = fn.ntmps → E.np = 1 → (∀ σ r s' e, resA Try.prog fn.results.toList σ = some r → F r s' → r.clo = true → e ≠ 0 → σ.hp 0 = some (.cells (rcs s' e)) → σ.hp e = some (.row 9 (evs s'.ev)) → Q .ret σ ∧ Q .norm σ) → AW Try.prog E c Q ⟨mkPar 0 (.ptr 0 0 :: vs), runHp s, 2⟩) : RCall f vs s F := by
  refine ACall.of_body' hf hfn hb (by simpa using hn) fun E Q hE hN hQ _ => h E Q hE hN ?_
  intro σ r s' e h1 h2 h3 h4 h5 h6
  refine hQ σ ⟨r, fun j => if j = 0 then 0 else e, _, 2, by rw [ren_clo _ r h3]; exact h1, ids_clo _ _ h3, ?_, s', h2, h3, rfl⟩
  refine ⟨fun t x hx => (by cases hx), fun id o ho => ?_, fun id id' o o' ho ho' he => ?_, fun id hid => ⟨?_, ?_⟩⟩
  · refine ⟨?_, runHp_lt ho 2 (Nat.le_refl 2)⟩
    rcases runHp_cases ho with ⟨rfl, rfl⟩ | ⟨rfl, rfl⟩
    · simp only [AObj.ren, rcs_ren]
      exact h5
    · simp only [AObj.ren, evs_ren]
      exact h6
  · rcases runHp_cases ho with ⟨rfl, _⟩ | ⟨rfl, _⟩ <;> rcases runHp_cases ho' with ⟨rfl, _⟩ | ⟨rfl, _⟩
    · rfl
    · exact absurd he.symm h4
    · exact absurd he h4
    · rfl
  · obtain rfl : id = 0 := by omega
    rfl
  · show id < 2
    omega
theorem _root_.Go.Am.AW.entR {P : Program} {c : Code} {σ' : St} (e : Nat) {ob : AObj} (hp1 : σ.hp e = some ob) (he : Ent E.np (fun i => if i = 1 then e else i) σ σ') (h : AW P E c Q σ') : AW P E c Q σ := AW.ent _ he h
end Go.Proofs.Ytdheeecpkkjfiaa

/- Chapter 10: note and choose. -/
set_option linter.unusedSimpArgs false
set_option linter.unusedVariables false
set_option maxHeartbeats 4000000
set_option maxRecDepth 100000
namespace Go.Proofs.Ytdheeecpkkjfiaa
open Nat (reduceAdd reduceMul reduceEqDiff reduceLT reduceLeDiff reduceSub reduceDiv)
open Int (reduceBNe reduceLE reduceEq)
open Go.Am Go.Proofs Go.Low
attribute [local irreducible] AW CallP CallB

@[go_sem] theorem evs_foldi (l : List Ev) (x : Ins) : evs l ++ [.agg [.i x.op, .i x.dst, .i x.a, .i x.b, .i x.n, .sl (x.args.map AV.i), .sl (Ty.avL x.types), .i 0, .i 0]] = evs (l ++ [.ins x]) := by simp [evs, Ev.av]
@[go_sem] theorem evs_foldm (l : List Ev) (k a : Int) : evs l ++ [.agg [.i 0, .i 0, .i 0, .i 0, .i 0, .nilsl, .nilsl, .i k, .i a]] = evs (l ++ [.mark k a]) := by simp [evs, Ev.av]
theorem szok_evs (l : List Ev) : SzOk (evs l) 9 := by
  intro x hx
  obtain ⟨p, _, rfl⟩ := List.mem_map.1 hx
  cases p <;> rfl

theorem note_rc (e : Ev) (s : RS) (hl : s.ev.length ≤ 1000) : RCall 37 [e.av] s (fun r s' => s' = s.note e) := by
  refine RCall.intro Try.func37 rfl isf37 (by simp [Try.f37]) fun E Q hE hN hQ => K_start ?_
  unfold runHp rcs
  cases e
  · repeat' (first | apply w1 | apply w2 | apply w3 | apply w4 | apply w5 | apply w6 | apply w7 | refine Kq_exit_ne (by decide) ?_ | apply w8 | apply w9 | apply w0 | rw [wrap64 (by omega) (by omega)] | ((first | refine hK _ ?_ | refine hKp _ _ ?_); clear hK hKp K Kp; try clear hanc anc) | ((with_reducible refine And.intro ?_ ?_); (focus (first | trivial | omega | (simp only [Fits]; omega) | assumption | (rw [hanc]; rfl)))) | ((first | refine K_regA hE fun K Kp hK hKp => ?_ | refine K_drwA true mixed hE fun K Kp hK hKp anc hanc => ?_ | refine K_drwA false mixed hE fun K Kp hK hKp anc hanc => ?_); simp only [go_sem, ↓reduceIte, reduceCtorEq, reduceAdd, reduceMul, reduceEqDiff, reduceLT, reduceLeDiff, reduceSub, reduceDiv, Nat.reduceBEq, Int.reduceBEq, reduceBNe, Int.reduceLT, reduceLE, reduceEq, Ev.av]) | ((first | refine onG_split_t (fun hg => ?_) (fun hg => ?_) | refine onG_split_f (fun hg => ?_) (fun hg => ?_)) <;> simp only [go_sem, ↓reduceIte, reduceCtorEq, reduceAdd, reduceMul, reduceEqDiff, reduceLT, reduceLeDiff, reduceSub, reduceDiv, Nat.reduceBEq, Int.reduceBEq, reduceBNe, Int.reduceLT, reduceLE, reduceEq, Ev.av, hg]) | (refine K_condA (fun hc => ?_) (fun hc => ?_) <;> try (exact absurd hc (by decide))))
    all_goals
      rw [Kq_nil]
      refine (hQ _ (.tup []) (s.note _) 8388610 (by simp only [go_sem, ↓reduceIte, reduceCtorEq, reduceAdd, reduceMul, reduceEqDiff, reduceLT, reduceLeDiff, reduceSub, reduceDiv, Nat.reduceBEq, Int.reduceBEq, reduceBNe, Int.reduceLT, reduceLE, reduceEq]; rfl) rfl rfl (by decide) ?_ ?_).2
      · simp [go_sem, rcs, RS.note, hg]
        try omega
      · simp [go_sem, RS.note]
  · repeat' (first | apply w1 | apply w2 | apply w3 | apply w4 | apply w5 | apply w6 | apply w7 | refine Kq_exit_ne (by decide) ?_ | apply w8 | apply w9 | apply w0 | rw [wrap64 (by omega) (by omega)] | ((first | refine hK _ ?_ | refine hKp _ _ ?_); clear hK hKp K Kp; try clear hanc anc) | ((with_reducible refine And.intro ?_ ?_); (focus (first | trivial | omega | (simp only [Fits]; omega) | assumption | (rw [hanc]; rfl)))) | ((first | refine K_regA hE fun K Kp hK hKp => ?_ | refine K_drwA true mixed hE fun K Kp hK hKp anc hanc => ?_ | refine K_drwA false mixed hE fun K Kp hK hKp anc hanc => ?_); simp only [go_sem, ↓reduceIte, reduceCtorEq, reduceAdd, reduceMul, reduceEqDiff, reduceLT, reduceLeDiff, reduceSub, reduceDiv, Nat.reduceBEq, Int.reduceBEq, reduceBNe, Int.reduceLT, reduceLE, reduceEq, Ev.av]) | ((first | refine onG_split_t (fun hg => ?_) (fun hg => ?_) | refine onG_split_f (fun hg => ?_) (fun hg => ?_)) <;> simp only [go_sem, ↓reduceIte, reduceCtorEq, reduceAdd, reduceMul, reduceEqDiff, reduceLT, reduceLeDiff, reduceSub, reduceDiv, Nat.reduceBEq, Int.reduceBEq, reduceBNe, Int.reduceLT, reduceLE, reduceEq, Ev.av, hg]) | (refine K_condA (fun hc => ?_) (fun hc => ?_) <;> try (exact absurd hc (by decide))))
    all_goals
      rw [Kq_nil]
      refine (hQ _ (.tup []) (s.note _) 8388610 (by simp only [go_sem, ↓reduceIte, reduceCtorEq, reduceAdd, reduceMul, reduceEqDiff, reduceLT, reduceLeDiff, reduceSub, reduceDiv, Nat.reduceBEq, Int.reduceBEq, reduceBNe, Int.reduceLT, reduceLE, reduceEq]; rfl) rfl rfl (by decide) ?_ ?_).2
      · simp [go_sem, rcs, RS.note, hg]
        try omega
      · simp [go_sem, RS.note]

@[go_sem] theorem chs_get (l : List Nat) (i : Nat) : (chs l)[i]? = (l[i]?).map fun (n : Nat) => AV.int .u8 (n : Int) := List.getElem?_map ..

theorem choose_rc (n : Nat) (s : RS) (hn : 0 < n ∧ n ≤ 2 ^ 30) (ha : s.at_ ≤ 1000000) (hc : ∀ c, c ∈ s.ch → c < 256) (hl : s.ch.length ≤ 1000000) : RCall 38 [.i n] s (fun r s' => r = .i (s.pick n) ∧ s' = s.next) := by
  refine RCall.intro Try.func38 rfl isf38 (by simp [Try.f38]) fun E Q hE hN hQ => K_start ?_
  unfold runHp rcs
  by_cases h0 : s.ch = []
  · have q0 : ((s.ch.length : Int) == 0) = true := by simp [h0]
    repeat' (first | apply w1 | apply w2 | apply w3 | apply w4 | apply w5 | apply w6 | apply w7 | refine Kq_exit_ne (by decide) ?_ | apply w8 | apply w9 | apply w0 | rw [wrap64 (by omega) (by omega)] | ((first | refine hK _ ?_ | refine hKp _ _ ?_); clear hK hKp K Kp; try clear hanc anc) | ((with_reducible refine And.intro ?_ ?_); (focus (first | trivial | omega | (simp only [Fits]; omega) | assumption | (rw [hanc]; rfl)))) | ((first | refine K_regA hE fun K Kp hK hKp => ?_ | refine K_drwA true mixed hE fun K Kp hK hKp anc hanc => ?_ | refine K_drwA false mixed hE fun K Kp hK hKp anc hanc => ?_); simp only [go_sem, ↓reduceIte, reduceCtorEq, reduceAdd, reduceMul, reduceEqDiff, reduceLT, reduceLeDiff, reduceSub, reduceDiv, Nat.reduceBEq, Int.reduceBEq, reduceBNe, Int.reduceLT, reduceLE, reduceEq, q0]) | ((first | refine onG_split_t (fun hg => ?_) (fun hg => ?_) | refine onG_split_f (fun hg => ?_) (fun hg => ?_)) <;> simp only [go_sem, ↓reduceIte, reduceCtorEq, reduceAdd, reduceMul, reduceEqDiff, reduceLT, reduceLeDiff, reduceSub, reduceDiv, Nat.reduceBEq, Int.reduceBEq, reduceBNe, Int.reduceLT, reduceLE, reduceEq, q0, hg]) | (refine K_condA (fun hc => ?_) (fun hc => ?_) <;> try (exact absurd hc (by decide))))
    refine K_ret (hQ _ (.i 0) s 1 (by simp only [go_sem, ↓reduceIte, reduceCtorEq, reduceAdd, reduceMul, reduceEqDiff, reduceLT, reduceLeDiff, reduceSub, reduceDiv, Nat.reduceBEq, Int.reduceBEq, reduceBNe, Int.reduceLT, reduceLE, reduceEq]; rfl) ⟨by simp [RS.pick, h0], by simp [RS.next, h0]⟩ rfl (by decide) ?_ ?_).1
    · simp [go_sem, rcs]
    · simp [go_sem]
  · have q0 : ((s.ch.length : Int) == 0) = false := by simpa using h0
    have hpos : 0 < s.ch.length := List.length_pos_iff.2 h0
    obtain ⟨c, hcc⟩ := get?_of (Nat.mod_lt s.at_ hpos)
    have q1 : ((s.at_ : Int).tmod (s.ch.length : Int)) = ((s.at_ % s.ch.length : Nat) : Int) := rfl
    have q2 : ((c : Int).tmod (n : Int)) = ((c % n : Nat) : Int) := rfl
    have hc256 := hc c (List.mem_of_getElem? hcc)
    have q3 : IntKind.i64.wrap (c : Int) = (c : Int) := wrap64 (by omega) (by omega)
    have hcl := Nat.mod_lt s.at_ hpos
    have hcn : c % n < n := Nat.mod_lt c hn.1
    repeat' (first | apply w1 | apply w2 | apply w3 | apply w4 | apply w5 | apply w6 | apply w7 | refine Kq_exit_ne (by decide) ?_ | apply w8 | apply w9 | apply w0 | rw [wrap64 (by omega) (by omega)] | ((first | refine hK _ ?_ | refine hKp _ _ ?_); clear hK hKp K Kp; try clear hanc anc) | ((with_reducible refine And.intro ?_ ?_); (focus (first | trivial | omega | (simp only [Fits]; omega) | assumption | (rw [hanc]; rfl)))) | ((first | refine K_regA hE fun K Kp hK hKp => ?_ | refine K_drwA true mixed hE fun K Kp hK hKp anc hanc => ?_ | refine K_drwA false mixed hE fun K Kp hK hKp anc hanc => ?_); simp only [go_sem, ↓reduceIte, reduceCtorEq, reduceAdd, reduceMul, reduceEqDiff, reduceLT, reduceLeDiff, reduceSub, reduceDiv, Nat.reduceBEq, Int.reduceBEq, reduceBNe, Int.reduceLT, reduceLE, reduceEq, q0, q1, hcc, q2, q3]) | ((first | refine onG_split_t (fun hg => ?_) (fun hg => ?_) | refine onG_split_f (fun hg => ?_) (fun hg => ?_)) <;> simp only [go_sem, ↓reduceIte, reduceCtorEq, reduceAdd, reduceMul, reduceEqDiff, reduceLT, reduceLeDiff, reduceSub, reduceDiv, Nat.reduceBEq, Int.reduceBEq, reduceBNe, Int.reduceLT, reduceLE, reduceEq, q0, q1, hcc, q2, q3, hg]) | (refine K_condA (fun hc => ?_) (fun hc => ?_) <;> try (exact absurd hc (by decide))))
    refine K_ret (hQ _ (.i ((c % n : Nat) : Int)) s.next 1 (by simp only [go_sem, ↓reduceIte, reduceCtorEq, reduceAdd, reduceMul, reduceEqDiff, reduceLT, reduceLeDiff, reduceSub, reduceDiv, Nat.reduceBEq, Int.reduceBEq, reduceBNe, Int.reduceLT, reduceLE, reduceEq]; rfl) ⟨?_, rfl⟩ rfl (by decide) ?_ ?_).1
    · have : s.pick n = c % n := by
        unfold RS.pick
        rw [if_neg h0, List.getD_eq_getElem?_getD, hcc]
        rfl
      rw [this]
    · simp [go_sem, rcs, RS.next, h0]
    · simp [go_sem, RS.next, h0]
end Go.Proofs.Ytdheeecpkkjfiaa


/- Chapter 10: list and node of a run. -/
set_option linter.unusedSimpArgs false
set_option linter.unusedVariables false
set_option maxHeartbeats 4000000
set_option maxRecDepth 100000
namespace Go.Proofs.Ytdheeecpkkjfiaa
open Nat (reduceAdd reduceMul reduceEqDiff reduceLT reduceLeDiff reduceSub reduceDiv)
open Int (reduceBNe reduceLE reduceEq)
open Go.Am Go.Proofs Go.Low
attribute [local irreducible] AW CallP CallB

def Okd (d : Int) (s : RS) : Prop := Inv s ∧ (s.ov = false → s.at_ ≤ 2 * s.ev.length) ∧ s.at_ ≤ 2 * s.ev.length + d.toNat ∧ s.ch.length ≤ 1000000 ∧ ∀ c, c ∈ s.ch → c < 256

theorem formedL_mem {x : Nd} {d : Int} : ∀ {l : List Nd}, formedL l d = true → x ∈ l → formedN x d = true
  | y :: l, h, hm => by
    rw [formedL, Bool.and_eq_true] at h
    rcases List.mem_cons.1 hm with e | e
    · subst e; exact h.1
    · exact formedL_mem h.2 e

theorem list_rc (N : Nat) (hNd : ∀ (n : Nd) (d : Int) (s : RS), n.sz ≤ N → d ≤ 60 → formedN n d = true → Okd d s → s.ov = false → RCall 36 [n.av] s (fun _ t => Ex (.n n) s t ∧ Okd d t)) (l : List Nd) (d : Int) (s : RS) (hl : Nd.szL l ≤ N) (hl2 : Nd.szL l ≤ 2 ^ 30) (hd6 : d ≤ 60) (hf : formedL l d = true) (hs : Okd d s) : RCall 14 [.sl (Nd.avL l)] s (fun _ t => Ex (.l l) s t ∧ Okd d t) := by
  have hal := Nd.len_le l
  refine RCall.intro Try.func14 rfl isf14 (by simp [Try.f14]) fun E Q hE hN hQ => K_start ?_
  unfold runHp rcs
  repeat' (first | apply w1 | apply w2 | apply w3 | apply w4 | apply w5 | apply w6 | apply w7 | refine Kq_exit_ne (by decide) ?_ | apply w8 | apply w9 | apply w0 | rw [wrap64 (by omega) (by omega)] | ((first | refine hK _ ?_ | refine hKp _ _ ?_); clear hK hKp K Kp; try clear hanc anc) | ((with_reducible refine And.intro ?_ ?_); (focus (first | trivial | omega | (simp only [Fits]; omega) | assumption | (rw [hanc]; rfl)))) | ((first | refine K_regA hE fun K Kp hK hKp => ?_ | refine K_drwA true mixed hE fun K Kp hK hKp anc hanc => ?_ | refine K_drwA false mixed hE fun K Kp hK hKp anc hanc => ?_); simp only [go_sem, ↓reduceIte, reduceCtorEq, reduceAdd, reduceMul, reduceEqDiff, reduceLT, reduceLeDiff, reduceSub, reduceDiv, Nat.reduceBEq, Int.reduceBEq, reduceBNe, Int.reduceLT, reduceLE, reduceEq]) | ((first | refine onG_split_t (fun hg => ?_) (fun hg => ?_) | refine onG_split_f (fun hg => ?_) (fun hg => ?_)) <;> simp only [go_sem, ↓reduceIte, reduceCtorEq, reduceAdd, reduceMul, reduceEqDiff, reduceLT, reduceLeDiff, reduceSub, reduceDiv, Nat.reduceBEq, Int.reduceBEq, reduceBNe, Int.reduceLT, reduceLE, reduceEq, hg]) | (refine K_condA (fun hc => ?_) (fun hc => ?_) <;> try (exact absurd hc (by decide))))
  refine K_loop (X := Nat × RS) (fun x => x.1 ≤ l.length ∧ Okd d x.2 ∧ ∀ u, Ex (.l (l.drop x.1)) x.2 u → Ex (.l l) s u) (fun x => mkSt [(0, .ptr 0 0), (1, .sl (Nd.avL l)), (4, AV.i x.1)] [(0, .cells (rcs x.2 1)), (1, .row 9 (evs x.2.ev))] 2) (fun x => l.length - x.1) (0, s) ⟨Nat.zero_le _, hs, fun u h => h⟩ (fun i => i) (by refine ent_mk (by simp [go_sem, rcs]) (by simp [go_sem, rcs]) (by simp) (by simp [hN])) ?_
  rintro ⟨i, t⟩ ⟨hi, ht, hex⟩
  simp only at hi ht hex
  unfold rcs
  by_cases hlt : i < l.length
  · obtain ⟨x, hx⟩ := get?_of hlt
    rw [drop_of hx] at hex
    cases hov : t.ov
    · have hxs := Nd.sz_mem (List.mem_of_getElem? hx)
      have hcall := hNd x d t (by omega) hd6 (formedL_mem hf (List.mem_of_getElem? hx)) ht hov
      rw [Nd.av_eq] at hcall
      repeat' (first | apply w1 | apply w2 | apply w3 | apply w4 | apply w5 | apply w6 | apply w7 | refine Kq_exit_ne (by decide) ?_ | apply w8 | apply w9 | apply w0 | rw [wrap64 (by omega) (by omega)] | ((first | refine hK _ ?_ | refine hKp _ _ ?_); clear hK hKp K Kp; try clear hanc anc) | ((with_reducible refine And.intro ?_ ?_); (focus (first | trivial | omega | (simp only [Fits]; omega) | assumption | (rw [hanc]; rfl)))) | ((first | refine K_regA hE fun K Kp hK hKp => ?_ | refine K_drwA true mixed hE fun K Kp hK hKp anc hanc => ?_ | refine K_drwA false mixed hE fun K Kp hK hKp anc hanc => ?_); simp only [go_sem, ↓reduceIte, reduceCtorEq, reduceAdd, reduceMul, reduceEqDiff, reduceLT, reduceLeDiff, reduceSub, reduceDiv, Nat.reduceBEq, Int.reduceBEq, reduceBNe, Int.reduceLT, reduceLE, reduceEq, lt_dec hlt, hov, hx, Nd.av_eq]) | ((first | refine onG_split_t (fun hg => ?_) (fun hg => ?_) | refine onG_split_f (fun hg => ?_) (fun hg => ?_)) <;> simp only [go_sem, ↓reduceIte, reduceCtorEq, reduceAdd, reduceMul, reduceEqDiff, reduceLT, reduceLeDiff, reduceSub, reduceDiv, Nat.reduceBEq, Int.reduceBEq, reduceBNe, Int.reduceLT, reduceLE, reduceEq, lt_dec hlt, hov, hx, Nd.av_eq, hg]) | (refine K_condA (fun hc => ?_) (fun hc => ?_) <;> try (exact absurd hc (by decide))))
      refine Hold.mk (RCall.use (hcall) rfl (A := 0) (e := 1) (by decide) (by first | rfl | (simp [go_sem, rcs, hov]; done)) (by first | rfl | (simp [go_sem, hov]; done)) ?_)
      rintro r s' ⟨fr', hp', nx'⟩ e' he' ⟨hex2, hok2⟩ _ hnx hfr hp0 hp1 hold
      simp only at he' hnx hfr hp0 hp1 hold
      have hne0 : e' ≠ 0 := by omega
      have hne2 : e' ≠ 2 := by omega
      subst hnx hfr
      simp only [go_sem, ↓reduceIte, reduceCtorEq, reduceAdd, reduceMul, reduceEqDiff, reduceLT, reduceLeDiff, reduceSub, reduceDiv, Nat.reduceBEq, Int.reduceBEq, reduceBNe, Int.reduceLT, reduceLE, reduceEq, hov]
      refine hK _ ?_; clear hK hKp K Kp; try clear hanc anc
      repeat (first | refine Kq_norm_code ?_ | refine Kq_norm_blk ?_ | refine Kq_norm_lp ?_)
      refine AW.entR _ hp1 (σ' := mkSt [(0, .ptr 0 0), (1, .sl (Nd.avL l)), (4, AV.i i)] [(0, .cells (rcs s' 1)), (1, .row 9 (evs s'.ev))] 2) (ent_mk (by simp [go_sem]) (by simp [go_sem, rcs, hp0, hp1, hov]) (by simp [hne0, hne2, Ne.symm hne0, Ne.symm hne2]) (by simp [hN])) ?_
      repeat' (first | apply w1 | apply w2 | apply w3 | apply w4 | apply w5 | apply w6 | apply w7 | refine Kq_exit_ne (by decide) ?_ | apply w8 | apply w9 | apply w0 | rw [wrap64 (by omega) (by omega)] | ((first | refine hK _ ?_ | refine hKp _ _ ?_); clear hK hKp K Kp; try clear hanc anc) | ((with_reducible refine And.intro ?_ ?_); (focus (first | trivial | omega | (simp only [Fits]; omega) | assumption | (rw [hanc]; rfl)))) | ((first | refine K_regA hE fun K Kp hK hKp => ?_ | refine K_drwA true mixed hE fun K Kp hK hKp anc hanc => ?_ | refine K_drwA false mixed hE fun K Kp hK hKp anc hanc => ?_); simp only [go_sem, ↓reduceIte, reduceCtorEq, reduceAdd, reduceMul, reduceEqDiff, reduceLT, reduceLeDiff, reduceSub, reduceDiv, Nat.reduceBEq, Int.reduceBEq, reduceBNe, Int.reduceLT, reduceLE, reduceEq]) | ((first | refine onG_split_t (fun hg => ?_) (fun hg => ?_) | refine onG_split_f (fun hg => ?_) (fun hg => ?_)) <;> simp only [go_sem, ↓reduceIte, reduceCtorEq, reduceAdd, reduceMul, reduceEqDiff, reduceLT, reduceLeDiff, reduceSub, reduceDiv, Nat.reduceBEq, Int.reduceBEq, reduceBNe, Int.reduceLT, reduceLE, reduceEq, hg]) | (refine K_condA (fun hc => ?_) (fun hc => ?_) <;> try (exact absurd hc (by decide))))
      exact ⟨(i + 1, s'), ⟨by simp only; omega, hok2, fun u hu => hex u (.cons hov hex2 hu)⟩, by simp only; omega, fun i => i, by refine ent_mk (by simp [go_sem, rcs]) (by simp [go_sem, rcs]) (by simp) (by simp [hN])⟩
    · repeat' (first | apply w1 | apply w2 | apply w3 | apply w4 | apply w5 | apply w6 | apply w7 | refine Kq_exit_ne (by decide) ?_ | apply w8 | apply w9 | apply w0 | rw [wrap64 (by omega) (by omega)] | ((first | refine hK _ ?_ | refine hKp _ _ ?_); clear hK hKp K Kp; try clear hanc anc) | ((with_reducible refine And.intro ?_ ?_); (focus (first | trivial | omega | (simp only [Fits]; omega) | assumption | (rw [hanc]; rfl)))) | ((first | refine K_regA hE fun K Kp hK hKp => ?_ | refine K_drwA true mixed hE fun K Kp hK hKp anc hanc => ?_ | refine K_drwA false mixed hE fun K Kp hK hKp anc hanc => ?_); simp only [go_sem, ↓reduceIte, reduceCtorEq, reduceAdd, reduceMul, reduceEqDiff, reduceLT, reduceLeDiff, reduceSub, reduceDiv, Nat.reduceBEq, Int.reduceBEq, reduceBNe, Int.reduceLT, reduceLE, reduceEq, lt_dec hlt, hov, hx]) | ((first | refine onG_split_t (fun hg => ?_) (fun hg => ?_) | refine onG_split_f (fun hg => ?_) (fun hg => ?_)) <;> simp only [go_sem, ↓reduceIte, reduceCtorEq, reduceAdd, reduceMul, reduceEqDiff, reduceLT, reduceLeDiff, reduceSub, reduceDiv, Nat.reduceBEq, Int.reduceBEq, reduceBNe, Int.reduceLT, reduceLE, reduceEq, lt_dec hlt, hov, hx, hg]) | (refine K_condA (fun hc => ?_) (fun hc => ?_) <;> try (exact absurd hc (by decide))))
      rw [Kq_nil]
      refine (hQ _ (.tup []) t 1 (by simp only [go_sem, ↓reduceIte, reduceCtorEq, reduceAdd, reduceMul, reduceEqDiff, reduceLT, reduceLeDiff, reduceSub, reduceDiv, Nat.reduceBEq, Int.reduceBEq, reduceBNe, Int.reduceLT, reduceLE, reduceEq]; rfl) ⟨hex _ (.ov hov), ht⟩ rfl (by decide) ?_ ?_).2
      · simp [go_sem, rcs, hov]
      · simp [go_sem]
  · obtain rfl : i = l.length := by omega
    rw [List.drop_length] at hex
    repeat' (first | apply w1 | apply w2 | apply w3 | apply w4 | apply w5 | apply w6 | apply w7 | refine Kq_exit_ne (by decide) ?_ | apply w8 | apply w9 | apply w0 | rw [wrap64 (by omega) (by omega)] | ((first | refine hK _ ?_ | refine hKp _ _ ?_); clear hK hKp K Kp; try clear hanc anc) | ((with_reducible refine And.intro ?_ ?_); (focus (first | trivial | omega | (simp only [Fits]; omega) | assumption | (rw [hanc]; rfl)))) | ((first | refine K_regA hE fun K Kp hK hKp => ?_ | refine K_drwA true mixed hE fun K Kp hK hKp anc hanc => ?_ | refine K_drwA false mixed hE fun K Kp hK hKp anc hanc => ?_); simp only [go_sem, ↓reduceIte, reduceCtorEq, reduceAdd, reduceMul, reduceEqDiff, reduceLT, reduceLeDiff, reduceSub, reduceDiv, Nat.reduceBEq, Int.reduceBEq, reduceBNe, Int.reduceLT, reduceLE, reduceEq, ge_dec]) | ((first | refine onG_split_t (fun hg => ?_) (fun hg => ?_) | refine onG_split_f (fun hg => ?_) (fun hg => ?_)) <;> simp only [go_sem, ↓reduceIte, reduceCtorEq, reduceAdd, reduceMul, reduceEqDiff, reduceLT, reduceLeDiff, reduceSub, reduceDiv, Nat.reduceBEq, Int.reduceBEq, reduceBNe, Int.reduceLT, reduceLE, reduceEq, ge_dec, hg]) | (refine K_condA (fun hc => ?_) (fun hc => ?_) <;> try (exact absurd hc (by decide))))
    rw [Kq_nil]
    refine (hQ _ (.tup []) t 1 (by simp only [go_sem, ↓reduceIte, reduceCtorEq, reduceAdd, reduceMul, reduceEqDiff, reduceLT, reduceLeDiff, reduceSub, reduceDiv, Nat.reduceBEq, Int.reduceBEq, reduceBNe, Int.reduceLT, reduceLE, reduceEq]; rfl) ⟨hex _ (.nil t), ht⟩ rfl (by decide) ?_ ?_).2
    · simp [go_sem, rcs]
    · simp [go_sem]

theorem Okd.mono {d e : Int} {s : RS} (h : Okd d s) (he : d ≤ e) : Okd e s := by
  obtain ⟨h1, h2, h3, h4⟩ := h
  exact ⟨h1, h2, by omega, h4⟩
theorem Okd.note {d e : Int} {s : RS} (h : Okd d s) (hs : s.ov = false) (x : Ev) : Okd e (s.note x) := by
  obtain ⟨h1, h2, _, h3⟩ := h
  have h2 := h2 hs
  have h4 : (s.note x).at_ ≤ 2 * (s.note x).ev.length := by
    show s.at_ ≤ 2 * (s.ev ++ [x]).length
    simp only [List.length_append]; omega
  exact ⟨h1.note hs x, fun _ => h4, by omega, h3⟩
theorem Okd.over {d : Int} {s : RS} (h : Okd d s) : Okd d s.over := ⟨h.1.over, fun h => (by cases h), h.2.2⟩
theorem next_at (s : RS) : s.next.at_ ≤ s.at_ + 1 := by
  unfold RS.next
  split
  · exact Nat.le_succ _
  · exact Nat.le_refl _
theorem next_ch (s : RS) : s.next.ch = s.ch := by unfold RS.next; split <;> rfl
theorem Okd.noteNext {d e : Int} {s : RS} (h : Okd d s) (hs : s.ov = false) (x : Ev) : Okd e (s.note x).next := by
  have h1 := h.note (e := 0) hs x
  have h2 := h.2.1 hs
  have h3 := next_at (s.note x)
  have h4 : (s.note x).next.at_ ≤ 2 * (s.note x).next.ev.length := by
    rw [RS.next_ev]
    simp only [RS.note_ev, List.length_append, List.length_singleton]
    have : (s.note x).at_ = s.at_ := rfl
    omega
  exact ⟨h1.1.next, fun _ => h4, by omega, by rw [next_ch]; exact h1.2.2.2⟩

theorem ex_mono {c : Cm} {s t : RS} (h : Ex c s t) : s.ev.length ≤ t.ev.length := by
  induction h with
  | nil s => exact Nat.le_refl _
  | ov h => exact Nat.le_refl _
  | cons h h1 h2 ih1 ih2 => exact Nat.le_trans ih1 ih2
  | k1 h => simp
  | k2 h _ ih => rw [RS.next_ev, RS.note_ev, List.length_append] at ih; omega
  | k3 h _ ih => rw [RS.note_ev, List.length_append] at ih; omega
  | k4 h _ _ ih => rw [RS.next_ev, RS.note_ev, List.length_append] at ih; omega
  | k5 h => simp [RS.over]
  | k6 h => simp [RS.over]
  | out h => rw [RS.next_ev]; exact Nat.le_refl _
  | @on a p s t u h h0 h1 h2 ih1 ih2 =>
    rw [RS.next_ev] at ih1
    cases ht : t.ov
    · rw [ht] at ih2
      simp only [Bool.false_eq_true, if_false, RS.note_ev, List.length_append] at ih2
      omega
    · rw [ht] at ih2
      simp only [if_true] at ih2
      omega

end Go.Proofs.Ytdheeecpkkjfiaa

