/- A part of the proof: an abstract machine for the walks, and what the walked functions compute. -/
import Derived.Lib.SliceRun
import Derived.Maps.RangeRun
import Derived.Test.YtdgmjbgjahmoaaaMj
set_option linter.unusedVariables false
set_option linter.unusedSimpArgs false
namespace Go.Am
open Go
variable {P : Program} {E : En} {ρ : Nat → Ref} {V : Nat → Prop} {Z : Nat → Nat → Prop} {σ : St} {a : Act} {w : World}
def roundPostP (P : Program) (l : Nat) (R : Ending → World → Prop) : Exit → Act → World → Prop
 | .normal, _, w => ∃ v w', (Instr.endRound l none).run P w = .ok v w' ∧ R (.returned v) w'
 | .ret, _, w => ∃ v w', (Instr.endRound l (some .ret)).run P w = .ok v w' ∧ R (.returned v) w'
 | .exit id, _, w => ∃ v w', (Instr.endRound l (some (.exit id))).run P w = .ok v w' ∧ R (.returned v) w'
 | .panic chain, a, w => a.defers = [] ∧ R (.panicked chain) w
 | _, _, _ => False
def roundPanP (R : Ending → World → Prop) : Exit → Act → World → Prop
 | .panic chain, a, w => a.defers = [] ∧ R (.panicked chain) w
 | _, _, _ => False
theorem leave_round {f : FuncId} {fn : Func} (hf : P.funcs[f]? = some fn) {b c : Frame} (hbf : b.fn = f) {a : Act} {todo : List Item} {cs : List Frame} {w : World} {chain : List PanicEntry} (hd : a.defers = []) :
    step P (lone { b.atR a todo with mode := .panicking chain } (c :: cs) w) = .next (lone (c.raise chain) cs w) :=
  step_leave_panicked ⟨rfl, hd, fn, by show P.funcs[b.fn]? = some fn; rw [hbf]; exact hf⟩
theorem roundIn_of_wpX {l : Nat} {f : FuncId} {tmps : Array Value} {assign body : Code} {w : World} {R : Ending → World → Prop} (hf : P.funcs[f]? ≠ none)
    (h : wpX P (some l) true assign (Exit.then (fun a₁ w₁ => ∃ w₂, (Instr.beginRound l).run P w₁ = .ok () w₂ ∧ wpX P (some l) true body (roundPostP P l R) a₁ w₂) (roundPanP R))
      { tmps := tmps, defers := [] } w) : RoundIn Fence.wide 0 P l f tmps assign body w R := by
  obtain ⟨fn, hfn⟩ := Option.ne_none_iff_exists'.1 hf
  refine ⟨trivial, fun c cs hr => ?_⟩
  let b : Frame := { (default : Frame) with fn := f, kind := .normal, roundOf := some l }
  have hb0 : Frame.round l f tmps assign body .normal = b.atR { tmps := tmps, defers := [] } [.code assign, .beginRound, .code body] := by
    simp [Frame.round, Frame.atR, b]
  obtain ⟨e, a₁, w₁, hq, harr⟩ := h b [.beginRound, .code body] (c :: cs) rfl (fun _ => hf)
  rw [← hb0] at harr
  cases e with
  | normal =>
    obtain ⟨w₂, hbr, hbody⟩ := hq
    have s1 : StepsIn (Machine.fenced P Fence.wide) P (lone (b.atR a₁ [.beginRound, .code body]) (c :: cs) w₁) (lone (b.atR a₁ [.code body]) (c :: cs) w₂) :=
      .one (fwide _) (stepR_beginRound rfl hbr)
    obtain ⟨e₂, a₂, w₃, hq₂, harr₂⟩ := hbody b [] (c :: cs) rfl (fun _ => hf)
    cases e₂ with
    | normal =>
      obtain ⟨v, w₄, hend, hR⟩ := hq₂
      exact ⟨.returned v, w₄, hR, (StepsIn.trans harr s1).trans (StepsIn.trans harr₂ (.one (fwide _) (stepR_round_end rfl rfl hend)))⟩
    | ret =>
      obtain ⟨v, w₄, hend, hR⟩ := hq₂
      obtain ⟨k₁, hs⟩ := harr₂.2 rfl
      exact ⟨.returned v, w₄, hR, (StepsIn.trans harr s1).trans (StepsIn.trans hs (.one (fwide _) (stepR_round_ret rfl rfl hend)))⟩
    | exit id =>
      obtain ⟨v, w₄, hend, hR⟩ := hq₂
      obtain ⟨k₁, hk, hs⟩ := harr₂.2 rfl rfl
      exact ⟨.returned v, w₄, hR, (StepsIn.trans harr s1).trans (StepsIn.trans hs (.one (fwide _) (stepR_round_exit rfl rfl hk hend)))⟩
    | goto t => exact hq₂.elim
    | panic chain =>
      obtain ⟨hd, hR⟩ := hq₂
      obtain ⟨todo, hs⟩ := harr₂
      exact ⟨.panicked chain, w₃, hR, (StepsIn.trans harr s1).trans (StepsIn.trans hs (.one (fwide _) (leave_round hfn rfl hd)))⟩
    | outgrown => exact hq₂.elim
  | panic chain =>
    obtain ⟨hd, hR⟩ := hq
    obtain ⟨todo, hs⟩ := harr
    exact ⟨.panicked chain, w₁, hR, StepsIn.trans hs (.one (fwide _) (leave_round hfn rfl hd))⟩
  | exit id => exact hq.elim
  | goto t => exact hq.elim
  | ret => exact hq.elim
  | outgrown => exact hq.elim
def rangePostX (P : Program) (ex : Bool) (l : Nat) (Q : Exit → Act → World → Prop) (a' : Act) : Ending → World → Prop
  | .returned _, w₃ => ∃ jump w₄, (Instr.endLoop l).run P w₃ = .ok jump w₄ ∧
      (match jump with
       | none => Q .normal a' w₄
       | some c => wpX P none ex c Q a' w₄)
  | .panicked chain, w₃ => Q (.panic chain) a' w₃
  | .outgrown, _ => False
theorem wpX_rangeFunc {ex : Bool} {g : Operand} {ps : Array Tmp} {assign body : Code} {Q : Exit → Act → World → Prop} {a : Act} {w : World}
    (h : ∀ fn, (ex = true → P.funcs[fn]? ≠ none) → ∃ (l : Nat) (mark : List Deferred) (w₁ : World) (d : Deferred) (w₁' : World) (f : FuncId) (args : Array Value) (w₂ : World),
      (Instr.enterLoop fn a.tmps ps assign body none).run P w = .ok (l, mark) w₁ ∧ (resolve a.eval (rangeCall g l) 0).run P w₁ = .ok d w₁' ∧
      (invoke d.target d.args).run P w₁' = .ok (.enter f args) w₂ ∧ Calls P f args w₂ (rangePostX P ex l Q { a with defers := mark ++ a.defers })) :
    wpX P none ex (.rangeFunc g ps assign body) Q a w := by
  intro b k cs hro hx
  obtain ⟨l, mark, w₁, d, w₁', f, args, w₂, he, hres, hinv, hcall⟩ := h b.fn hx
  rw [← hro] at he
  have henter := stepR_rangeFunc (P := P) (b := b) (a := a) (k := k) (cs := cs) (w := w) he hres hinv
  obtain ⟨e, w₃, fr, hR, hsteps, hfn, hleave⟩ := ((callsIn_wide (n := 0)).2 hcall).2 (b.atR { a with defers := mark ++ a.defers } (.inRangeFunc l :: k) :: cs) (fun _ h => by cases h)
  cases e with
  | outgrown => exact hR.elim
  | returned v =>
    obtain ⟨jump, w₄, hend, hj⟩ := hR
    have sback : StepsIn (Machine.fenced P Fence.wide) P (lone (b.atR a (.code (.rangeFunc g ps assign body) :: k)) cs w) (lone (b.atR { a with defers := mark ++ a.defers } ((jump.map Item.code).toList ++ k)) cs w₄) := by
      refine .head (fwide _) henter (StepsIn.trans hsteps (.head (fwide _) ?_ (.one (fwide _) (stepR_endRangeFunc hend))))
      rw [← finish_atR_inRangeFunc l v]; exact step_leave_returned hleave
    cases jump with
    | none => exact ⟨.normal, _, w₄, hj, sback⟩
    | some c =>
      obtain ⟨e', a'', w₅, hq, harr⟩ := hj b k cs hro hx
      exact ⟨e', a'', w₅, hq, .of_steps sback harr⟩
  | panicked chain =>
    refine ⟨.panic chain, _, w₃, hR, .inRangeFunc l :: k, .head (fwide _) henter (StepsIn.trans hsteps (.one (fwide _) ?_))⟩
    rw [← Frame.raise_atR]; exact step_leave_panicked hleave
theorem Sat.setLp (h : Sat E ρ V Z σ a w) {rid : Nat} {q : Lp} {fr : List AV} (hr : σ.hp rid = some (.lp q fr)) (st : LoopState) (pend : Option Code) :
    ∃ r : Loop, w.heap[q.l]? = some (.loop r) ∧ r.state = q.st ∧ r.pending = q.pend ∧ Sat E ρ V Z ⟨σ.fr, updo σ.hp rid (some (.lp { q with st := st, pend := pend } fr)), σ.nx⟩ a (w.putObj q.l (.loop { r with state := st, pending := pend })) := by
  obtain ⟨hV, h0, h1, tmps, ds, h2, h3, h4⟩ := h.hs.obj rid _ hr
  rw [h1] at h2
  have hat : (ρ rid).at q.l := ⟨h0, h1⟩
  have hlt : q.l < w.heap.size := by
    rcases Nat.lt_or_ge q.l w.heap.size with g | g
    · exact g
    · rw [Array.getElem?_eq_none g] at h2; cases h2
  refine ⟨_, h2, rfl, rfl, ?_⟩
  have hcell : ∀ b o, (w.putObj q.l (.loop ⟨st, pend, q.fn, tmps, q.ps, q.assign, q.body, ds⟩)).cell? ⟨b, o, none⟩ = w.cell? ⟨b, o, none⟩ := by
    intro b o
    by_cases hb : b = q.l
    · subst hb
      simp [World.cell?, World.putObj_heap_same hlt, h2]
    · exact cell?_of_heap (World.putObj_heap_other hb)
  have hS := h.step0 (ρ' := ρ) (V' := V) (Z' := Z) (d := none) (v := .bool true) (x := .bool true) (w' := w.putObj q.l (.loop ⟨st, pend, q.fn, tmps, q.ps, q.assign, q.body, ds⟩)) (hp' := updo σ.hp rid (some (.lp { q with st := st, pend := pend } fr)))
    (fun b => b = q.l) (fun _ h => by cases h) (fun _ _ => rfl) (fun _ h => h) (fun _ _ h => h) (fun b hb => ⟨rid, _, hr, by rw [hb]; exact hat⟩) (fun b _ hb => World.putObj_heap_other hb) (by rw [World.putObj_size]; exact Nat.le_refl _) rfl rfl ?_ ?_ (fun b o hz => .inl hz) (.bool _)
  · exact hS
  · intro id o ho
    simp only [updo] at ho
    split at ho
    · rename_i e
      subst e
      cases ho
      refine .inr ⟨hV, ⟨h0, h1, tmps, ds, by rw [h1]; exact World.putObj_heap_same hlt, h3, fun i hi => (h4 i hi).mono (fun _ _ => rfl) (fun _ h => h) (fun _ _ h => h) (fun b o _ => hcell b o)⟩, fun b hb => ⟨.inl ?_, h.hs.sep _ _ b hr hb⟩⟩
      rw [← hb.2, h1]
    · rename_i hne
      exact .inl ⟨ho, fun b hb he => hne (h.hs.inj id rid _ _ b ho hr hb (by rw [he]; exact hat))⟩
  · intro id id' o o' b ho ho' hb hb' _
    have hx : ∀ id o, updo σ.hp rid (some (.lp { q with st := st, pend := pend } fr)) id = some o → ∃ o, σ.hp id = some o := by
      intro id o ho
      simp only [updo] at ho
      split at ho
      · rename_i e; exact ⟨_, by rw [e]; exact hr⟩
      · exact ⟨o, ho⟩
    obtain ⟨o1, g1⟩ := hx id o ho
    obtain ⟨o2, g2⟩ := hx id' o' ho'
    exact h.hs.inj id id' o1 o2 b g1 g2 hb hb'
def roundFr (q : Lp) (frv us : List AV) : Nat → Option AV := (q.ps.toList.zip us).foldl (fun f p => upd f p.1 p.2) (mkFr (q.ts.zip frv))
theorem mkFr_mem' : ∀ {fr : List (Nat × AV)} {t : Nat} {x : AV}, mkFr fr t = some x → (t, x) ∈ fr := by
 intro fr
 induction fr with
 | nil => intro t x h; cases h
 | cons p fr ih =>
  intro t x h
  obtain ⟨t', x'⟩ := p
  simp only [mkFr, upd] at h
  split at h
  ·rename_i e; cases h; simp [e]
  ·exact List.mem_cons_of_mem _ (ih h)
theorem round_fr {R : Value → AV → Prop} : ∀ (ps : List Tmp) (vs : List Value) (us : List AV) (T : Array Value) (f : Nat → Option AV), (∀ p, p ∈ ps → p < T.size) → vs.length = us.length → (∀ i, i < us.length → R (vs.getD i undef) (us.getD i default)) → (∀ t x, f t = some x → R (T.getD t undef) x) →
    ∀ t x, (ps.zip us).foldl (fun f p => upd f p.1 p.2) f t = some x → R (((ps.zip vs).foldl (fun t p => t.setIfInBounds p.1 p.2) T).getD t undef) x
  | [], vs, us, T, f, _, _, _, hf, t, x, h => by simpa using hf t x (by simpa using h)
  | p :: ps, [], [], T, f, _, _, _, hf, t, x, h => by simpa using hf t x (by simpa using h)
  | p :: ps, [], u :: us, T, f, _, hl, _, hf, t, x, h => by simp at hl
  | p :: ps, v :: vs, [], T, f, _, hl, _, hf, t, x, h => by simp at hl
  | p :: ps, v :: vs, u :: us, T, f, hps, hl, hr, hf, t, x, h => by
    simp only [List.zip_cons_cons, List.foldl_cons] at h ⊢
    refine round_fr ps vs us (T.setIfInBounds p v) (upd f p u) (fun p' hp' => by simpa using hps p' (List.mem_cons_of_mem _ hp')) (by simpa using hl) (fun i hi => ?_) (fun t x ht => ?_) t x h
    · simpa using hr (i + 1) (by simpa using hi)
    · have hp := hps p (by simp)
      simp only [upd] at ht
      by_cases e : t = p
      · subst e
        simp at ht
        subst ht
        have := hr 0 (by simp)
        simpa [Array.getD, hp] using this
      · rw [if_neg e] at ht
        have := hf t x ht
        have e2 : (T.setIfInBounds p v).getD t undef = T.getD t undef := by
          simp [Array.getD_eq_getD_getElem?, Array.getElem?_setIfInBounds_ne (Ne.symm e)]
        rw [e2]; exact this
theorem fold_arr (ps : Array Tmp) (args T : Array Value) : (ps.zip args).foldl (fun t (p, v) => t.setIfInBounds p v) T = (ps.toList.zip args.toList).foldl (fun t p => t.setIfInBounds p.1 p.2) T := by
 rw [← Array.foldl_toList, Array.toList_zip]
theorem fold_size : ∀ (l : List (Tmp × Value)) (T : Array Value), (l.foldl (fun t p => t.setIfInBounds p.1 p.2) T).size = T.size
 | [], T => rfl
 | p :: l, T => by rw [List.foldl_cons, fold_size l]; simp
theorem YCall.of_round {q : Lp} {frv vs : List AV} {hp : Nat → Option AObj} {nx np : Nat} {R Rp : AV → (Nat → Option AObj) → Prop} (rid : Nat) (hf : P.funcs[q.fn]? ≠ none) (hr : hp rid = some (.lp q frv)) (hrn : rid < np) (hst : q.st = .ready) (hvs : vs.length = q.ps.size) (hps : ∀ p, p ∈ q.ps.toList → p < q.nt)
    (h : ∀ (E : En) (Q : AEx → St → Prop), E.nt = q.nt → E.np = np → E.rd = some q.l →
      (∀ σ fr', σ.hp rid = some (.lp { q with st := .busy } fr') → R (.bool true) (updo σ.hp rid (some (.lp { q with st := .ready, pend := none } fr'))) → Q .norm σ) →
      (∀ σ fr', σ.hp rid = some (.lp { q with st := .busy } fr') → R (.bool false) (updo σ.hp rid (some (.lp { q with st := .done, pend := some .ret } fr'))) → Q .ret σ) →
      (∀ j σ fr', σ.hp rid = some (.lp { q with st := .busy } fr') → R (.bool false) (updo σ.hp rid (some (.lp { q with st := .done, pend := some (.exit j) } fr'))) → Q (.exit j) σ) →
      (∀ x σ, Rp x σ.hp → Q (.pan x) σ) →
      AW P E q.assign (fun e σ' => match e with | .norm => ∃ fr', σ'.hp rid = some (.lp q fr') ∧ AW P E q.body Q ⟨σ'.fr, updo σ'.hp rid (some (.lp { q with st := .busy } fr')), σ'.nx⟩ | .pan x => Rp x σ'.hp | _ => False) ⟨roundFr q frv vs, hp, nx⟩) : YCall P q.l vs hp nx np R Rp := by
  intro ρ V Z w args hh hnp hnx hsz hrel
  obtain ⟨hV, h0, h1, tmps, ds, h2, h3, h4⟩ := hh.obj rid _ hr
  have h2' := h2
  rw [h1] at h2'
  refine ⟨_, h2', by rw [hsz]; exact hvs, roundIn_of_wpX hf ?_⟩
  simp only
  rw [fold_arr]
  let E : En := ⟨q.nt, [], w, OwnB ρ hp, Z, np, ρ, some q.l, false, true⟩
  have hsat : Sat E ρ V Z ⟨roundFr q frv vs, hp, nx⟩ { tmps := (q.ps.toList.zip args.toList).foldl (fun t p => t.setIfInBounds p.1 p.2) tmps, defers := [] } w := by
    refine ⟨by rw [fold_size]; exact h3, ⟨[], rfl, ⟨by simp, by simp⟩, fun _ => rfl⟩, ?_, hh, ⟨fun _ _ _ => rfl, Nat.le_refl _, rfl, rfl, trivial⟩, fun id o b h1 h2 _ => ⟨id, o, h1, h2⟩, fun _ _ h => h, fun _ _ h => .inl h, fun id hid => ⟨hnp id hid, rfl⟩⟩
    refine round_fr (R := Rel ρ V Z w) q.ps.toList args.toList vs tmps (mkFr (q.ts.zip frv)) (fun p hp => by rw [h3]; exact hps p hp) (by simpa using hsz) (fun i hi => ?_) (fun t x ht => ?_)
    · have := hrel i hi
      simpa [List.getD_eq_getElem?_getD, Array.getD_eq_getD_getElem?] using this
    · obtain ⟨i, hi, e⟩ := List.getElem_of_mem (mkFr_mem' ht)
      simp only [List.length_zip] at hi
      rw [List.getElem_zip] at e
      simp only [Prod.mk.injEq] at e
      have := h4 i (by omega)
      have e1 : q.ts.getD i 0 = t := by rw [← e.1]; simp [List.getD_eq_getElem?_getD, show i < q.ts.length by omega]
      have e2 : frv.getD i default = x := by rw [← e.2]; simp [List.getD_eq_getElem?_getD, show i < frv.length by omega]
      rw [e1, e2] at this
      exact this
  let Res := fun (e : Ending) (w' : World) => ∃ ρ' V' Z' hp', HSat ρ' V' Z' w' hp' ∧ Ext w w' (OwnB ρ hp) ∧ (∀ id, id < np → V' id ∧ ρ' id = ρ id) ∧ (∀ b o, Z b o → Z' b o) ∧
      (∀ b o, Z' b o → Z b o ∨ w.heap.size ≤ b ∨ OwnB ρ hp b) ∧ (∀ id o b, hp' id = some o → (ρ' id).at b → b < w.heap.size → OwnB ρ hp b) ∧
      ((∃ v r, e = .returned v ∧ Rel ρ' V' Z' w' v r ∧ R r hp') ∨ ∃ v x, e = .panicked [{ v, recovered := false }] ∧ Rel ρ' V' Z' w' v x ∧ Rp x hp')
  let Q : AEx → St → Prop := fun e σ => match e with
    | .norm => ∃ fr', σ.hp rid = some (.lp { q with st := .busy } fr') ∧ R (.bool true) (updo σ.hp rid (some (.lp { q with st := .ready, pend := none } fr')))
    | .ret => ∃ fr', σ.hp rid = some (.lp { q with st := .busy } fr') ∧ R (.bool false) (updo σ.hp rid (some (.lp { q with st := .done, pend := some .ret } fr')))
    | .exit j => ∃ fr', σ.hp rid = some (.lp { q with st := .busy } fr') ∧ R (.bool false) (updo σ.hp rid (some (.lp { q with st := .done, pend := some (.exit j) } fr')))
    | .pan x => Rp x σ.hp
  have hpan : ∀ {ρ' V' Z' σ' a' w' v x}, Sat E ρ' V' Z' σ' a' w' → Rel ρ' V' Z' w' v x → Rp x σ'.hp → a'.defers = [] ∧ Res (.panicked [{ v, recovered := false }]) w' := by
    intro ρ' V' Z' σ' a' w' v x hs hv hR
    exact ⟨hs.df.none rfl, ρ', V', Z', σ'.hp, hs.hs, hs.ext, hs.pn, hs.z0, hs.zn, hs.ownd, .inr ⟨v, x, rfl, hv, hR⟩⟩
  have hend : ∀ {ρ' V' Z' σ' a' w' fr'} (jump : Option Code), Sat E ρ' V' Z' σ' a' w' → σ'.hp rid = some (.lp { q with st := .busy } fr') → R (.bool jump.isNone) (updo σ'.hp rid (some (.lp { q with st := if jump.isNone then .ready else .done, pend := jump } fr'))) →
      ∃ v w'', (Instr.endRound q.l jump).run P w' = .ok v w'' ∧ Res (.returned v) w'' := by
    intro ρ' V' Z' σ' a' w' fr' jump hs hrr hR
    obtain ⟨r, g1, g2, g3, g4⟩ := hs.setLp hrr (if jump.isNone then .ready else .done) jump
    refine ⟨_, _, run_endRound jump g1, ρ', V', Z', _, g4.hs, g4.ext, g4.pn, g4.z0, g4.zn, g4.ownd, .inl ⟨_, .bool jump.isNone, rfl, .bool _, hR⟩⟩
  have hA := h E Q rfl rfl rfl (fun σ fr' h1 h2 => ⟨fr', h1, h2⟩) (fun σ fr' h1 h2 => ⟨fr', h1, h2⟩) (fun j σ fr' h1 h2 => ⟨fr', h1, h2⟩) (fun x σ h => h) ρ V Z _ w hsat hnx
  refine wpX_mono ?_ hA
  rintro e a1 w1 ⟨ρ1, V1, Z1, σ1, x1, k1, k2, k3, k4⟩
  cases e <;> cases x1 <;> simp only [ExR] at k1
  · obtain ⟨fr', g1, g2⟩ := k2
    obtain ⟨r, p1, p2, p3, p4⟩ := k3.setLp g1 .busy q.pend
    refine ⟨_, run_beginRound p1 (by rw [p2]; exact hst), ?_⟩
    have e1 : ({ r with state := .busy } : Loop) = { r with state := .busy, pending := q.pend } := by rw [← p3]
    rw [e1]
    have hB := g2 ρ1 V1 Z1 a1 _ p4 (k4 (by simp))
    refine wpX_mono ?_ hB
    rintro e a2 w2 ⟨ρ2, V2, Z2, σ2, x2, m1, m2, m3, m4⟩
    cases e <;> cases x2 <;> simp only [ExR] at m1
    · obtain ⟨fr2, n1, n2⟩ := m2
      exact hend none m3 n1 n2
    · subst m1
      obtain ⟨fr2, n1, n2⟩ := m2
      exact hend (some (.exit _)) m3 n1 n2
    · obtain ⟨fr2, n1, n2⟩ := m2
      exact hend (some .ret) m3 n1 n2
    · obtain ⟨v, rfl, hv⟩ := m1
      exact hpan m3 hv m2
  · exact k2.elim
  · exact k2.elim
  · obtain ⟨v, rfl, hv⟩ := k1
    exact hpan k3 hv k2
theorem alloc_old {w : World} {o : Obj} {b : Nat} (h : b < w.heap.size) : (w.alloc o).heap[b]? = w.heap[b]? := by
 show (w.heap.push o)[b]? = _
 rw [Array.getElem?_push, if_neg (by omega)]
def RangeQ (Q : AEx → St → Prop) : Option Code → St → Prop
 | none, σ => Q .norm σ
 | some .ret, σ => Q .ret σ
 | some (.exit j), σ => Q (.exit j) σ
 | _, _ => False
set_option maxHeartbeats 2000000 in
theorem AW_range {g : Operand} {ps : Array Tmp} {assign body : Code} {Q : AEx → St → Prop} {gf : FuncId} {first cap : List AV} (hE : E.rd = none ∧ E.mks = true ∧ E.ex = true) (hg : evA σ g = some (.fn (.func gf) first cap)) (ts : List Nat) (vals : List AV)
    (hfr : ∀ i, i < vals.length → σ.fr (ts.getD i 0) = some (vals.getD i default))
    (h : ∀ l fnn, P.funcs[fnn]? ≠ none → CallB P gf (first ++ [.fn (.yield l) [] []] ++ cap) ⟨σ.fr, updo σ.hp σ.nx (some (.lp ⟨l, fnn, ps, assign, body, E.nt, ts, .ready, none⟩ vals)), σ.nx + 1⟩ 0 none
      (fun σ' => ∃ st pend vals', σ'.hp σ.nx = some (.lp ⟨l, fnn, ps, assign, body, E.nt, ts, st, pend⟩ vals') ∧ st ≠ .busy ∧ RangeQ Q pend ⟨σ'.fr, updo σ'.hp σ.nx none, σ.nx + 1 + 1048576⟩)
      (fun x σ' => Q (.pan x) σ')) : AW P E (.rangeFunc g ps assign body) Q σ := by
  obtain ⟨hrd, hmk, hex⟩ := hE
  intro ρ V Z a w hs hV
  rw [hrd, hex]
  refine wpX_rangeFunc fun fnn hfnn => ?_
  obtain ⟨fs, cs, hfv, k1, k2, k3, k4⟩ := (ev_rel hs hg).fn_inv
  obtain ⟨hgf, hc⟩ := h (w.heap.size + 1) fnn (hfnn rfl)
  generalize hw1 : (w.alloc (.deferred (some []))).alloc (.loop { state := .ready, pending := none, fn := fnn, tmps := a.tmps, params := ps, assign, body, defers := w.heap.size }) = w1
  have hsz1 : w1.heap.size = w.heap.size + 2 := by rw [← hw1, World.size_alloc, World.size_alloc]
  have hold : ∀ b, b < w.heap.size → w1.heap[b]? = w.heap[b]? := by
    intro b hb
    rw [← hw1, alloc_old (by rw [World.size_alloc]; omega), alloc_old hb]
  have hD : w1.heap[w.heap.size]? = some (.deferred (some [])) := by
    rw [← hw1, alloc_old (by rw [World.size_alloc]; omega)]
    exact World.alloc_heap_new _ _
  have hL : w1.heap[w.heap.size + 1]? = some (.loop ⟨.ready, none, fnn, a.tmps, ps, assign, body, w.heap.size⟩) := by
    rw [← hw1]
    have := World.alloc_heap_new (w.alloc (.deferred (some []))) (.loop ⟨.ready, none, fnn, a.tmps, ps, assign, body, w.heap.size⟩)
    rw [World.size_alloc] at this
    exact this
  have hrel1 : ∀ {v x}, Rel ρ V Z w v x → Rel (fun id => if id = σ.nx then { blk := w.heap.size + 1 } else ρ id) (fun id => V id ∨ id = σ.nx) Z w1 v x := fun hr =>
    hr.mono (fun id hid => if_neg (by have := hV id hid; omega)) (fun _ h => .inl h) (fun _ _ h => h) (fun b o hz => cell?_of_heap (hold b (hs.hs.lt b o hz)))
  have hS1 := hs.step0 (ρ' := fun id => if id = σ.nx then { blk := w.heap.size + 1 } else ρ id) (V' := fun id => V id ∨ id = σ.nx) (Z' := Z) (d := none) (v := .bool true) (x := .bool true) (w' := w1)
    (hp' := updo σ.hp σ.nx (some (.lp ⟨w.heap.size + 1, fnn, ps, assign, body, E.nt, ts, .ready, none⟩ vals)))
    (fun _ => False) (fun _ h => by cases h) (fun id hid => if_neg (by have := hV id hid; omega)) (fun _ h => .inl h) (fun _ _ h => h) (fun _ h => h.elim) (fun b hb _ => hold b hb) (by omega) (by rw [← hw1]; rfl) (by rw [← hw1]; rfl) ?_ ?_ (fun b o hz => .inl hz) (.bool _)
  rotate_left
  · intro id o ho
    simp only [updo] at ho
    split at ho
    · rename_i e
      subst e
      cases ho
      refine .inr ⟨.inr rfl, ⟨by simp, by simp, a.tmps, w.heap.size, by simpa using hL, hs.nt, fun i hi => hrel1 (hs.fr _ _ (hfr i hi))⟩, fun b hb => ?_⟩
      obtain ⟨_, hb2⟩ := hb
      simp only [if_true] at hb2
      refine ⟨.inr (by omega), fun off hz => ?_⟩
      have := hs.hs.lt b off hz
      omega
    · exact .inl ⟨ho, fun _ _ h => h⟩
  · intro id id' o o' b ho ho' hb hb' _
    have hx : ∀ id o, updo σ.hp σ.nx (some (.lp ⟨w.heap.size + 1, fnn, ps, assign, body, E.nt, ts, .ready, none⟩ vals)) id = some o → (if id = σ.nx then ({ blk := w.heap.size + 1 } : Ref) else ρ id).at b → (id = σ.nx ∧ b = w.heap.size + 1) ∨ (id ≠ σ.nx ∧ σ.hp id = some o ∧ (ρ id).at b) := by
      intro id o ho hb
      simp only [updo] at ho
      split at ho
      · rename_i e; subst e; rw [if_pos rfl] at hb; exact .inl ⟨rfl, hb.2.symm⟩
      · rename_i e; rw [if_neg e] at hb; exact .inr ⟨e, ho, hb⟩
    rcases hx id o ho hb with ⟨e1, e2⟩ | ⟨e1, e2, e3⟩ <;> rcases hx id' o' ho' hb' with ⟨f1, f2⟩ | ⟨f1, f2, f3⟩
    · rw [e1, f1]
    · have := (hs.hs.obj id' o' f2).2.lt b f3; omega
    · have := (hs.hs.obj id o e2).2.lt b e3; omega
    · exact hs.hs.inj id id' o o' b e2 f2 e3 f3
  have hmark : DfOk E w1 { a with defers := [⟨.collected w.heap.size, #[]⟩] ++ a.defers } := by
    obtain ⟨M, m1, ⟨m2, m3⟩, _⟩ := hs.df
    refine ⟨⟨.collected w.heap.size, #[]⟩ :: M, by simp [m1], ⟨List.nodup_cons.2 ⟨fun hin => ?_, m2⟩, fun d hd => ?_⟩, fun hm => by rw [hmk] at hm; cases hm⟩
    · obtain ⟨b, e, hb, _⟩ := m3 _ hin
      have e : w.heap.size = b := by injection e with e1 _; injection e1
      rw [← e, Array.getElem?_eq_none (Nat.le_refl _)] at hb
      cases hb
    · rcases List.mem_cons.1 hd with rfl | hd
      · exact ⟨_, rfl, hD, hs.ext.le⟩
      · obtain ⟨b, e, hb, hbw⟩ := m3 d hd
        refine ⟨b, e, ?_, hbw⟩
        have hlt : b < w.heap.size := by
          rcases Nat.lt_or_ge b w.heap.size with h1 | h1
          · exact h1
          · rw [Array.getElem?_eq_none h1] at hb; cases hb
        rw [hold b hlt]; exact hb
  have hS2 : Sat E (fun id => if id = σ.nx then { blk := w.heap.size + 1 } else ρ id) (fun id => V id ∨ id = σ.nx) Z ⟨σ.fr, updo σ.hp σ.nx (some (.lp ⟨w.heap.size + 1, fnn, ps, assign, body, E.nt, ts, .ready, none⟩ vals)), σ.nx + 1⟩ { a with defers := [⟨.collected w.heap.size, #[]⟩] ++ a.defers } w1 :=
    ⟨hS1.nt, hmark, hS1.fr, hS1.hs, hS1.ext, hS1.ownd, hS1.z0, hS1.zn, hS1.pn⟩
  have hargs := app_rel (app_rel (x := fs) (y := #[.func (.yield (w.heap.size + 1)) #[] #[]]) (xs := first) (ys := [.fn (.yield (w.heap.size + 1)) [] []]) ⟨k1, fun i hi => hrel1 (k3 i hi)⟩
    ⟨rfl, fun i hi => by
      obtain rfl : i = 0 := by simp at hi; omega
      exact .fn _ _ _ _ _ rfl rfl (fun i hi => absurd hi (Nat.not_lt_zero _)) (fun i hi => absurd hi (Nat.not_lt_zero _))⟩) (y := cs) (ys := cap) ⟨k2, fun i hi => hrel1 (k4 i hi)⟩
  have hcall := hc E _ _ Z _ w1 _ hS2 (fun id hid => by
    rcases hid with hid | hid
    · have := hV id hid; show ¬ (σ.nx + 1 + 1048576 * 0 ≤ id ∧ _); omega
    · show ¬ (σ.nx + 1 + 1048576 * 0 ≤ id ∧ _); omega) (fun _ h => by cases h) hargs.1 hargs.2
  refine ⟨w.heap.size + 1, [⟨.collected w.heap.size, #[]⟩], w1, ⟨.fn (.func gf) cs, fs ++ #[.func (.yield (w.heap.size + 1)) #[] #[]]⟩, w1, gf, fs ++ #[.func (.yield (w.heap.size + 1)) #[] #[]] ++ cs, w1, ?_, ?_, ?_, ?_⟩
  · rw [run_enterLoop_outer, hw1]
  · unfold resolve rangeCall
    simp only [hfv]
    simp [Deferred.ofValue, Act.eval]
  · exact run_callFunc hgf _
  · refine Calls.mono hcall ?_
    rintro e w' ⟨ρ', V', Z', hv1, hv2, ⟨v, σ', rfl, hnx, ⟨st, pend, vals', q1, q2, q3⟩, hS⟩ | ⟨v, x, σ', rfl, hnx, hk, hr, hS⟩⟩
    · obtain ⟨r, p1, p2, p3, p4⟩ := hS.setLp q1 .exhausted pend
      have p3' : r.pending = pend := p3
      have e1 : ({ r with state := .exhausted, pending := pend } : Loop) = { r with state := .exhausted } := by rw [← p3']
      rw [e1] at p4
      refine ⟨pend, _, by rw [← p3']; exact run_endLoop p1 (by rw [p2]; exact q2), ?_⟩
      have hS3 : Sat E ρ' V' Z' ⟨σ'.fr, updo σ'.hp σ.nx none, σ.nx + 1 + 1048576⟩ { a with defers := [⟨.collected w.heap.size, #[]⟩] ++ a.defers } (w'.putObj (w.heap.size + 1) (.loop { r with state := .exhausted })) := by
        have hsub : ∀ id o, updo σ'.hp σ.nx none id = some o → updo σ'.hp σ.nx (some (.lp ⟨w.heap.size + 1, fnn, ps, assign, body, E.nt, ts, .exhausted, pend⟩ vals')) id = some o := by
          intro id o ho
          simp only [updo] at ho ⊢
          split at ho
          · cases ho
          · rename_i e; rw [if_neg e]; exact ho
        exact ⟨p4.nt, p4.df, p4.fr, p4.hs.sub hsub, p4.ext, fun id o b ho => p4.ownd id o b (hsub id o ho), p4.z0, p4.zn, p4.pn⟩
      have hVb : ∀ id, V' id → id < σ.nx + 1 + 1048576 := by
        intro id hid
        rcases hv1 id hid with (h1 | h1) | h1
        · have := hV id h1; omega
        · omega
        · have h2 : id < σ.nx + 1 + 1048576 * 0 + 1048576 := h1.2
          omega
      cases pend with
      | none => exact ⟨ρ', V', Z', _, .norm, trivial, q3, hS3, fun _ => hVb⟩
      | some c =>
        cases c <;> try exact q3.elim
        · exact wpX_exit (Q := Post E Q) ⟨ρ', V', Z', _, .exit _, rfl, q3, hS3, fun _ => hVb⟩
        · exact wpX_ret (Q := Post E Q) ⟨ρ', V', Z', _, .ret, trivial, q3, hS3, fun _ => hVb⟩
    · exact ⟨ρ', V', Z', σ', .pan x, ⟨v, rfl, hr⟩, hk, hS, fun hx => absurd rfl (hx x)⟩
end Go.Am

namespace Go.Am
open Go
variable {P : Program} {E : En} {σ : St} {Q : AEx → St → Prop}
theorem Rel.sl_nil_inv {ρ : Nat → Ref} {V : Nat → Prop} {Z : Nat → Nat → Prop} {w : World} {v : Value} (h : Rel ρ V Z w v (.sl [])) : ∃ a n c, v = .slice a n c := by
 generalize hx : AV.sl [] = x at h
 cases h with
 | sl0 a cap => exact ⟨_, _, _, rfl⟩
 | sl b o cap sz l' cs h0 h1 h2 h3 => exact ⟨_, _, _, rfl⟩
 | _ => cases hx
theorem AW_nilq {id d0 d1 t0 : Nat} {ty te y0 y1 y2 : TypeId} {p1 p2 : String} {a1 a2 : Array Edge} {n' c' : Nat} (hu : P.underlying ty = some (.slice te)) (hd0 : d0 < E.nt) (hd1 : d1 < E.nt) (h01 : d0 ≠ d1) (h0 : σ.fr t0 = some (.sl []))
    (h : ∀ b, Q .norm ⟨upd (upd σ.fr d0 (.sl [])) d1 (.bool b), σ.hp, σ.nx⟩) :
    AW P E (.region id #[{ dst := some d0, op := .move (.tmp t0), type := y0, pos := p1, after := a1, guard := none }, { dst := some d1, op := .binOp .eql ty (.tmp d0) (.const (.slice none n' c')) y1, type := y2, pos := p2, after := a2, guard := none }] false) Q σ := by
  intro ρ V Z a w hs hV
  refine wpX_region ?_
  show wpOpsIn _ _ _ _ _ [0, 1] a w
  obtain ⟨x, n, c, hx⟩ := (hs.fr t0 _ h0).sl_nil_inv
  have hr0 := hs.fr t0 _ h0
  have e1 : a.eval (.tmp t0) = .slice x n c := hx
  rw [hx] at hr0
  have hlt : d0 < a.tmps.size := by rw [hs.nt]; exact hd0
  have hnd0 : ∀ n, some d0 = some n → n < E.nt := fun n hn => by cases hn; exact hd0
  have hnd1 : ∀ n, some d1 = some n → n < E.nt := fun n hn => by cases hn; exact hd1
  have s1 := hs.val hnd0 rfl rfl rfl hr0
  have e2 : (a.put (some d0) (.slice x n c)).eval (.tmp d0) = .slice x n c := by
    simp [Act.put, Act.eval, hlt]
  have s2 := s1.val (v := .bool x.isNone) (x := .bool x.isNone) hnd1 rfl rfl rfl (.bool _)
  show Oper.wpIn _ _ _ _ _ _ _ _
  refine wpIn_intro (res := .ok (.value (.slice x n c)) w) (fun c => by simp) ?_ ?_
  · change (execOp a.eval ({ dst := some d0, op := .move (.tmp t0), type := y0, pos := p1, after := a1, guard := none } : Oper)).run P w = _
    simp only [execOp, e1]
    rfl
  · show Oper.wpIn _ _ _ _ _ _ _ _
    refine wpIn_intro (res := .ok (.value (.bool x.isNone)) w) (fun c => by simp) ?_ ?_
    · change (execOp (a.put (some d0) (.slice x n c)).eval ({ dst := some d1, op := .binOp .eql ty (.tmp d0) (.const (.slice none n' c')) y1, type := y2, pos := p2, after := a2, guard := none } : Oper)).run P w = _
      simp only [execOp, e2]
      rw [show Act.eval (a.put (some d0) (.slice x n c)) (.const (.slice none n' c')) = .slice none n' c' from rfl]
      simp [Sem.run_bind, eqGuard_ok (P := P) (w := w) (op := .eql) (t := ty) (x := .tmp d0) (y := .const (.slice none n' c')) (a := .slice x n c) (b := .slice none n' c') ⟨(fun c h => by cases h), (fun h => by cases h)⟩, Go.Lib.run_eql_slice_nil w ty te x _ _ _ _ hu]
    · exact ⟨ρ, V, Z, _, .norm, trivial, h x.isNone, s2, fun _ => hV⟩
end Go.Am

namespace Go.Am
open Go
variable {P : Program} {E : En} {σ : St} {Q : AEx → St → Prop}
theorem Sat.sub {ρ : Nat → Ref} {V : Nat → Prop} {Z : Nat → Nat → Prop} {a : Act} {w : World} (h : Sat E ρ V Z σ a w) {τ : St} (hfr : τ.fr = σ.fr) (hhp : ∀ id o, τ.hp id = some o → σ.hp id = some o) : Sat E ρ V Z τ a w :=
 { h with fr := fun t x ht => h.fr t x (by rw [← hfr]; exact ht), hs := h.hs.sub hhp, ownd := fun id o b ho => h.ownd id o b (hhp id o ho) }
def putL (hp : Nat → Option AObj) (base : Nat) : List (Nat × AObj) → Nat → Option AObj
 | [] => hp
 | (i, o) :: L => updo (putL hp base L) (base + i) (some (o.ren (base + ·)))
@[go_sem] theorem putL_nil (hp : Nat → Option AObj) (base : Nat) : putL hp base [] = hp := rfl
@[go_sem] theorem putL_cons (hp : Nat → Option AObj) (base i : Nat) (o : AObj) (L : List (Nat × AObj)) : putL hp base ((i, o) :: L) = updo (putL hp base L) (base + i) (some (o.ren (base + ·))) := rfl
theorem putL_get {hp : Nat → Option AObj} {base : Nat} : ∀ {L : List (Nat × AObj)} {id : Nat} {o : AObj}, putL hp base L id = some o → (∃ j o', mkHp L j = some o' ∧ id = base + j ∧ o = o'.ren (base + ·)) ∨ hp id = some o
 | [], id, o, h => .inr h
 | (i, x) :: L, id, o, h => by
  rw [putL_cons] at h
  unfold updo at h
  split at h
  ·rename_i e
   refine .inl ⟨i, x, ?_, e, (Option.some.inj h).symm⟩
   simp [mkHp, updo]
  ·rename_i e
   rcases putL_get h with ⟨j, o', h1, h2, h3⟩ | h1
   ·refine .inl ⟨j, o', ?_, h2, h3⟩
    have : j ≠ i := fun e2 => e (by rw [h2, e2])
    simp [mkHp, updo, this, h1]
   ·exact .inr h1
theorem CallB.new {f : FuncId} {vs : List AV} {r0 : AV} {L : List (Nat × AObj)} {d : Option Nat} {k : Nat} {K : St → Prop} {Kp : AV → St → Prop} (hA : ACall P f vs (fun _ => none) 0 0 (fun r hp' => r = r0 ∧ hp' = mkHp L) (fun _ _ => False))
    (hvs : AV.cloL vs = true) (hr : r0.ids (· < 1048576)) (hL : ∀ p, p ∈ L → p.1 < 1048576 ∧ p.2.ids (· < 1048576))
    (hK : K ⟨(σ.put d (r0.ren ((σ.nx + 1048576 * k) + ·))).fr, putL σ.hp (σ.nx + 1048576 * k) L, σ.nx⟩) : CallB P f vs σ k d K Kp := by
  have hmem : ∀ id o, mkHp L id = some o → id < 1048576 ∧ o.ids (· < 1048576) := by
    intro id o ho
    obtain ⟨p, hp, rfl, rfl⟩ : ∃ p, p ∈ L ∧ p.1 = id ∧ p.2 = o := by
      clear hK hA hL
      induction L with
      | nil => cases ho
      | cons q L ih =>
        obtain ⟨i, x⟩ := q
        simp only [mkHp, updo] at ho
        split at ho
        · rename_i e
          exact ⟨(i, x), by simp, e.symm, Option.some.inj ho⟩
        · obtain ⟨p, h1, h2⟩ := ih ho
          exact ⟨p, List.mem_cons_of_mem _ h1, h2⟩
    exact hL p hp
  have hb := CallB.of_A (σ := σ) (k := k) (d := d) (Kp := Kp) (K := fun σ' => ∃ hp', Back σ σ' (fun i => i) (fun _ => none) 0 (σ.nx + 1048576 * k) d (some r0) hp' ∧ hp' = mkHp L) hA (fun i => i) (cloL_renL hvs).symm (cloL_idsL hvs)
    (fun id o h => by cases h) (fun id id' o o' h => by cases h) (fun id h => absurd h (Nat.not_lt_zero _))
    (by rintro r hp' ⟨rfl, rfl⟩; exact ⟨by simpa using hr, fun id o ho => by simpa using hmem id o ho⟩) (fun r hp' h => h.elim)
    (by rintro r hp' σ' ⟨rfl, rfl⟩ hB; exact ⟨_, hB, rfl⟩) (fun x hp' σ' h => h.elim)
  refine ⟨hb.1, fun E ρ V Z a w args hs hV hd hsz hrel => (hb.2 E ρ V Z a w args hs hV hd hsz hrel).mono ?_⟩
  rintro e w' ⟨ρ', V', Z', h1, h2, ⟨v, σ', he, hnx, ⟨hp', hB, rfl⟩, hS⟩ | h⟩
  · refine ⟨ρ', V', Z', h1, h2, .inl ⟨v, _, he, ?_, hK, hS.sub ?_ ?_⟩⟩
    · rfl
    · rw [hB.fr]
      have e1 : backM (fun i => i) 0 (σ.nx + 1048576 * k) = ((σ.nx + 1048576 * k) + ·) := by
        funext j; unfold backM; rw [if_neg (by omega)]; simp
      rw [e1]
    · intro id o ho
      have e1 : backM (fun i => i) 0 (σ.nx + 1048576 * k) = ((σ.nx + 1048576 * k) + ·) := by
        funext j; unfold backM; rw [if_neg (by omega)]; simp
      rcases putL_get ho with ⟨j, o', g1, rfl, rfl⟩ | g1
      · have := hB.obj j o' g1
        rw [e1] at this
        exact this
      · exact hB.old id o g1 (fun j hj => absurd rfl hj)
  · exact ⟨ρ', V', Z', h1, h2, .inr h⟩
theorem CallB.newP {fr : Nat → Option AV} {hp : Nat → Option AObj} {nx : Nat} {f : FuncId} {vs : List AV} {r0 : AV} {L : List (Nat × AObj)} {d : Option Nat} {k : Nat} {K : St → Prop} {Kp : AV → St → Prop} (hA : ACall P f vs (fun _ => none) 0 0 (fun r hp' => r = r0 ∧ hp' = mkHp L) (fun _ _ => False))
    (hvs : AV.cloL vs = true) (hr : r0.ids (· < 1048576)) (hL : ∀ p, p ∈ L → p.1 < 1048576 ∧ p.2.ids (· < 1048576))
    (hK : K ⟨(St.put ⟨fr, hp, nx⟩ d (r0.ren ((nx + 1048576 * k) + ·))).fr, putL hp (nx + 1048576 * k) L, nx⟩) : CallB P f vs ⟨fr, hp, nx⟩ k d K Kp := CallB.new hA hvs hr hL hK
theorem CallB.newRow {fr : Nat → Option AV} {hp : Nat → Option AObj} {nx : Nat} {f : FuncId} {vs : List AV} {sz : Nat} {l : List AV} {d : Option Nat} {k : Nat} {K : St → Prop} {Kp : AV → St → Prop} (hA : ACall P f vs (fun _ => none) 0 0 (fun r hp' => r = .rw 0 ∧ hp' = mkHp [(0, .row sz l)]) (fun _ _ => False))
    (hvs : AV.cloL vs = true) (hl : AV.cloL l = true) (hK : K ⟨(St.put ⟨fr, hp, nx⟩ d (.rw (nx + 1048576 * k))).fr, updo hp (nx + 1048576 * k) (some (.row sz l)), nx⟩) : CallB P f vs ⟨fr, hp, nx⟩ k d K Kp := by
  refine CallB.new hA hvs (by simp [AV.ids]) (by intro p hp; simp only [List.mem_cons, List.not_mem_nil, or_false] at hp; subst hp; exact ⟨by show 0 < 1048576; decide, by simp only [AObj.ids]; exact cloL_idsL hl⟩) ?_
  simp only [putL, AObj.ren, AV.ren, Nat.add_zero]
  rw [cloL_renL hl]
  exact hK
theorem CallB.newRows {fr : Nat → Option AV} {hp : Nat → Option AObj} {nx : Nat} {f : FuncId} {vs : List AV} {sz sz' : Nat} {l l' : List AV} {d : Option Nat} {k : Nat} {K : St → Prop} {Kp : AV → St → Prop} (hA : ACall P f vs (fun _ => none) 0 0 (fun r hp' => r = .agg [.rw 0, .rw 1] ∧ hp' = mkHp [(0, .row sz l), (1, .row sz' l')]) (fun _ _ => False))
    (hvs : AV.cloL vs = true) (hl : AV.cloL l = true) (hl' : AV.cloL l' = true) (hK : K ⟨(St.put ⟨fr, hp, nx⟩ d (.agg [.rw (nx + 1048576 * k), .rw (nx + 1048576 * k + 1)])).fr, updo (updo hp (nx + 1048576 * k + 1) (some (.row sz' l'))) (nx + 1048576 * k) (some (.row sz l)), nx⟩) : CallB P f vs ⟨fr, hp, nx⟩ k d K Kp := by
  refine CallB.new hA hvs (by simp [AV.ids, AV.idsL]) (by
    intro p hp; simp only [List.mem_cons, List.not_mem_nil, or_false] at hp
    rcases hp with rfl | rfl
    · exact ⟨by show 0 < 1048576; decide, by simp only [AObj.ids]; exact cloL_idsL hl⟩
    · exact ⟨by show 1 < 1048576; decide, by simp only [AObj.ids]; exact cloL_idsL hl'⟩) ?_
  simp only [putL, AObj.ren, AV.ren, AV.renL, Nat.add_zero]
  rw [cloL_renL hl, cloL_renL hl']
  exact hK
theorem AW_snpRow {c : Code} (X : Nat) {sz : Nat} {l : List AV} (l' : List AV) (hX : σ.hp X = some (.row sz l)) (hl : l'.length = l.length) (hs : ∀ i, i < l.length → Snp (fun _ => none) (l.getD i default) (l'.getD i default))
    (h : AW P E c Q ⟨σ.fr, updo σ.hp X (some (.row sz l')), σ.nx⟩) : AW P E c Q σ := by
  intro ρ V Z a w h0 hV
  refine h _ _ _ a w (h0.frz (F := fun _ => none) (fun id o ho => by cases ho) (fun t x' hx => ⟨x', hx, .inl rfl⟩) (fun id o' ho => ⟨rfl, ?_⟩)) hV
  simp only [updo] at ho
  split at ho
  · rename_i e
    subst e
    cases ho
    exact ⟨_, hX, rfl, hl, hs⟩
  · exact ⟨o', ho, SnpO.refl _⟩
theorem snp_set {F : Nat → Option AObj} {x x' : AV} (h : Snp F x x') (l : List AV) (n i : Nat) (hi : i < (l.set n x).length) : Snp F ((l.set n x).getD i default) ((l.set n x').getD i default) := by
 rw [List.length_set] at hi
 simp only [List.getD_eq_getElem?_getD, List.getElem?_set, hi]
 by_cases e : n = i
 ·subst e
  simpa [hi] using h
 ·simp only [e, if_false]
  exact .inl rfl
theorem ent_gen {np : Nat} {m : Nat → Nat} {fr : List (Nat × AV)} {hp' : Nat → Option AObj} {nx' : Nat} (h1 : ∀ p, p ∈ fr → σ.fr p.1 = some (p.2.ren m) ∧ p.2.ids (· < nx')) (h2 : ∀ id o, hp' id = some o → σ.hp (m id) = some (o.ren m) ∧ id < nx' ∧ o.ids (· < nx'))
    (h3 : ∀ id id' o o', hp' id = some o → hp' id' = some o' → m id = m id' → id = id') (h4 : ∀ id, id < np → m id = id ∧ id < nx') : Ent np m σ ⟨mkFr fr, hp', nx'⟩ :=
  ⟨fun t x ht => h1 (t, x) (mkFr_mem' ht), h2, h3, h4⟩
theorem ent_idG {np : Nat} {fr : List (Nat × AV)} {hp' : Nat → Option AObj} {nx' : Nat} (h1 : ∀ p, p ∈ fr → σ.fr p.1 = some p.2 ∧ p.2.ids (· < nx')) (h2 : ∀ id o, hp' id = some o → σ.hp id = some o ∧ id < nx' ∧ o.ids (· < nx'))
    (h4 : np ≤ nx') : Ent np (fun i => i) σ ⟨mkFr fr, hp', nx'⟩ :=
  ent_gen (fun p hp => by rw [ren_id]; exact h1 p hp) (fun id o ho => by rw [oren_id]; exact h2 id o ho) (fun _ _ _ _ _ _ h => h) (fun id hid => ⟨rfl, by omega⟩)
theorem objids_mono {p q : Nat → Prop} (ob : AObj) (h : ∀ i, p i → q i) (hx : ob.ids p) : ob.ids q := by
 cases ob with
 | cells l => exact idsL_imp h hx
 | row _ l => exact idsL_imp h hx
 | map es => exact fun z hz => ⟨ids_imp h (hx z hz).1, ids_imp h (hx z hz).2⟩
 | lp _ l => exact idsL_imp h hx
theorem CallY.use {fr : Nat → Option AV} {hp0 : Nat → Option AObj} {n0 : Nat} {f : Nat} {vs : List AV} {hp : Nat → Option AObj} {nx np : Nat} {R Rp : AV → (Nat → Option AObj) → Prop} (hA : YCall P f vs hp nx np R Rp) (m : Nat → Nat) {us : List AV} {k : Nat} {d : Option Nat} {K : St → Prop} {Kp : AV → St → Prop}
    (hus : us = AV.renL m vs) (hids : AV.idsL (· < nx) vs) (h1 : ∀ id o, hp id = some o → hp0 (m id) = some (o.ren m) ∧ id < nx ∧ o.ids (· < nx)) (h2 : ∀ id id' o o', hp id = some o → hp id' = some o' → m id = m id' → id = id')
    (h3 : ∀ id, id < np → id < nx ∧ hp id ≠ none)
    (hR : ∀ r hp', R r hp' → r.ids (· < np + 1048576) ∧ ∀ id o, hp' id = some o → id < np + 1048576 ∧ o.ids (· < np + 1048576))
    (hRp : ∀ r hp', Rp r hp' → r.ids (· < np + 1048576) ∧ ∀ id o, hp' id = some o → id < np + 1048576 ∧ o.ids (· < np + 1048576))
    (hK : ∀ r hp' fr' hpn, R r hp' → fr' = (St.put ⟨fr, hp0, n0⟩ d (r.ren (backM m np (n0 + 1048576 * k)))).fr → (∀ j o, hp' j = some o → hpn (backM m np (n0 + 1048576 * k) j) = some (o.ren (backM m np (n0 + 1048576 * k)))) →
      (∀ id o, hp0 id = some o → (∀ j, hp j ≠ none → m j ≠ id) → hpn id = some o) → K ⟨fr', hpn, n0⟩)
    (hKp : ∀ x hp' hpn, Rp x hp' → (∀ j o, hp' j = some o → hpn (backM m np (n0 + 1048576 * k) j) = some (o.ren (backM m np (n0 + 1048576 * k)))) →
      (∀ id o, hp0 id = some o → (∀ j, hp j ≠ none → m j ≠ id) → hpn id = some o) → Kp (x.ren (backM m np (n0 + 1048576 * k))) ⟨fr, hpn, n0⟩) : CallY P f us ⟨fr, hp0, n0⟩ k d K Kp :=
  CallY.of_Y hA m hus hids h1 h2 h3 hR hRp (fun r hp' σ' h hB => by
    obtain ⟨fr', hpn, nx'⟩ := σ'
    have := hB.nx
    simp only at this
    subst this
    exact hK r hp' fr' hpn h hB.fr hB.obj hB.old) (fun x hp' σ' h hB => by
    obtain ⟨fr', hpn, nx'⟩ := σ'
    have h1 := hB.nx
    have h2 := hB.fr
    simp only at h1 h2
    subst h1 h2
    exact hKp x hp' hpn h hB.obj hB.old)
theorem CallB.use {fr : Nat → Option AV} {hp0 : Nat → Option AObj} {n0 : Nat} {f : FuncId} {vs : List AV} {hp : Nat → Option AObj} {nx np : Nat} {R Rp : AV → (Nat → Option AObj) → Prop} (hA : ACall P f vs hp nx np R Rp) (m : Nat → Nat) {us : List AV} {k : Nat} {d : Option Nat} {K : St → Prop} {Kp : AV → St → Prop}
    (hus : us = AV.renL m vs) (hids : AV.idsL (· < nx) vs) (h1 : ∀ id o, hp id = some o → hp0 (m id) = some (o.ren m) ∧ id < nx ∧ o.ids (· < nx)) (h2 : ∀ id id' o o', hp id = some o → hp id' = some o' → m id = m id' → id = id')
    (h3 : ∀ id, id < np → id < nx ∧ hp id ≠ none)
    (hR : ∀ r hp', R r hp' → r.ids (· < np + 1048576) ∧ ∀ id o, hp' id = some o → id < np + 1048576 ∧ o.ids (· < np + 1048576))
    (hRp : ∀ r hp', Rp r hp' → r.ids (· < np + 1048576) ∧ ∀ id o, hp' id = some o → id < np + 1048576 ∧ o.ids (· < np + 1048576))
    (hK : ∀ r hp' fr' hpn, R r hp' → fr' = (St.put ⟨fr, hp0, n0⟩ d (r.ren (backM m np (n0 + 1048576 * k)))).fr → (∀ j o, hp' j = some o → hpn (backM m np (n0 + 1048576 * k) j) = some (o.ren (backM m np (n0 + 1048576 * k)))) →
      (∀ id o, hp0 id = some o → (∀ j, hp j ≠ none → m j ≠ id) → hpn id = some o) → K ⟨fr', hpn, n0⟩)
    (hKp : ∀ x hp' hpn, Rp x hp' → (∀ j o, hp' j = some o → hpn (backM m np (n0 + 1048576 * k) j) = some (o.ren (backM m np (n0 + 1048576 * k)))) →
      (∀ id o, hp0 id = some o → (∀ j, hp j ≠ none → m j ≠ id) → hpn id = some o) → Kp (x.ren (backM m np (n0 + 1048576 * k))) ⟨fr, hpn, n0⟩) : CallB P f us ⟨fr, hp0, n0⟩ k d K Kp :=
  CallB.of_A hA m hus hids h1 h2 h3 hR hRp (fun r hp' σ' h hB => by
    obtain ⟨fr', hpn, nx'⟩ := σ'
    have := hB.nx
    simp only at this
    subst this
    exact hK r hp' fr' hpn h hB.fr hB.obj hB.old) (fun x hp' σ' h hB => by
    obtain ⟨fr', hpn, nx'⟩ := σ'
    have h1 := hB.nx
    have h2 := hB.fr
    simp only at h1 h2
    subst h1 h2
    exact hKp x hp' hpn h hB.obj hB.old)
theorem backM_id_inj {np base : Nat} (hb : np ≤ base) {i j : Nat} (h : backM (fun i => i) np base i = backM (fun i => i) np base j) : i = j := by
 have g : ∀ i, backM (fun i => i) np base i = if i < np then i else base + (i - np) := fun i => rfl
 rw [g, g] at h
 split at h <;> split at h <;> omega
theorem backM_lt {m : Nat → Nat} {np base i : Nat} (h : i < np) : backM m np base i = m i := if_pos h
theorem backM_ge {m : Nat → Nat} {np base i : Nat} (h : np ≤ i) : backM m np base i = base + (i - np) := if_neg (by omega)
theorem cloL_getD : ∀ {l : List AV}, AV.cloL l = true → ∀ i, i < l.length → (l.getD i default).clo = true
 | [], _, i, hi => absurd hi (Nat.not_lt_zero _)
 | y :: l, h, 0, _ => by simp only [AV.cloL, Bool.and_eq_true] at h; simpa using h.1
 | y :: l, h, i + 1, hi => by
  simp only [AV.cloL, Bool.and_eq_true] at h
  simpa using cloL_getD h.2 i (by simpa using hi)
theorem PCall.of_A {f : FuncId} {vs : List AV} {r : AV} (hclo : AV.cloL vs = true) (hA : ACall P f vs (fun _ => none) 0 0 (fun r' hp' => r'.snapOk hp' ∧ r'.snap hp' = r ∧ r.clo = true) (fun _ _ => False)) : PCall P f vs r := by
 refine ⟨hA.1, fun ρ V Z w args hZ hsz hrel => ?_⟩
 have hno : ∀ b, OwnB ρ (fun _ => none) b → False := fun b ⟨id, o, h, _⟩ => by cases h
 refine (hA.2 ρ (fun _ => False) Z w args ⟨fun id o ho => (by cases ho), fun id id' o o' b ho => (by cases ho), fun id o b ho => (by cases ho), hZ⟩ (fun id hid => absurd hid (Nat.not_lt_zero _)) (fun id h => h.elim) hsz (fun i hi => clo_rel (hrel i hi) (cloL_getD hclo i hi) ρ _)).mono ?_
 rintro e w' ⟨ρ', V', Z', hp', k1, k2, k3, k4, k5, k6, ⟨v, r', rfl, h1, h2, h3, h4⟩ | ⟨_, _, _, _, h⟩⟩
 ·have hv3 := snap_rel (σ := ⟨fun _ => none, hp', 0⟩) k1 h1 h2
  rw [h3] at hv3
  have hv4 := clo_rel hv3 h4 ρ V
  refine ⟨v, _, rfl, hv4, ?_, fun b o hz => .inl (k4 b o hz), ?_⟩
  ·exact ⟨fun b hb hn => k2.old b hb (fun h => hno b h), k2.le, k2.os, k2.out, trivial⟩
  ·rintro b o (hz | ⟨id, ob, g1, g2⟩)
   ·rcases k5 b o hz with g | g | g
    ·exact .inl g
    ·exact .inr ⟨g, k1.lt b o hz⟩
    ·exact (hno b g).elim
   ·have g3 := (k1.obj id ob g1).2.lt b g2
    refine .inr ⟨?_, g3⟩
    rcases Nat.lt_or_ge b w.heap.size with g4 | g4
    ·exact (hno b (k6 id ob b g1 g2 g4)).elim
    ·exact g4
 ·exact h.elim
theorem PCall.introM {f : FuncId} {fn : Func} {c : Code} {vs : List AV} {r : AV} (hf : P.funcs[f]? = some fn) (hb : fn.body = some c) (hfn : isFn P f = true) (hn : vs.length ≤ fn.ntmps) (hclo : AV.cloL vs = true)
    (h : ∀ (E : En) (Q : AEx → St → Prop), E.nt = fn.ntmps → E.np = 0 → (E.rd = none ∧ E.mks = true ∧ E.ex = true) → (∀ σ, (∃ r', resA P fn.results.toList σ = some r' ∧ r'.snapOk σ.hp ∧ r'.snap σ.hp = r ∧ r.clo = true) → Q .ret σ ∧ Q .norm σ) → AW P E c Q ⟨mkPar 0 vs, mkHp [], 0⟩) : PCall P f vs r :=
  PCall.of_A hclo (ACall.of_bodyM hf hfn hb hn fun E Q h1 h2 h3 h4 h5 => h E Q h1 h2 h3 h4)
theorem ACallG.ent {Run : Array Value → World → (Ending → World → Prop) → Prop} (hmono : ∀ {args w} {R R' : Ending → World → Prop}, Run args w R → (∀ e w', R e w' → R' e w') → Run args w R') {vs : List AV} {hp : Nat → Option AObj} {nx np : Nat} {R Rp R' Rp' : AV → (Nat → Option AObj) → Prop} (hA : ACallG Run vs hp nx np R' Rp')
    (hR : ∀ r hp', R' r hp' → ∃ y m hc nc, r = y.ren m ∧ y.ids (· < nc) ∧ Ent np m ⟨fun _ => none, hp', 0⟩ ⟨fun _ => none, hc, nc⟩ ∧ R y hc)
    (hRp : ∀ r hp', Rp' r hp' → ∃ y m hc nc, r = y.ren m ∧ y.ids (· < nc) ∧ Ent np m ⟨fun _ => none, hp', 0⟩ ⟨fun _ => none, hc, nc⟩ ∧ Rp y hc) : ACallG Run vs hp nx np R Rp := by
  intro ρ V Z w args hh hnp hnx hsz hrel
  refine hmono (hA ρ V Z w args hh hnp hnx hsz hrel) ?_
  rintro e w' ⟨ρ', V', Z', hp', k1, k2, k3, k4, k5, k6, k7⟩
  have hS : Sat ⟨0, [], w, OwnB ρ hp, Z, np, ρ, none, true, true⟩ ρ' V' Z' ⟨fun _ => none, hp', 0⟩ { tmps := #[], defers := [] } w' :=
    ⟨rfl, ⟨[], rfl, ⟨by simp, by simp⟩, fun _ => rfl⟩, fun t x h => (by cases h), k1, k2, k6, k4, k5, k3⟩
  rcases k7 with ⟨v, r, rfl, h1, h2⟩ | ⟨v, x, rfl, h1, h2⟩
  · obtain ⟨y, m, hc, nc, rfl, hid, he, hR⟩ := hR r hp' h2
    have h5 := hS.ent he
    exact ⟨_, _, Z', hc, h5.hs, h5.ext, h5.pn, h5.z0, h5.zn, h5.ownd, .inl ⟨v, y, rfl, rel_ren m y v hid h1, hR⟩⟩
  · obtain ⟨y, m, hc, nc, rfl, hid, he, hR⟩ := hRp x hp' h2
    have h5 := hS.ent he
    exact ⟨_, _, Z', hc, h5.hs, h5.ext, h5.pn, h5.z0, h5.zn, h5.ownd, .inr ⟨v, y, rfl, rel_ren m y v hid h1, hR⟩⟩
theorem YCall.of_roundR {q : Lp} {frv vs : List AV} {hp : Nat → Option AObj} {nx np : Nat} {R Rp : AV → (Nat → Option AObj) → Prop} (rid : Nat) (hf : P.funcs[q.fn]? ≠ none) (hr : hp rid = some (.lp q frv)) (hrn : rid < np) (hst : q.st = .ready) (hvs : vs.length = q.ps.size) (hps : ∀ p, p ∈ q.ps.toList → p < q.nt)
    (h : ∀ (E : En) (Q : AEx → St → Prop), E.nt = q.nt → E.np = np → E.rd = some q.l →
      (∀ σ fr', σ.hp rid = some (.lp { q with st := .busy } fr') → (∃ m hc nc, Ent np m ⟨fun _ => none, updo σ.hp rid (some (.lp { q with st := .ready, pend := none } fr')), 0⟩ ⟨fun _ => none, hc, nc⟩ ∧ R (.bool true) hc) → Q .norm σ) →
      (∀ x σ, (∃ y m hc nc, x = y.ren m ∧ y.ids (· < nc) ∧ Ent np m σ ⟨fun _ => none, hc, nc⟩ ∧ Rp y hc) → Q (.pan x) σ) →
      AW P E q.assign (fun e σ' => match e with | .norm => ∃ fr', σ'.hp rid = some (.lp q fr') ∧ AW P E q.body Q ⟨σ'.fr, updo σ'.hp rid (some (.lp { q with st := .busy } fr')), σ'.nx⟩ | .pan x => ∃ y m hc nc, x = y.ren m ∧ y.ids (· < nc) ∧ Ent np m σ' ⟨fun _ => none, hc, nc⟩ ∧ Rp y hc | _ => False) ⟨roundFr q frv vs, hp, nx⟩) : YCall P q.l vs hp nx np R Rp := by
  refine ACallG.ent (Run := YRuns P q.l) (fun h hr => h.mono hr) (R' := fun r hp' => r = .bool true ∧ ∃ m hc nc, Ent np m ⟨fun _ => none, hp', 0⟩ ⟨fun _ => none, hc, nc⟩ ∧ R (.bool true) hc)
    (Rp' := fun x hp' => ∃ y m hc nc, x = y.ren m ∧ y.ids (· < nc) ∧ Ent np m ⟨fun _ => none, hp', 0⟩ ⟨fun _ => none, hc, nc⟩ ∧ Rp y hc)
    (YCall.of_round rid hf hr hrn hst hvs hps fun E Q h1 h2 h3 h4 h5 h6 h7 => ?_) ?_ ?_
  · refine (h E Q h1 h2 h3 (fun σ fr' hb hx => h4 σ fr' hb ⟨rfl, hx⟩) (fun x σ ⟨y, m, hc, nc, g1, g2, g3, g4⟩ => h7 x σ ⟨y, m, hc, nc, g1, g2, ⟨(fun t x h => by cases h), g3.2.1, g3.2.2.1, g3.2.2.2⟩, g4⟩)).mono ?_
    rintro e σ hq
    cases e with
    | norm => exact hq
    | pan x => obtain ⟨y, m, hc, nc, g1, g2, g3, g4⟩ := hq; exact ⟨y, m, hc, nc, g1, g2, ⟨(fun t x h => by cases h), g3.2.1, g3.2.2.1, g3.2.2.2⟩, g4⟩
    | ret => exact hq
    | exit j => exact hq
  · rintro r hp' ⟨rfl, m, hc, nc, he, hR⟩
    exact ⟨.bool true, m, hc, nc, rfl, trivial, he, hR⟩
  · exact fun x hp' h => h
end Go.Am

namespace Go.Am
open Go
variable {P : Program} {E : En} {ρ : Nat → Ref} {V : Nat → Prop} {Z : Nat → Nat → Prop} {σ : St} {a : Act} {w : World}
def DFinA (P : Program) (fn : Func) (g : FuncId) (k : Nat) (R0 : AV → (Nat → Option AObj) → Prop) (x : Option AV) (σ : St) : Prop :=
 k ≤ σ.nx ∧ (∀ y, x = some y → y.clo = true) ∧ (∀ t y, σ.fr t = some y → ∃ i, i < k ∧ y = .ptr i 0) ∧ (∀ id o, σ.hp id = some o → id < σ.nx ∧ o.ids (· < σ.nx)) ∧
  ∃ R, DCall P g (ptrs k) σ.hp σ.nx k x R ∧ ∀ hp', R hp' → ∃ r' hp2, resA P fn.results.toList ⟨σ.fr, hp', k⟩ = some r' ∧ (∀ id o, hp2 id = some o → hp' id = some o) ∧ R0 r' hp2
theorem ACall.of_defer {f g : FuncId} {fn : Func} {c0 c1 c : Code} {vs : List AV} {R0 : AV → (Nat → Option AObj) → Prop} {i1 d7 k : Nat} {caps : Array Operand} {ty1 ty2 : TypeId} {p1 p2 : String} {af1 af2 : Array Edge} {ts : Array TypeId}
    (hf : P.funcs[f]? = some fn) (hfn : isFn P f = true)
    (hb : fn.body = some (.seq c0 (.seq c1 (.seq (.region i1 #[⟨some d7, .makeFunc (.func g) #[] caps, ty1, p1, af1, none⟩, ⟨none, .defer ⟨.value (.tmp d7), #[], ts⟩, ty2, p2, af2, none⟩] false) c))))
    (hd7 : d7 < fn.ntmps) (hn : vs.length ≤ fn.ntmps) (σ1 : St) (hk : ∀ i, i < k → ∃ o, σ1.hp i = some o) (hcap : caps.toList.mapM (evA σ1) = some (ptrs k))
    (h0 : ∀ (E : En) (Q : AEx → St → Prop), E.nt = fn.ntmps → E.np = 0 → (∀ σ m, Ent 0 m σ σ1 → Q .norm σ) → AW P E c0 (thenQ (AW P E c1 Q) Q) ⟨mkPar 0 vs, mkHp [], 0⟩)
    (h1 : ∀ (E : En) (Q : AEx → St → Prop), E.nt = fn.ntmps → E.np = k → (∀ σ m σ3, Ent k m σ σ3 → DFinA P fn g k R0 none σ3 → Q .ret σ ∧ Q .norm σ) → (∀ x σ m σ3, Ent k m σ σ3 → DFinA P fn g k R0 (some x) σ3 → Q (.pan x) σ) → AW P E c Q ⟨upd σ1.fr d7 (.fn (.func g) [] (ptrs k)), σ1.hp, σ1.nx⟩) : ACall P f vs (mkHp []) 0 0 R0 (fun _ _ => False) := by
  refine ⟨hfn, fun ρ V Z w args hh hnp hnx hsz hrel => ?_⟩
  have hlen : args.size ≤ fn.ntmps := by omega
  have hsat := sat_startF (nx := 0) (np := 0) hn hh hnp hsz hrel
  have hown : ∀ b, ¬ OwnB ρ (mkHp []) b := by rintro b ⟨id, o, ho, _⟩; cases ho
  refine calls_of_wp_defers hf hb (wp_seq (wp_mono' ?_ (wpX_wp (h0 _ (fun e σ => e = .norm ∧ ∃ m, Ent 0 m σ σ1) rfl rfl (fun σ m he => ⟨rfl, m, he⟩) ρ V Z _ w hsat hnx))))
  rintro e a w1 ⟨ρ1, V1, Z1, σ, x, h1', h2, h3, h4⟩
  have hE0 : e = .normal ∧ x = .norm := by
    cases e <;> cases x <;> simp only [ExR] at h1'
    · exact ⟨rfl, rfl⟩
    · exact absurd h2.1 (by simp)
    · exact absurd h2.1 (by simp)
    · exact absurd h2.1 (by simp)
  obtain ⟨rfl, rfl⟩ := hE0
  show (Code.seq c1 _).wp P _ a w1
  refine wp_seq (wp_mono' ?_ (wpX_wp (h2 ρ1 V1 Z1 a w1 h3 (h4 (by simp)))))
  clear h1' h2 h3 h4 hsat hh
  rintro e a w1 ⟨ρ1, V1, Z1, σ, x, h1', ⟨rfl, m, he⟩, h3, h4⟩
  cases e <;> simp only [ExR] at h1'
  have hs1 := h3.ent he
  have hdf : a.defers = [] := h3.df.none rfl
  obtain ⟨hcs, hcr⟩ := evs_arr hs1 hcap
  have hrun1 : ∀ a : Act, (execOp a.eval ⟨some d7, .makeFunc (.func g) #[] caps, ty1, p1, af1, none⟩).run P w1 = .ok (.value (.func (.func g) #[] (caps.map a.eval))) w1 := fun a => by
    show (do pure (Next.value (← Instr.makeFunc (.func g) (#[].map a.eval) (caps.map a.eval))) : Sem Next).run P w1 = _
    simp [Instr.makeFunc]
  refine wp_seq (wp_region ?_)
  have e2 : List.range 2 = [0, 1] := rfl
  simp only [List.size_toArray, List.length_cons, List.length_nil, Nat.zero_add, Nat.reduceAdd, e2, wpOps]
  simp only [List.getElem?_toArray, List.getElem?_cons_zero, Region.wanted, if_true]
  refine .inl ?_
  unfold Oper.wp
  rw [hrun1]
  rw [Oper.upon_value]
  simp only [List.getElem?_toArray, List.getElem?_cons_succ, List.getElem?_cons_zero, Region.wanted, if_true]
  refine .inl ?_
  generalize hcv : caps.map a.eval = cv at *
  have hdget : (a.put (some d7) (.func (.func g) #[] cv)).eval (.tmp d7) = .func (.func g) #[] cv := by
    have : d7 < a.tmps.size := by rw [h3.nt]; exact hd7
    simp [Act.eval, Act.put, Array.getD_eq_getD_getElem?, this]
  have hrun2 : (execOp (a.put (some d7) (.func (.func g) #[] cv)).eval ⟨none, .defer ⟨.value (.tmp d7), #[], ts⟩, ty2, p2, af2, none⟩).run P w1 = .ok (.defer ⟨.fn (.func g) cv, #[]⟩) w1 := by
    show (do pure (Next.defer (← resolve (a.put (some d7) (.func (.func g) #[] cv)).eval ⟨.value (.tmp d7), #[], ts⟩ ty2)) : Sem Next).run P w1 = _
    unfold resolve
    simp only [hdget]
    simp [Deferred.ofValue]
  rw [hrun2, Oper.upon_defer]
  show c.wp P _ _ w1
  have hown2 : OwnB ρ (mkHp []) = fun _ => False := by funext b; simp [hown b]
  rw [hown2] at hs1
  have hrelf : Rel (fun i => ρ1 (m i)) (fun i => i < σ1.nx ∧ V1 (m i)) Z1 w1 (.func (.func g) #[] cv) (.fn (.func g) [] (ptrs k)) :=
    .fn _ _ _ _ _ rfl (by rw [hcs]) (fun i hi => absurd hi (Nat.not_lt_zero _)) hcr
  have hs2 := hs1.val (d := some d7) (w' := w1) (fun n hn => by cases hn; exact hd7) rfl rfl rfl hrelf
  have hVk : ∀ id, id < k → id < σ1.nx ∧ V1 (m id) := fun id hid => by obtain ⟨o, ho⟩ := hk id hid; exact (hs1.hs.obj id o ho).1
  have hs3 : Sat ⟨fn.ntmps, [⟨.fn (.func g) cv, #[]⟩], w, fun _ => False, Z, k, fun i => ρ1 (m i), none, false, false⟩ (fun i => ρ1 (m i)) (fun i => i < σ1.nx ∧ V1 (m i)) Z1 ⟨upd σ1.fr d7 (.fn (.func g) [] (ptrs k)), σ1.hp, σ1.nx⟩
      { (a.put (some d7) (.func (.func g) #[] cv)) with defers := ⟨.fn (.func g) cv, #[]⟩ :: (a.put (some d7) (.func (.func g) #[] cv)).defers } w1 :=
    ⟨hs2.nt, ⟨[], by rw [putD, hdf]; rfl, ⟨by simp, by simp⟩, fun _ => rfl⟩, hs2.fr, hs2.hs, hs2.ext, hs2.ownd, hs2.z0, hs2.zn, fun id hid => ⟨hVk id hid, rfl⟩⟩
  have hbody := h1 _ (fun e σ => match e with | .ret | .norm => ∃ m σ3, Ent k m σ σ3 ∧ DFinA P fn g k R0 none σ3 | .pan x => ∃ m σ3, Ent k m σ σ3 ∧ DFinA P fn g k R0 (some x) σ3 | .exit _ => False) rfl rfl (fun σ m σ3 h1 h2 => ⟨⟨m, σ3, h1, h2⟩, ⟨m, σ3, h1, h2⟩⟩) (fun x σ m σ3 h1 h2 => ⟨m, σ3, h1, h2⟩) _ _ Z1 _ w1 hs3 (fun id hid => hid.1)
  refine wp_mono' ?_ (wpX_wp hbody)
  rintro e a2 w2 ⟨ρ2, V2, Z2, σ2, x2, k1, k2, k3, k4⟩
  have hfin : ∀ (x : Option AV) (u : FrameMode) (m3 : Nat → Nat) (σ3 : St), u ≠ .run → Ent k m3 σ2 σ3 → DFinA P fn g k R0 x σ3 → ModeR ρ2 V2 Z2 w2 u x → Leaves P fn a2.tmps (fun e w' => ∃ ρ' V' Z' hp', HSat ρ' V' Z' w' hp' ∧ Ext w w' (OwnB ρ (mkHp [])) ∧ (∀ id, id < 0 → V' id ∧ ρ' id = ρ id) ∧ (∀ b o, Z b o → Z' b o) ∧ (∀ b o, Z' b o → Z b o ∨ w.heap.size ≤ b ∨ OwnB ρ (mkHp []) b) ∧ (∀ id o b, hp' id = some o → (ρ' id).at b → b < w.heap.size → OwnB ρ (mkHp []) b) ∧
      ((∃ v r, e = .returned v ∧ Rel ρ' V' Z' w' v r ∧ R0 r hp') ∨ ∃ v x, e = .panicked [{ v, recovered := false }] ∧ Rel ρ' V' Z' w' v x ∧ False)) a2.defers u w2 := by
    rw [hown2]
    intro x u m3 σ3 hu he3 hD hmode0
    have hmode : ModeR (fun i => ρ2 (m3 i)) (fun i => i < σ3.nx ∧ V2 (m3 i)) Z2 w2 u x := by
      cases x with
      | none => exact hmode0
      | some y =>
        obtain ⟨v, q1, q2⟩ := hmode0
        exact ⟨v, q1, clo_rel q2 (hD.2.1 y rfl) _ _⟩
    have k3 := k3.ent he3
    clear hmode0 k4 he3
    revert hmode k3 hD
    generalize hV3 : (fun i => i < σ3.nx ∧ V2 (m3 i)) = V2
    generalize hr3 : (fun i => ρ2 (m3 i)) = ρ2
    generalize σ3 = σ2
    intro hD hmode k3
    obtain ⟨g1, g2, g3, g4, R, ⟨gf, gD⟩, g6⟩ := hD
    rw [k3.df.none rfl]
    refine leaves_cons (f := g) (args := #[] ++ cv) hu (run_callFunc gf _) ?_
    have hpn : ∀ id, id < k → V2 id ∧ ρ2 id = ρ1 (m id) := fun id hid => k3.pn id hid
    have hs4 : HSat ρ2 (fun i => i < σ2.nx ∧ V2 i) Z2 w2 σ2.hp := by
      refine ⟨fun id o ho => ?_, k3.hs.inj, k3.hs.sep, k3.hs.lt⟩
      obtain ⟨q1, q2⟩ := k3.hs.obj id o ho
      have q3 := obj_fwd (ρ' := ρ2) (V' := fun i => i < σ2.nx ∧ V2 i) (fun i => i) (n := σ2.nx) (fun id hid hv => ⟨⟨hid, hv⟩, rfl⟩) (g4 id o ho).1 q1 (g4 id o ho).2 q2
      rw [oren_id] at q3
      exact ⟨⟨(g4 id o ho).1, q1⟩, q3⟩
    have hmode' : ModeR ρ2 (fun i => i < σ2.nx ∧ V2 i) Z2 w2 u x := by
      cases x with
      | none => exact hmode
      | some y =>
        obtain ⟨v, q1, q2⟩ := hmode
        exact ⟨v, q1, clo_rel q2 (g2 y rfl) _ _⟩
    rw [ptrs_len] at hcs hcr
    refine (gD ρ2 (fun i => i < σ2.nx ∧ V2 i) Z2 w2 (#[] ++ cv) u hs4 (fun id hid => ⟨Nat.lt_of_lt_of_le hid g1, (hpn id hid).1⟩) (fun id h => h.1) (by rw [ptrs_len]; simpa using hcs) (fun i hi => ?_) hmode').mono ?_
    · rw [ptrs_len] at hi
      rw [ptrs_getD hi]
      have q1 := hcr i hi
      rw [ptrs_getD hi] at q1
      obtain ⟨q2, _⟩ := q1.ptr_inv
      simp only [Array.empty_append]
      rw [q2, ← (hpn i hi).2]
      exact .ptr i 0 ⟨Nat.lt_of_lt_of_le hi g1, (hpn i hi).1⟩
    · rintro e u' w3 ⟨⟨v0, rfl⟩, q1, ρ3, V3, Z3, hp3, q2, q3, q4, q5, q6, q7, q8⟩
      show Leaves P fn a2.tmps _ [] (settle u') w3
      rw [q1]
      obtain ⟨r', hp4, p1, hsub, p2⟩ := g6 hp3 q8
      have hownb : ∀ b, OwnB ρ2 σ2.hp b → b < w2.heap.size ∧ ¬ b < w.heap.size := by
        rintro b ⟨id, o, ho, hb⟩
        exact ⟨(k3.hs.obj id o ho).2.lt b hb, fun hlt => k3.ownd id o b ho hb hlt⟩
      have hext : Ext w w3 (fun _ => False) := k3.ext.trans q3 (fun b hb hlt => (hownb b hb).2 hlt) (fun b hb => (hownb b hb).1)
      have hs5 : Sat ⟨fn.ntmps, a2.defers, w, fun _ => False, Z, 0, ρ, none, false, false⟩ ρ3 V3 Z3 ⟨σ2.fr, hp3, k⟩ a2 w3 := by
        refine ⟨k3.nt, ⟨[], rfl, ⟨by simp, by simp⟩, fun _ => rfl⟩, fun t y hy => ?_, q2, hext, fun id o b ho hb hlt => ?_, fun b o hz => q5 _ _ (k3.z0 b o hz), fun b o hz => ?_, fun id hid => absurd hid (Nat.not_lt_zero _)⟩
        · obtain ⟨i, hi, rfl⟩ := g3 t y hy
          obtain ⟨p5, _⟩ := (k3.fr t _ hy).ptr_inv
          rw [p5, ← (q4 i hi).2]
          exact .ptr i 0 (q4 i hi).1
        · exact (hownb b (q7 id o b ho hb (Nat.lt_of_lt_of_le hlt k3.ext.le))).2 hlt
        · rcases q6 b o hz with p | p | p
          · exact k3.zn b o p
          · exact .inr (.inl (Nat.le_trans k3.ext.le p))
          · exact .inr (.inl (Nat.le_of_not_lt (hownb b p).2))
      obtain ⟨v, hv1, hv2⟩ := results_run hs5 p1
      refine ⟨v, hv1, ρ3, V3, Z3, hp4, q2.sub hsub, hext, fun id hid => absurd hid (Nat.not_lt_zero _), fun b o hz => hs5.z0 b o hz, fun b o hz => ?_, fun id o b ho hb hlt => (hownb b (q7 id o b (hsub id o ho) hb (Nat.lt_of_lt_of_le hlt k3.ext.le))).2 hlt, .inl ⟨v, r', rfl, hv2, p2⟩⟩
      rcases hs5.zn b o hz with p | p | p
      · exact .inl p
      · exact .inr (.inl p)
      · exact p.elim
  cases e <;> cases x2 <;> simp only [ExR] at k1
  · obtain ⟨m3, σ3, h3, h4⟩ := k2; exact hfin none .returning m3 σ3 (by simp) h3 h4 rfl
  · exact k2.elim
  · obtain ⟨m3, σ3, h3, h4⟩ := k2; exact hfin none .returning m3 σ3 (by simp) h3 h4 rfl
  · obtain ⟨v, rfl, hv⟩ := k1
    obtain ⟨m3, σ3, h3, h4⟩ := k2
    exact hfin (some _) (.panicking _) m3 σ3 (by simp) h3 h4 ⟨v, rfl, hv⟩
theorem K_two {Q : AEx → St → Prop} {c0 c1 : Code} (h : AW P E c0 (Kq P E [.code c1] Q) σ) : AW P E c0 (thenQ (AW P E c1 Q) Q) σ := by
 have e : Kq P E [Fm.code c1] Q = thenQ (AW P E c1 Q) Q := by simp only [Kq]
 rw [← e]
 exact h
end Go.Am

namespace Go.Am
open Go
open Go.ChangeMaps (setBlock)
variable {P : Program} {E : En} {ρ : Nat → Ref} {V : Nat → Prop} {Z : Nat → Nat → Prop} {σ : St} {a : Act} {w : World}
theorem Sat.beside (h : Sat E ρ V Z σ a w) {r : Nat} {w' : World} (hr : E.w0.heap.size ≤ r) (hno : ∀ id o, σ.hp id = some o → ¬ (ρ id).at r) (hZr : ∀ o, ¬ Z r o) (hk : ∀ ds, w.heap[r]? ≠ some (.deferred ds))
    (hc : ∀ b, b < w.heap.size → b ≠ r → w'.heap[b]? = w.heap[b]?) (hle : w.heap.size ≤ w'.heap.size) (hos : w'.os = w.os) (hout : w'.output = w.output) : Sat E ρ V Z σ a w' := by
  have hcell : ∀ b o, Z b o → w'.cell? ⟨b, o, none⟩ = w.cell? ⟨b, o, none⟩ := fun b o hz => cell?_of_heap (hc b (h.hs.lt b o hz) (fun e => hZr o (e ▸ hz)))
  refine ⟨h.nt, ?_, fun t x hx => (h.fr t x hx).mono (fun _ _ => rfl) (fun _ h => h) (fun _ _ h => h) hcell, ⟨fun id o ho => ?_, h.hs.inj, h.hs.sep, fun b o hz => Nat.lt_of_lt_of_le (h.hs.lt b o hz) hle⟩, ⟨fun b hb hno2 => ?_, Nat.le_trans h.ext.le hle, hos.trans h.ext.os, hout.trans h.ext.out, trivial⟩, h.ownd, h.z0, h.zn, h.pn⟩
  · obtain ⟨M, m1, ⟨m2, m3⟩, m4⟩ := h.df
    refine ⟨M, m1, ⟨m2, fun d hd => ?_⟩, m4⟩
    obtain ⟨b, e, hb, hw⟩ := m3 d hd
    refine ⟨b, e, ?_, hw⟩
    have hlt : b < w.heap.size := (Array.getElem?_eq_some_iff.1 hb).1
    rw [hc b hlt (fun e => hk _ (e ▸ hb))]
    exact hb
  · obtain ⟨g1, g2⟩ := h.hs.obj id o ho
    exact ⟨g1, g2.mono g1 (fun _ _ => rfl) (fun _ h => h) (fun _ _ h => h) hcell (fun b hb => hc b (g2.lt b hb) (fun e => hno id o ho (e ▸ hb)))⟩
  · rw [hc b (Nat.lt_of_lt_of_le hb h.ext.le) (by omega)]
    exact h.ext.old b hb hno2
theorem Sat.slot (h : Sat E ρ V Z σ a w) {t : Nat} (ht : σ.fr t = none) (v : Value) : Sat E ρ V Z σ (a.put (some t) v) w := by
 refine ⟨by rw [putS]; exact h.nt, ?_, fun t' x hx => ?_, h.hs, h.ext, h.ownd, h.z0, h.zn, h.pn⟩
 ·obtain ⟨M, m1, m2, m3⟩ := h.df
  exact ⟨M, by rw [putD]; exact m1, m2, m3⟩
 ·have hne : t' ≠ t := fun e => by rw [e, ht] at hx; cases hx
  have : (a.put (some t) v).tmps.getD t' undef = a.tmps.getD t' undef := by
   simp [Act.put, Array.getD_eq_getD_getElem?, Array.getElem?_setIfInBounds, Ne.symm hne]
  rw [this]
  exact h.fr t' x hx
theorem put_eval_same {a : Act} {t : Nat} {v : Value} (ht : t < a.tmps.size) : (a.put (some t) v).eval (.tmp t) = v := by
 simp [Act.put, Act.eval, ht]
theorem put_eval_ne {a : Act} {t t' : Nat} {v : Value} (h : t' ≠ t) : (a.put (some t) v).eval (.tmp t') = a.eval (.tmp t') := by
 simp [Act.put, Act.eval, Array.getElem?_setIfInBounds, Ne.symm h, Array.getD_eq_getD_getElem?]
theorem ObjRel.noit {id : Nat} {o : AObj} (h : ObjRel ρ V Z w id o) {b : Nat} (hb : (ρ id).at b) (m : Option Nat) (s : Nat) (l : Array Nat) (c : Nat) : w.heap[b]? ≠ some (.mapIter m s l c) := by
 obtain ⟨hn, rfl⟩ := hb
 cases o with
 | cells l => obtain ⟨_, cs, ty, h1, _⟩ := h; rw [h1]; simp
 | row sz l =>
  rcases h with ⟨h0, _⟩ | ⟨_, cs, ty, h1, _⟩
  ·rw [hn] at h0; cases h0
  ·rw [h1]; simp
 | map es => obtain ⟨_, cs, ty, h1, _⟩ := h; rw [h1]; simp
 | lp q l => obtain ⟨_, _, tmps, ds, h1, _⟩ := h; rw [h1]; simp
structure ItR (ents : Array MapEntry) (seen : Array Nat) (n : Nat) (done : List Nat) : Prop where
 sz : ents.size = n
 nd : done.Nodup
 lt : ∀ j, j ∈ done → j < n
 iff : ∀ j e, ents[j]? = some e → (seen.contains e.born = true ↔ j ∈ done)
theorem ItR.step {ents : Array MapEntry} {seen : Array Nat} {n : Nat} {done : List Nat} (h : ItR ents seen n done) (hst : (ents.toList.map (·.born)).Nodup) {j : Nat} {e : MapEntry} (he : ents[j]? = some e) (hj : j ∉ done) : ItR ents (seen.push e.born) n (done ++ [j]) := by
 refine ⟨h.sz, ?_, fun i hi => ?_, fun i e' he' => ?_⟩
 ·rw [List.nodup_append]
  exact ⟨h.nd, by simp, fun x hx y hy => by simp only [List.mem_singleton] at hy; subst hy; exact fun e => hj (e ▸ hx)⟩
 ·rcases List.mem_append.1 hi with hi | hi
  ·exact h.lt i hi
  ·simp only [List.mem_singleton] at hi
   subst hi
   rw [← h.sz]
   exact (Array.getElem?_eq_some_iff.1 he).1
 ·rw [contains_push, Bool.or_eq_true, h.iff i e' he', List.mem_append, List.mem_singleton]
  refine or_congr Iff.rfl ?_
  rw [beq_iff_eq]
  constructor
  ·intro hb
   have h1 : (ents.toList.map (·.born))[i]? = some e'.born := by rw [List.getElem?_map, Array.getElem?_toList, he']; rfl
   have h2 : (ents.toList.map (·.born))[j]? = some e.born := by rw [List.getElem?_map, Array.getElem?_toList, he]; rfl
   have hi : i < (ents.toList.map (·.born)).length := (List.getElem?_eq_some_iff.1 h1).1
   exact (List.getElem?_inj hi hst).1 (by rw [h1, h2, hb])
  ·rintro rfl
   rw [he] at he'
   cases he'
   rfl
def roundSt (frs : Nat → Option AV) (it kt N : Nat) (hp : Nat → Option AObj) (k : AV) : St := ⟨upd (upd frs it (.ptr N 0)) kt k, hp, N + 1⟩
theorem body_env {frs : Nat → Option AV} {hp : Nat → Option AObj} {X N : Nat} {es : List (AV × AV)} (h : Sat E ρ V Z ⟨frs, updo hp X (some (.map es)), N⟩ a w) (hV : ∀ id, V id → id < N) (hnp : E.np ≤ N) (hall : ∀ id, id < N → V id) (hX : X < N) (hpX : hp X = none) (hes : (AObj.map es).ids (· < N))
    (hfrs : ∀ t x, frs t = some x → x.ids (· < N)) (hH : ∀ id o, hp id = some o → id < N ∧ o.ids (· < N)) {it kt : Nat} (hit0 : frs it = none) {k : AV} {r since : Nat} {seen : Array Nat} {c0 : Nat} (hk : k.clo = true)
    (hkr : Rel ρ V Z w (a.eval (.tmp kt)) k) (hit : a.eval (.tmp it) = .pointer (some ⟨r, 0, none⟩)) (hir : w.heap[r]? = some (.mapIter (some (ρ X).blk) since seen c0)) (hZr : ∀ o, ¬ Z r o) (hr0 : E.w0.heap.size ≤ r)
    {c : Code} {hp2 : Nat → Option AObj} (hH2 : ∀ id o, hp2 id = some o → id < N ∧ id ≠ X ∧ o.ids (· < N)) {Q : Exit → Act → World → Prop}
    (hb : ∀ E' : En, E'.nt = E.nt → E'.np = N + 1 → AW P E' c (fun e σ' => e = .norm ∧ ∃ m, Ent (N + 1) m σ' ⟨upd frs it (.ptr N 0), hp2, N + 1⟩) (roundSt frs it kt N hp k))
    (hQ : ∀ ρ' V' Z' a' w', Sat E ρ' V' Z' ⟨frs, updo hp2 X (some (.map es)), N⟩ a' w' → (∀ id, V' id → id < N) → (∀ id, id < N → V' id ∧ ρ' id = ρ id) → a'.eval (.tmp it) = .pointer (some ⟨r, 0, none⟩) → w'.heap[r]? = w.heap[r]? → w'.heap[(ρ X).blk]? = w.heap[(ρ X).blk]? → (∀ o, ¬ Z' r o) → Q .normal a' w') :
    wpX P E.rd E.ex c Q a w := by
  have hrlt : r < w.heap.size := (Array.getElem?_eq_some_iff.1 hir).1
  have hXo : updo hp X (some (.map es)) X = some (.map es) := by simp [updo]
  have hsub : ∀ id o, hp id = some o → updo hp X (some (.map es)) id = some o := fun id o ho => by
    have : id ≠ X := fun e => by rw [e, hpX] at ho; cases ho
    simp [updo, this, ho]
  have hXobj := h.hs.obj X _ hXo
  have hXnil : (ρ X).nil = false := hXobj.2.1
  have hXlt : (ρ X).blk < w.heap.size := hXobj.2.lt _ ⟨hXnil, rfl⟩
  have hXno : ∀ id o, hp id = some o → ¬ (ρ id).at (ρ X).blk := fun id o ho hat => by
    have := h.hs.inj id X o _ _ (hsub id o ho) hXo hat ⟨hXnil, rfl⟩
    rw [this, hpX] at ho; cases ho
  have hrno : ∀ id o, updo hp X (some (.map es)) id = some o → ¬ (ρ id).at r := fun id o ho hat => (h.hs.obj id o ho).2.noit hat _ _ _ _ hir
  let ρ' : Nat → Ref := fun i => if i = N then { blk := r } else ρ i
  let V' : Nat → Prop := fun i => V i ∨ i = N
  have hρ : ∀ id, V id → ρ' id = ρ id := fun id hid => if_neg (by have := hV id hid; omega)
  let E' : En := ⟨E.nt, a.defers, w, OwnB ρ hp, Z, N + 1, ρ', E.rd, false, E.ex⟩
  have hfr' : ∀ t x, (roundSt frs it kt N hp k).fr t = some x → Rel ρ' V' Z w (a.tmps.getD t undef) x := by
    intro t x hx
    simp only [roundSt, upd] at hx
    split at hx
    · rename_i e
      cases hx
      have : a.tmps.getD t undef = a.eval (.tmp kt) := by rw [e]; simp [Act.eval, Array.getD_eq_getD_getElem?]
      rw [this]
      exact clo_rel hkr hk _ _
    · split at hx
      · rename_i e
        cases hx
        have : a.tmps.getD t undef = .pointer (some ⟨r, 0, none⟩) := by rw [← hit, e]; simp [Act.eval, Array.getD_eq_getD_getElem?]
        rw [this]
        have e2 : (ρ' N).blk = r := by simp [ρ']
        have := Rel.ptr (ρ := ρ') (V := V') (Z := Z) (w := w) N 0 (.inr rfl)
        rw [e2] at this
        exact this
      · exact (h.fr t x hx).mono hρ (fun _ h => .inl h) (fun _ _ h => h) (fun _ _ _ => rfl)
  have hS' : Sat E' ρ' V' Z (roundSt frs it kt N hp k) a w := by
    refine ⟨h.nt, ⟨[], rfl, ⟨by simp, by simp⟩, fun _ => rfl⟩, hfr', ⟨fun id o ho => ?_, fun id id' o o' b ho ho' hb hb' => ?_, fun id o b ho hb => ?_, h.hs.lt⟩, ⟨fun _ _ _ => rfl, Nat.le_refl _, rfl, rfl, trivial⟩, fun id o b ho hb hlt => ?_, fun _ _ h => h, fun _ _ h => .inl h, fun id hid => ⟨?_, rfl⟩⟩
    · obtain ⟨g1, g2⟩ := h.hs.obj id o (hsub id o ho)
      exact ⟨.inl g1, g2.mono g1 hρ (fun _ h => .inl h) (fun _ _ h => h) (fun _ _ _ => rfl) (fun _ _ => rfl)⟩
    · rw [hρ id (h.hs.obj id o (hsub id o ho)).1] at hb
      rw [hρ id' (h.hs.obj id' o' (hsub id' o' ho')).1] at hb'
      exact h.hs.inj id id' o o' b (hsub id o ho) (hsub id' o' ho') hb hb'
    · rw [hρ id (h.hs.obj id o (hsub id o ho)).1] at hb
      exact h.hs.sep id o b (hsub id o ho) hb
    · rw [hρ id (h.hs.obj id o (hsub id o ho)).1] at hb
      exact ⟨id, o, ho, hb⟩
    · have hid' : id < N + 1 := hid
      by_cases e : id = N
      · exact .inr e
      · exact .inl (hall id (by omega))
  have hbody := hb E' rfl rfl ρ' V' Z a w hS' (fun id hid => by rcases hid with h1 | h1 <;> first | (have := hV id h1; show id < N + 1; omega) | (show id < N + 1; omega))
  refine wpX_mono ?_ hbody
  rintro e a2 w2 ⟨ρ2, V2, Z2, σ2, x2, k1, ⟨rfl, m, he⟩, k3, k4⟩
  cases e <;> simp only [ExR] at k1
  have k5 := k3.ent he
  generalize hr3 : (fun i => ρ2 (m i)) = ρ3 at k5
  generalize hV3 : (fun i => i < (⟨upd frs it (.ptr N 0), hp2, N + 1⟩ : St).nx ∧ V2 (m i)) = V3 at k5
  have hpn : ∀ id, id < N → V3 id ∧ ρ3 id = ρ id := fun id hid => by
    obtain ⟨g1, g2⟩ := k5.pn id (show id < N + 1 by omega)
    exact ⟨g1, g2.trans (if_neg (by omega))⟩
  have hownlt : ∀ b, OwnB ρ hp b → b < E.w0.heap.size → E.own b := by
    rintro b ⟨id, o, g1, g2⟩ hlt
    exact h.ownd id o b (hsub id o g1) g2 hlt
  have hown : ∀ b, OwnB ρ hp b → b < w.heap.size := by
    rintro b ⟨id, o, g1, g2⟩
    exact (h.hs.obj id o (hsub id o g1)).2.lt b g2
  have hkeep : ∀ b, b < w.heap.size → ¬ OwnB ρ hp b → w2.heap[b]? = w.heap[b]? := k5.ext.old
  have hkr : w2.heap[r]? = w.heap[r]? := hkeep r hrlt (fun ⟨id, o, g1, g2⟩ => hrno id o (hsub id o g1) g2)
  have hkX : w2.heap[(ρ X).blk]? = w.heap[(ρ X).blk]? := hkeep _ hXlt (fun ⟨id, o, g1, g2⟩ => hXno id o g1 g2)
  have hZ : ∀ b o, Z b o → Z2 b o := k5.z0
  have hcell : ∀ b o, Z b o → w2.cell? ⟨b, o, none⟩ = w.cell? ⟨b, o, none⟩ := fun b o hz => cell?_of_heap (hkeep b (h.hs.lt b o hz) (fun ⟨id, ob, g1, g2⟩ => h.hs.sep id ob b (hsub id ob g1) g2 o hz))
  have hXobj2 : ObjRel ρ3 V3 Z2 w2 X (.map es) := hXobj.2.mono hXobj.1 (fun id hid => (hpn id (hV id hid)).2) (fun id hid => (hpn id (hV id hid)).1) hZ hcell (fun b hb => by rw [← hb.2]; exact hkX)
  have hZ2n : ∀ b o, Z2 b o → Z b o ∨ w.heap.size ≤ b ∨ OwnB ρ hp b := k5.zn
  have hXZ : ∀ o, ¬ Z2 (ρ X).blk o := fun o hz => by
    rcases hZ2n _ o hz with g | g | ⟨id, ob, g1, g2⟩
    · exact h.hs.sep X _ _ hXo ⟨hXnil, rfl⟩ o g
    · omega
    · exact hXno id ob g1 g2
  have hXno2 : ∀ id o, hp2 id = some o → ¬ (ρ3 id).at (ρ X).blk := fun id o ho hat => by
    obtain ⟨i, ob, g1, g2⟩ := k5.ownd id o _ ho hat hXlt
    exact hXno i ob g1 g2
  have hEXT : Ext E.w0 w2 E.own := h.ext.trans k5.ext hownlt hown
  have hfull : Sat E ρ3 (fun i => i < N ∧ V3 i) Z2 ⟨frs, updo hp2 X (some (.map es)), N⟩ a2 w2 := by
    have hobj : ∀ id o, hp2 id = some o → ObjRel ρ3 (fun i => i < N ∧ V3 i) Z2 w2 id o := fun id o ho => by
      obtain ⟨g1, g2⟩ := k5.hs.obj id o ho
      obtain ⟨g3, _, g4⟩ := hH2 id o ho
      have := obj_fwd (ρ' := ρ3) (V' := fun i => i < N ∧ V3 i) (fun i => i) (n := N) (fun id hid hv => ⟨⟨hid, hv⟩, rfl⟩) g3 g1 g4 g2
      rw [oren_id] at this
      exact this
    have hXobj3 : ObjRel ρ3 (fun i => i < N ∧ V3 i) Z2 w2 X (.map es) := by
      have := obj_fwd (ρ' := ρ3) (V' := fun i => i < N ∧ V3 i) (fun i => i) (n := N) (fun id hid hv => ⟨⟨hid, hv⟩, rfl⟩) hX (hpn X hX).1 hes hXobj2
      rw [oren_id] at this
      exact this
    have hcase : ∀ id o, updo hp2 X (some (.map es)) id = some o → (id = X ∧ o = .map es) ∨ (id ≠ X ∧ hp2 id = some o) := fun id o ho => by
      simp only [updo] at ho
      split at ho
      · rename_i e; exact .inl ⟨e, (Option.some.inj ho).symm⟩
      · rename_i e; exact .inr ⟨e, ho⟩
    have hXat : ∀ id o b, hp2 id = some o → (ρ3 id).at b → (ρ3 X).at b → False := fun id o b ho hb hb' => by
      rw [(hpn X hX).2] at hb'
      obtain ⟨_, rfl⟩ := hb'
      exact hXno2 id o ho hb
    refine ⟨k5.nt, ?_, fun t x hx => ?_, ⟨fun id o ho => ?_, fun id id' o o' b ho ho' hb hb' => ?_, fun id o b ho hb => ?_, k5.hs.lt⟩, hEXT, fun id o b ho hb hlt => ?_, fun b o hz => hZ _ _ (h.z0 b o hz), fun b o hz => ?_, fun id hid => ?_⟩
    · obtain ⟨M, m1, ⟨m2, m3⟩, m4⟩ := h.df
      have hd2 : a2.defers = a.defers := k5.df.none rfl
      refine ⟨M, by rw [hd2]; exact m1, ⟨m2, fun d hd => ?_⟩, m4⟩
      obtain ⟨b, e, hb, hw⟩ := m3 d hd
      refine ⟨b, e, ?_, hw⟩
      rw [hkeep b (Array.getElem?_eq_some_iff.1 hb).1]
      · exact hb
      · rintro ⟨id, o, g1, g2⟩
        exact (h.hs.obj id o (hsub id o g1)).2.kind g2 _ hb
    · have hx : frs t = some x := hx
      have hne : t ≠ it := fun e => by rw [e, hit0] at hx; cases hx
      have := k5.fr t x (by show upd frs it _ t = _; simp only [upd, if_neg hne]; exact hx)
      have := rel_fwd (ρ' := ρ3) (V' := fun i => i < N ∧ V3 i) (fun i => i) (n := N) (fun id hid hv => ⟨⟨hid, hv⟩, rfl⟩) x _ (hfrs t x hx) this
      rw [ren_id] at this
      exact this
    · rcases hcase id o ho with ⟨rfl, rfl⟩ | ⟨g1, g2⟩
      · exact ⟨⟨hX, (hpn _ hX).1⟩, hXobj3⟩
      · exact ⟨⟨(hH2 id o g2).1, (hpn _ (hH2 id o g2).1).1⟩, hobj id o g2⟩
    · rcases hcase id o ho with ⟨rfl, rfl⟩ | ⟨g1, g2⟩ <;> rcases hcase id' o' ho' with ⟨rfl, rfl⟩ | ⟨g3, g4⟩
      · rfl
      · exact (hXat id' o' b g4 hb' hb).elim
      · exact (hXat id o b g2 hb hb').elim
      · exact k5.hs.inj id id' o o' b g2 g4 hb hb'
    · rcases hcase id o ho with ⟨rfl, rfl⟩ | ⟨g1, g2⟩
      · rw [(hpn _ hX).2] at hb
        obtain ⟨_, rfl⟩ := hb
        exact hXZ
      · exact k5.hs.sep id o b g2 hb
    · rcases hcase id o ho with ⟨rfl, rfl⟩ | ⟨g1, g2⟩
      · rw [(hpn _ hX).2] at hb
        exact h.ownd _ _ b hXo hb hlt
      · exact hownlt b (k5.ownd id o b g2 hb (Nat.lt_of_lt_of_le hlt h.ext.le)) hlt
    · rcases hZ2n b o hz with g | g | g
      · exact h.zn b o g
      · exact .inr (.inl (Nat.le_trans h.ext.le g))
      · rcases Nat.lt_or_ge b E.w0.heap.size with h1 | h1
        · exact .inr (.inr (hownlt b g h1))
        · exact .inr (.inl h1)
    · have hid' : id < N := by omega
      refine ⟨⟨hid', (hpn id hid').1⟩, ?_⟩
      rw [(hpn id hid').2]
      exact (h.pn id hid).2
  refine hQ ρ3 _ Z2 a2 w2 hfull (fun id hid => hid.1) (fun id hid => ⟨⟨hid, (hpn id hid).1⟩, (hpn id hid).2⟩) ?_ hkr hkX (fun o hz => ?_)
  · have h1 := k5.fr it (.ptr N 0) (by show upd frs it (.ptr N 0) it = _; simp [upd])
    obtain ⟨h2, _⟩ := h1.ptr_inv
    have h3 : (ρ3 N).blk = r := by
      rw [(k5.pn N (show N < N + 1 by omega)).2]
      simp [E', ρ']
    rw [h3] at h2
    rw [← h2]
    simp [Act.eval, Array.getD_eq_getD_getElem?]
  · rcases hZ2n r o hz with g | g | ⟨id, ob, g1, g2⟩
    · exact hZr o g
    · omega
    · exact hrno id ob (hsub id ob g1) g2
theorem AW_rangeMap {Q : AEx → St → Prop} {id0 id3 id4 bl bl2 it d13 d14 d15 d16 kt tm : Nat} {mt y0 y1 y2 y3 y4 y5 y6 y7 kty ety : TypeId} {p0 p1 p2 p3 p4 p5 p6 p7 : String} {a0 a1 a2 a3 a4 a5 a6 a7 : Array Edge} {dst0 dst1 : Option Nat} {op0 op1 : Op} {BODY : Code}
    (frs : Nat → Option AV) (H : List Nat → Nat → Option AObj) (X N : Nat) (es : List (AV × AV)) (hu : P.underlying mt = some (.map kty ety)) (hnp : E.np ≤ N) (hX : X < N)
    (hHX : ∀ done, H done X = none) (hfrs : ∀ t x, frs t = some x → x.ids (· < N)) (hH : ∀ done id o, H done id = some o → id < N ∧ o.ids (· < N)) (hes : ∀ p, p ∈ es → p.1.clo = true ∧ p.2.clo = true)
    (hall : ∀ id, id < N → id = X ∨ ∃ o, H [] id = some o) (hdis : [it, d13, d14, d15, d16, kt].Nodup) (hlt : ∀ t, t ∈ [it, d13, d14, d15, d16, kt] → t < E.nt) (hno : ∀ t, t ∈ [it, d13, d14, d15, d16, kt] → frs t = none)
    (hd0 : ∀ n, dst0 = some n → n < E.nt) (hd1 : ∀ n, dst1 = some n → n < E.nt)
    (h2 : goX P true 0 ⟨dst0, op0, y0, p0, a0, none⟩ σ (fun σ1 => goX P true 1 ⟨dst1, op1, y1, p1, a1, none⟩ σ1 (fun σ2 => σ2.fr tm = some (.mp X) ∧ (∀ t x, frs t = some x → σ2.fr t = some x) ∧ ∀ id o, updo (H []) X (some (.map es)) id = some o → σ2.hp id = some o) (fun _ _ => False)) (fun _ _ => False))
    (hbody : ∀ done j k x, done.Nodup → (∀ i, i ∈ done → i < es.length) → j ∉ done → es[j]? = some (k, x) → ∀ E' : En, E'.nt = E.nt → E'.np = N + 1 → AW P E' BODY (fun e σ' => e = .norm ∧ ∃ m, Ent (N + 1) m σ' ⟨upd frs it (.ptr N 0), H (done ++ [j]), N + 1⟩) (roundSt frs it kt N (H done) k))
    (hend : ∀ done, done.Nodup → (∀ i, i ∈ done ↔ i < es.length) → Q .norm ⟨frs, updo (H done) X (some (.map es)), N⟩) :
    AW P E (.seq (.region id0 #[⟨dst0, op0, y0, p0, a0, none⟩, ⟨dst1, op1, y1, p1, a1, none⟩, ⟨some it, .range mt (.tmp tm), y2, p2, a2, none⟩] false)
      (.block bl (.loop (.seq (.region id3 #[⟨some d13, .next (.tmp it) false, y3, p3, a3, none⟩, ⟨some d14, .extract (.tmp d13) 0, y4, p4, a4, none⟩] false)
        (.seq (.cond (.tmp d14) .skip (.exit bl)) (.block bl2 (.seq (.region id4 #[⟨some d15, .entry (.tmp it), y5, p5, a5, none⟩, ⟨some d16, .extract (.tmp d15) 0, y6, p6, a6, none⟩, ⟨some kt, .assign (.tmp d16), y7, p7, a7, none⟩] false) BODY))))))) Q σ := by
  intro ρ V Z a w hs hV
  have hm : ∀ t, t ∈ [it, d13, d14, d15, d16, kt] → t < E.nt ∧ frs t = none := fun t ht => ⟨hlt t ht, hno t ht⟩
  simp only [List.mem_cons, List.not_mem_nil, or_false, forall_eq_or_imp, forall_eq] at hm
  obtain ⟨⟨l1, n1⟩, ⟨l2, n2⟩, ⟨l3, n3⟩, ⟨l4, n4⟩, ⟨l5, n5⟩, ⟨l6, n6⟩⟩ := hm
  simp only [List.nodup_cons, List.mem_cons, List.not_mem_nil, or_false, not_or, List.nodup_nil, and_true, not_false_eq_true] at hdis
  obtain ⟨⟨q1, q2, q3, q4, q5⟩, ⟨q6, q7, q8, q9⟩, ⟨q10, q11, q12⟩, ⟨q13, q14⟩, q15⟩ := hdis
  have hesi : (AObj.map es).ids (· < N) := fun p hp => ⟨clo_ids (hes p hp).1, clo_ids (hes p hp).2⟩
  refine wpX_seq (wpX_region ?_)
  show wpOpsIn _ _ _ _ _ [0, 1, 2] a w
  show Oper.wpIn _ _ _ _ _ _ _ _
  refine goX_wp hs (k := 0) (fun id hid => by have := hV id hid; omega) hd0 h2 ?_ (fun x v σ' ρ' V' Z' a' w' h => h.elim)
  intro σ1 b1 w1 ρ1 V1 Z1 hK1 hnx1 hS1 hV1 hV1'
  show Oper.wpIn _ _ _ _ _ _ _ _
  refine goX_wp hS1 (k := 1) (fun id hid => by rw [hnx1]; rcases hV1 id hid with h | h; (have := hV id h; omega); omega) hd1 hK1 ?_ (fun x v σ' ρ' V' Z' a' w' h => h.elim)
  rintro σ2 b2 w2 ρ2 V2 Z2 ⟨g1, g2, g3⟩ hnx2 hS2 _ _
  have hfull : ∀ id o, updo (H []) X (some (.map es)) id = some o → id < N ∧ o.ids (· < N) := fun id o ho => by
    simp only [updo] at ho
    split at ho
    · rename_i e; cases ho; subst e; exact ⟨hX, hesi⟩
    · exact hH [] id o ho
  have hmp := hS2.fr tm _ g1
  obtain ⟨hmv, _⟩ := hmp.mp_inv
  have hS3 := hS2.ent (m := fun i => i) (σ' := ⟨frs, updo (H []) X (some (.map es)), N⟩) ⟨fun t x hx => ⟨by rw [ren_id]; exact g2 t x hx, hfrs t x hx⟩, fun id o ho => ⟨by rw [oren_id]; exact g3 id o ho, hfull id o ho⟩, fun _ _ _ _ _ _ e => e, fun id hid => ⟨rfl, show id < N by omega⟩⟩
  have hXo : updo (H []) X (some (.map es)) X = some (.map es) := by simp [updo]
  obtain ⟨hX1, hX0, ents, clock, hb, ⟨hsz, hst⟩, hrel⟩ := hS3.hs.obj X _ hXo
  have hblt : (ρ2 X).blk < w2.heap.size := (Array.getElem?_eq_some_iff.1 hb).1
  show Oper.wpIn _ _ _ _ _ _ _ _
  refine wpIn_intro (res := .ok (.value (.pointer (some ⟨w2.heap.size, 0, none⟩))) (w2.alloc (.mapIter (some (ρ2 X).blk) clock #[] clock))) (fun c => by simp) ?_ ?_
  · change (execOp b2.eval ({ dst := some it, op := .range mt (.tmp tm), type := y2, pos := p2, after := a2, guard := none } : Oper)).run P w2 = _
    have e1 : b2.eval (.tmp tm) = .map (some (ρ2 X).blk) := by rw [← hmv]; simp [Act.eval, Array.getD_eq_getD_getElem?]
    simp only [execOp, e1, Sem.run_bind, run_range_map w2 mt kty ety (ρ2 X).blk ents clock hu hb, Result.andThen]
    rfl
  show wpX P E.rd E.ex (.block bl _) _ _ _
  have hS4 := hS3.beside (r := w2.heap.size) (w' := w2.alloc (.mapIter (some (ρ2 X).blk) clock #[] clock)) hS3.ext.le (fun id o ho hat => by have := (hS3.hs.obj id o ho).2.lt _ hat; omega) (fun o hz => by have := hS3.hs.lt _ o hz; omega)
    (fun ds h => by rw [Array.getElem?_eq_none (Nat.le_refl _)] at h; cases h) (fun b hb _ => alloc_old hb) (by rw [World.size_alloc]; omega) rfl rfl
  have hS5 := hS4.slot n1 (.pointer (some ⟨w2.heap.size, 0, none⟩))
  clear h2 hK1 hS1 hs hS4
  refine wpX_block (wp_loop_rel (fun n a w => ∃ (ρ : Nat → Ref) (V : Nat → Prop) (Z : Nat → Nat → Prop) (done : List Nat) (seen : Array Nat) (c0 r : Nat), Sat E ρ V Z ⟨frs, updo (H done) X (some (.map es)), N⟩ a w ∧ (∀ id, V id → id < N) ∧ (∀ id, id < N → V id) ∧
    a.eval (.tmp it) = .pointer (some ⟨r, 0, none⟩) ∧ w.heap[r]? = some (.mapIter (some (ρ X).blk) clock seen c0) ∧ w.heap[(ρ X).blk]? = some (.map ents clock) ∧ ItR ents seen es.length done ∧ E.w0.heap.size ≤ r ∧ (∀ o, ¬ Z r o) ∧ clock ≤ c0 ∧ n = (leftOf ents seen).size)
    (n := (leftOf ents #[]).size) ⟨_, _, _, [], #[], clock, w2.heap.size, hS5, fun id hid => hid.1, fun id hid => ⟨hid, ?_⟩, put_eval_same (by rw [hS2.nt]; exact l1), World.alloc_heap_new _ _, (alloc_old hblt).trans hb, ⟨hsz, List.nodup_nil, fun j hj => (by cases hj), fun j e _ => by simp⟩, hS3.ext.le, fun o hz => by have := hS3.hs.lt _ o hz; omega, Nat.le_refl _, rfl⟩ ?_)
  · rcases hall id hid with rfl | ⟨o, ho⟩
    · exact hX1.2
    · have : updo (H []) X (some (.map es)) id = some o := by
        have : id ≠ X := fun e => by rw [e, hHX] at ho; cases ho
        simp [updo, this, ho]
      exact (hS3.hs.obj id o this).1.2
  clear hS5 hS2 hS3 hV1 hV1' hnx1 hnx2 g1 g2 g3 hmp hmv hX1 hX0 hb hblt hrel hV
  rintro n a w ⟨ρ, V, Z, done, seen, c0, r, hS, hV, hVa, hit, hr, hb, hI, hr0, hZr, hcc, rfl⟩
  have hno' : ∀ id o, updo (H done) X (some (.map es)) id = some o → ¬ (ρ id).at r := fun id o ho hat => (hS.hs.obj id o ho).2.noit hat _ _ _ _ hr
  have hrX : r ≠ (ρ X).blk := fun e => by rw [e, hb] at hr; cases hr
  have hXo' : updo (H done) X (some (.map es)) X = some (.map es) := by simp [updo]
  refine wpX_seq (wpX_region ?_)
  show wpOpsIn _ _ _ _ _ [0, 1] a w
  show Oper.wpIn _ _ _ _ _ _ _ _
  rcases run_next_at (P := P) w y3 r (ρ X).blk clock c0 seen ents clock hr hb hst.2 hcc with ⟨h0, hrun⟩ | ⟨e, he, w1, hal, hrun⟩
  · -- nothing is left
    refine wpIn_intro (res := .ok (.value (.tuple #[.bool false])) w) (fun c => by simp) ?_ ?_
    · change (execOp a.eval ({ dst := some d13, op := .next (.tmp it) false, type := y3, pos := p3, after := a3, guard := none } : Oper)).run P w = _
      simp only [execOp, hit, Sem.run_bind, hrun, Result.andThen]
      rfl
    show Oper.wpIn _ _ _ _ _ _ _ _
    have e1 : (a.put (some d13) (.tuple #[.bool false])).eval (.tmp d13) = .tuple #[.bool false] := put_eval_same (by rw [hS.nt]; exact l2)
    refine wpIn_intro (res := .ok (.value (.bool false)) w) (fun c => by simp) ?_ ?_
    · change (execOp (a.put (some d13) (.tuple #[.bool false])).eval ({ dst := some d14, op := .extract (.tmp d13) 0, type := y4, pos := p4, after := a4, guard := none } : Oper)).run P w = _
      simp only [execOp, e1]
      rfl
    have hS6 := (hS.slot n2 (.tuple #[.bool false])).slot n3 (.bool false)
    show wpX P E.rd E.ex (.seq (.cond (.tmp d14) .skip (.exit bl)) _) _ _ _
    refine wpX_seq (wpX_cond_false (put_eval_same (by rw [putS, hS.nt]; exact l3)) (wpX_exit ?_))
    show (Exit.inBlock bl (Post E Q)) (.exit bl) _ _
    simp only [Exit.inBlock, if_true]
    refine ⟨ρ, V, Z, _, .norm, trivial, hend done hI.nd (fun i => ⟨hI.lt i, fun hi => ?_⟩), hS6, fun _ id hid => hV id hid⟩
    have hi2 : i < ents.size := by rw [hI.sz]; exact hi
    have := all_seen ents seen h0 ents[i] (by simp)
    exact (hI.iff i _ (Array.getElem?_eq_getElem hi2)).1 this
  · obtain ⟨hem, hes2⟩ := mem_left he
    obtain ⟨j, hj⟩ := List.getElem?_of_mem hem
    rw [Array.getElem?_toList] at hj
    have hjd : j ∉ done := fun hd => by
      rw [(hI.iff j e hj).2 hd] at hes2
      cases hes2
    have hjl : j < es.length := by rw [← hI.sz]; exact (Array.getElem?_eq_some_iff.1 hj).1
    obtain ⟨⟨k, x⟩, hjk⟩ : ∃ p, es[j]? = some p := ⟨es[j], List.getElem?_eq_getElem hjl⟩
    have hkr : Rel ρ V Z w e.key k := by
      obtain ⟨_, _, ents', clock', hb', hsz', hrel'⟩ := hS.hs.obj X _ hXo'
      rw [hb] at hb'
      injection hb' with hb'
      injection hb' with hb1 hb2
      subst hb1
      have := (hrel' j hjl).1
      have e3 : (es.getD j default) = (k, x) := by simp [List.getD_eq_getElem?_getD, hjk]
      have e4 : (ents.map (·.key)).getD j undef = e.key := by
        rw [Array.getD_eq_getD_getElem?, Array.getElem?_map, hj]; rfl
      rw [e3, e4] at this
      exact this
    have hkc : k.clo = true := (hes _ (List.mem_of_getElem? hjk)).1
    generalize hw2 : setBlock w1 r (.mapIter (some (ρ X).blk) clock (seen.push e.born) clock) = w2' at hrun
    have hw1 : w1.heap = w.heap ∧ w1.os = w.os ∧ w1.output = w.output := by rcases hal with rfl | rfl <;> exact ⟨rfl, rfl, rfl⟩
    have hrl : w1.heap[r]? = some (.mapIter (some (ρ X).blk) clock seen c0) := by rw [hw1.1]; exact hr
    have hset := MapKept.heap_set (o' := .mapIter (some (ρ X).blk) clock (seen.push e.born) clock) hrl
    have hwr : w2'.heap[r]? = some (.mapIter (some (ρ X).blk) clock (seen.push e.born) clock) := by rw [← hw2]; exact hset.1
    have hwo : ∀ b, b ≠ r → w2'.heap[b]? = w.heap[b]? := fun b hne => by rw [← hw2]; exact (hset.2 b hne).trans (by rw [hw1.1])
    have hwsz : w2'.heap.size = w.heap.size := by rw [← hw2]; simp [setBlock, hw1.1]
    have hS6 := hS.beside (r := r) (w' := w2') hr0 hno' hZr (fun ds h => by rw [hr] at h; cases h) (fun b _ hne => hwo b hne) (by omega) (by rw [← hw2]; exact hw1.2.1) (by rw [← hw2]; exact hw1.2.2)
    have hb2 : w2'.heap[(ρ X).blk]? = some (.map ents clock) := (hwo _ (Ne.symm hrX)).trans hb
    refine wpIn_intro (res := .ok (.value (.tuple #[.bool true, e.key, e.val])) w2') (fun c => by simp) ?_ ?_
    · change (execOp a.eval ({ dst := some d13, op := .next (.tmp it) false, type := y3, pos := p3, after := a3, guard := none } : Oper)).run P w = _
      simp only [execOp, hit, Sem.run_bind, hrun, Result.andThen]
      rfl
    change Oper.wpIn (rfn E.rd) 0 P ⟨some d14, .extract (.tmp d13) 0, y4, p4, a4, none⟩ (a.put (some d13) (.tuple #[.bool true, e.key, e.val])) w2' _ _
    have hS7 := hS6.slot n2 (.tuple #[.bool true, e.key, e.val])
    have i7 : (a.put (some d13) (.tuple #[.bool true, e.key, e.val])).eval (.tmp it) = .pointer (some ⟨r, 0, none⟩) := by rw [put_eval_ne q1]; exact hit
    have e1 : (a.put (some d13) (.tuple #[.bool true, e.key, e.val])).eval (.tmp d13) = .tuple #[.bool true, e.key, e.val] := put_eval_same (by rw [hS.nt]; exact l2)
    generalize a.put (some d13) (.tuple #[.bool true, e.key, e.val]) = u7 at hS7 i7 e1
    refine wpIn_intro (res := .ok (.value (.bool true)) w2') (fun c => by simp) ?_ ?_
    · change (execOp u7.eval ({ dst := some d14, op := .extract (.tmp d13) 0, type := y4, pos := p4, after := a4, guard := none } : Oper)).run P w2' = _
      simp only [execOp, e1]
      rfl
    have hS8 := hS7.slot n3 (.bool true)
    have i8 : (u7.put (some d14) (.bool true)).eval (.tmp it) = .pointer (some ⟨r, 0, none⟩) := by rw [put_eval_ne q2]; exact i7
    have e8 : (u7.put (some d14) (.bool true)).eval (.tmp d14) = .bool true := put_eval_same (by rw [hS7.nt]; exact l3)
    change wpX P E.rd E.ex (.seq (.cond (.tmp d14) .skip (.exit bl)) _) _ (u7.put (some d14) (.bool true)) _
    generalize u7.put (some d14) (.bool true) = u8 at hS8 i8 e8
    refine wpX_seq (wpX_cond_true e8 (wpX_skip ?_))
    show wpX P E.rd E.ex (.block bl2 _) _ _ _
    refine wpX_block (wpX_seq (wpX_region ?_))
    show wpOpsIn _ _ _ _ _ [0, 1, 2] u8 w2'
    show Oper.wpIn _ _ _ _ _ _ _ _
    have hent := run_entry_at (P := P) w2' r (ρ X).blk clock seen ents clock e hwr hb2 hem hst.1
    refine wpIn_intro (res := .ok (.value (.tuple #[e.key, e.val])) w2') (fun c => by simp) ?_ ?_
    · change (execOp u8.eval ({ dst := some d15, op := .entry (.tmp it), type := y5, pos := p5, after := a5, guard := none } : Oper)).run P w2' = _
      simp only [execOp, i8, Sem.run_bind, hent, Result.andThen]
      rfl
    change Oper.wpIn (rfn E.rd) 0 P ⟨some d16, .extract (.tmp d15) 0, y6, p6, a6, none⟩ (u8.put (some d15) (.tuple #[e.key, e.val])) w2' _ _
    have hS9 := hS8.slot n4 (.tuple #[e.key, e.val])
    have i9 : (u8.put (some d15) (.tuple #[e.key, e.val])).eval (.tmp it) = .pointer (some ⟨r, 0, none⟩) := by rw [put_eval_ne q3]; exact i8
    have e9 : (u8.put (some d15) (.tuple #[e.key, e.val])).eval (.tmp d15) = .tuple #[e.key, e.val] := put_eval_same (by rw [hS8.nt]; exact l4)
    generalize u8.put (some d15) (.tuple #[e.key, e.val]) = u9 at hS9 i9 e9
    refine wpIn_intro (res := .ok (.value e.key) w2') (fun c => by simp) ?_ ?_
    · change (execOp u9.eval ({ dst := some d16, op := .extract (.tmp d15) 0, type := y6, pos := p6, after := a6, guard := none } : Oper)).run P w2' = _
      simp only [execOp, e9]
      rfl
    change Oper.wpIn (rfn E.rd) 0 P ⟨some kt, .assign (.tmp d16), y7, p7, a7, none⟩ (u9.put (some d16) e.key) w2' _ _
    have hS10 := hS9.slot n5 e.key
    have i10 : (u9.put (some d16) e.key).eval (.tmp it) = .pointer (some ⟨r, 0, none⟩) := by rw [put_eval_ne q4]; exact i9
    have e10 : (u9.put (some d16) e.key).eval (.tmp d16) = e.key := put_eval_same (by rw [hS9.nt]; exact l5)
    generalize u9.put (some d16) e.key = u10 at hS10 i10 e10
    refine wpIn_intro (res := .ok (.value e.key) w2') (fun c => by simp) ?_ ?_
    · change (execOp u10.eval ({ dst := some kt, op := .assign (.tmp d16), type := y7, pos := p7, after := a7, guard := none } : Oper)).run P w2' = _
      simp only [execOp, e10]
      rfl
    have hS11 := hS10.slot n6 e.key
    have i11 : (u10.put (some kt) e.key).eval (.tmp it) = .pointer (some ⟨r, 0, none⟩) := by rw [put_eval_ne q5]; exact i10
    have e11 : (u10.put (some kt) e.key).eval (.tmp kt) = e.key := put_eval_same (by rw [hS10.nt]; exact l6)
    change wpX P E.rd E.ex BODY _ (u10.put (some kt) e.key) _
    generalize u10.put (some kt) e.key = u11 at hS11 i11 e11
    have hb0 := hbody done j k x hI.nd hI.lt hjd hjk
    refine body_env hS11 hV hnp hVa hX (hHX done) hesi hfrs (hH done) n1 hkc (by rw [e11]; exact hkr.mono (fun _ _ => rfl) (fun _ h => h) (fun _ _ h => h) (fun b o hz => cell?_of_heap (hwo b (fun e => hZr o (e ▸ hz))))) i11 hwr hZr hr0 (fun id o ho => ⟨(hH _ id o ho).1, (fun e => by rw [e, hHX] at ho; cases ho), (hH _ id o ho).2⟩) hb0 ?_
    intro ρ' V' Z' a' w' k1 k2 k3 k4 k5 k6 k7
    simp only [Exit.inBlock, Exit.then]
    refine ⟨_, left_shrinks ents seen e he, ρ', V', Z', done ++ [j], seen.push e.born, clock, r, k1, k2, fun id hid => (k3 id hid).1, k4, ?_, ?_, hI.step hst.1 hj hjd, hr0, k7, Nat.le_refl _, rfl⟩
    · rw [k5, hwr, (k3 X hX).2]
    · rw [(k3 X hX).2, k6, hb2]
theorem AW_snpPost {c : Code} {Q : AEx → St → Prop} (X sz : Nat)
    (h : AW P E c (fun e σ => e = .norm ∧ ∃ l l', σ.hp X = some (.row sz l) ∧ l'.length = l.length ∧ (∀ i, i < l.length → Snp (fun _ => none) (l.getD i default) (l'.getD i default)) ∧ Q .norm ⟨σ.fr, updo σ.hp X (some (.row sz l')), σ.nx⟩) σ) : AW P E c Q σ := by
  intro ρ V Z a w hs hV
  refine wpX_mono ?_ (h ρ V Z a w hs hV)
  rintro e a w ⟨ρ, V, Z, σ, ex, h1, ⟨rfl, l, l', h2, h3, h4, h5⟩, h6, h7⟩
  cases e <;> simp only [ExR] at h1
  refine ⟨ρ, V, _, ⟨σ.fr, updo σ.hp X (some (.row sz l')), σ.nx⟩, .norm, trivial, h5, h6.frz (F := fun _ => none) (fun id o ho => by cases ho) (fun t x' hx => ⟨x', hx, .inl rfl⟩) (fun id o' ho => ⟨rfl, ?_⟩), h7⟩
  simp only [updo] at ho
  split at ho
  · rename_i e
    subst e
    cases ho
    exact ⟨_, h2, rfl, h3, h4⟩
  · exact ⟨o', ho, SnpO.refl _⟩
theorem AW_lkNil {fr : Nat → Option AV} {hp : Nat → Option AObj} {nx : Nat} {Q : AEx → St → Prop} {id0 d tm tk : Nat} {mt kty ety y0 y1 y2 y3 : TypeId} {p0 p1 p2 p3 : String} {a0 a1 a2 a3 : Array Edge} {dst0 dst1 dst2 : Option Nat} {op0 op1 op2 : Op} {n : Int} {k ik : IntKind}
    (hu : P.underlying mt = some (.map kty ety)) (huk : P.underlying kty = some (.int ik)) (hz : zv P ety = some (.bool false)) (hlt : d < E.nt) (hd0 : ∀ n, dst0 = some n → n < E.nt) (hd1 : ∀ n, dst1 = some n → n < E.nt) (hd2 : ∀ n, dst2 = some n → n < E.nt)
    (h2 : goX P true 0 ⟨dst0, op0, y0, p0, a0, none⟩ ⟨fr, hp, nx⟩ (fun σ1 => goX P true 1 ⟨dst1, op1, y1, p1, a1, none⟩ σ1 (fun σ2 => goX P true 2 ⟨dst2, op2, y2, p2, a2, none⟩ σ2 (fun σ3 => σ3.fr tm = some .nilmap ∧ σ3.fr tk = some (.int k n) ∧ Q .norm ⟨upd σ3.fr d (.bool false), σ3.hp, nx + 4194304⟩) (fun _ _ => False)) (fun _ _ => False)) (fun _ _ => False)) :
    AW P E (.region id0 #[⟨dst0, op0, y0, p0, a0, none⟩, ⟨dst1, op1, y1, p1, a1, none⟩, ⟨dst2, op2, y2, p2, a2, none⟩, ⟨some d, .lookup mt (.tmp tm) (.tmp tk) false, y3, p3, a3, none⟩] false) Q ⟨fr, hp, nx⟩ := by
  intro ρ V Z a w hs hV
  have hV : ∀ id, V id → id < nx := hV
  refine wpX_region ?_
  show wpOpsIn _ _ _ _ _ [0, 1, 2, 3] a w
  show Oper.wpIn _ _ _ _ _ _ _ _
  refine goX_wp hs (k := 0) (fun id hid => by have : id < nx := hV id hid; simp only; omega) hd0 h2 ?_ (fun x v σ' ρ' V' Z' a' w' h => h.elim)
  intro σ1 b1 w1 ρ1 V1 Z1 hK1 hnx1 hS1 hV1 _
  simp only at hnx1 hV1
  show Oper.wpIn _ _ _ _ _ _ _ _
  refine goX_wp hS1 (k := 1) (fun id hid => by rw [hnx1]; rcases hV1 id hid with h | h; (have := hV id h; omega); omega) hd1 hK1 ?_ (fun x v σ' ρ' V' Z' a' w' h => h.elim)
  intro σ2 b2 w2 ρ2 V2 Z2 hK2 hnx2 hS2 hV2 _
  show Oper.wpIn _ _ _ _ _ _ _ _
  have hb2 : ∀ id, V2 id → id < nx + 2097152 := fun id hid => by
    rw [hnx1] at hV2
    rcases hV2 id hid with h | h
    · rcases hV1 id h with h | h
      · have := hV id h; omega
      · omega
    · omega
  refine goX_wp hS2 (k := 2) (fun id hid => by rw [hnx2, hnx1]; have := hb2 id hid; omega) hd2 hK2 ?_ (fun x v σ' ρ' V' Z' a' w' h => h.elim)
  rintro σ3 b3 w3 ρ3 V3 Z3 ⟨g1, g2, g3⟩ hnx3 hS3 hV3 _
  show Oper.wpIn _ _ _ _ _ _ _ _
  have h1 := hS3.fr tm _ g1
  have hk := hS3.fr tk _ g2
  have hm : b3.eval (.tmp tm) = .map none := by
    have e : b3.eval (.tmp tm) = b3.tmps.getD tm undef := by simp [Act.eval, Array.getD_eq_getD_getElem?]
    rw [e]
    generalize b3.tmps.getD tm undef = v at h1
    generalize hx : AV.nilmap = x at h1
    cases h1 <;> cases hx
    rfl
  have hkv : b3.eval (.tmp tk) = .int k n := by
    have e : b3.eval (.tmp tk) = b3.tmps.getD tk undef := by simp [Act.eval, Array.getD_eq_getD_getElem?]
    rw [e]
    exact hk.int_inv'
  obtain ⟨v, hv1, hv2⟩ := run_zv (w := w3) hz
  have hvb : v = .bool false := (hv2 ρ3 V3 Z3).bool_inv
  subst hvb
  refine wpIn_intro (res := .ok (.value (.bool false)) w3) (fun c => by simp) ?_ ?_
  · change (execOp b3.eval ({ dst := some d, op := .lookup mt (.tmp tm) (.tmp tk) false, type := y3, pos := p3, after := a3, guard := none } : Oper)).run P w3 = _
    simp only [execOp, hm, hkv]
    refine run_value ?_
    unfold Instr.lookup
    simp [Go.run_underlying hu, run_checkInt huk, MapKept.run_findKey huk (show Instr.findNow (.int ik) (.int k n) [] 0 = some none from rfl), hv1, Result.andThen]
  · have hS4 := hS3.val (d := some d) (w' := w3) (v := .bool false) (x := .bool false) (fun n hn => by cases hn; exact hlt) rfl rfl rfl (.bool _)
    refine ⟨ρ3, V3, Z3, _, .norm, trivial, g3, hS4.nx _, fun _ id hid => ?_⟩
    rw [hnx2, hnx1] at hV3
    show id < nx + 4194304
    rcases hV3 id hid with h | h
    · have := hb2 id h; omega
    · omega
theorem AW_frzC {fr : Nat → Option AV} {hp : Nat → Option AObj} {nx : Nat} {c : Code} {Q : AEx → St → Prop} (X j id : Nat) {sz : Nat} {l xs : List AV} (hX : hp X = some (.cells l)) (hj : l[j]? = some (.rw id)) (hid : hp id = some (.row sz xs)) (hne : X ≠ id) (hc : CloRow xs)
    (h : AW P E c Q ⟨fr, updo (updo hp id none) X (some (.cells (l.set j (.sl xs)))), nx⟩) : AW P E c Q ⟨fr, hp, nx⟩ := by
  refine AW.frz (σ' := ⟨fr, updo (updo hp id none) X (some (.cells (l.set j (.sl xs)))), nx⟩) (fun i => if i = id then some (.row sz xs) else none) (fun i o h' => ?_) (fun t x' h' => ⟨x', h', .inl rfl⟩) (fun i o' h' => ?_) rfl h
  · split at h'
    · rename_i e; subst e; cases h'; exact hid
    · cases h'
  · simp only [updo] at h'
    split at h'
    · rename_i e
      subst e
      cases h'
      refine ⟨by simp [hne], _, hX, by simp, fun i hi => ?_⟩
      by_cases hij : j = i
      · subst hij
        have hl : j < l.length := (List.getElem?_eq_some_iff.1 hj).1
        refine .inr ⟨?_, ?_⟩
        · simp [List.getD_eq_getElem?_getD, hj, AV.snapOk, hc]
        · simp [List.getD_eq_getElem?_getD, hj, hl, (List.getElem?_eq_some_iff.1 hj).2, AV.snap]
      · refine .inl ?_
        simp [List.getD_eq_getElem?_getD, List.getElem?_set_ne hij]
    · split at h'
      · cases h'
      · rename_i e1 e2
        exact ⟨if_neg e2, o', h', SnpO.refl _⟩
end Go.Am

namespace Go.Am
open Go
variable {P : Program}
structure Fam {X : Type} (ob : X → Nat → Option AObj) (n : Nat) : Prop where
 lt : ∀ x id o, ob x id = some o → id < n ∧ o.ids (· < n)
 all : ∀ x id, id < n → ob x id ≠ none
def MCall {X : Type} (P : Program) (f : FuncId) (vs : List AV) (ob : X → Nat → Option AObj) (n np : Nat) (x : X) (G : X → Prop) : Prop :=
 ACall P f vs (ob x) n np (fun r hp' => r = .tup [] ∧ ∃ x', hp' = ob x' ∧ G x') (fun _ _ => False)
theorem MCall.useG {X : Type} {ob : X → Nat → Option AObj} {n np : Nat} (F : Fam ob n) (hnp : np ≤ n) (hn : n ≤ np + 1048576) {f : FuncId} {vs : List AV} {x : X} {G : X → Prop} (hA : MCall P f vs ob n np x G)
    {fr : Nat → Option AV} {hp0 : Nat → Option AObj} {n0 k : Nat} {d : Option Nat} {K : St → Prop} {Kp : AV → St → Prop} (hvs : AV.idsL (· < n) vs) (hob : ∀ id o, ob x id = some o → hp0 id = some o)
    (hK : ∀ x' hpn, G x' → (∀ j o, ob x' j = some o → hpn (backM (fun i => i) np (n0 + 1048576 * k) j) = some (o.ren (backM (fun i => i) np (n0 + 1048576 * k)))) → (∀ id o, n ≤ id → hp0 id = some o → hpn id = some o) → K ⟨putf fr d (.tup []), hpn, n0⟩) :
    CallB P f vs ⟨fr, hp0, n0⟩ k d K Kp := by
  refine CallB.use hA (fun i => i) (by rw [renL_id]) hvs (fun id o ho => ⟨by rw [oren_id]; exact hob id o ho, F.lt x id o ho⟩) (fun _ _ _ _ _ _ e => e) (fun id hid => ⟨by omega, F.all x id (by omega)⟩) ?_ (fun _ _ h => h.elim) ?_ (fun _ _ _ h => h.elim)
  · rintro r hp' ⟨rfl, x', rfl, _⟩
    exact ⟨trivial, fun id o ho => ⟨by have := (F.lt x' id o ho).1; omega, objids_mono _ (fun j hj => by omega) (F.lt x' id o ho).2⟩⟩
  · rintro r hp' fr' hpn ⟨rfl, x', rfl, hG⟩ hfr hobj hold
    have e : fr' = putf fr d (.tup []) := by subst hfr; cases d <;> rfl
    subst e
    refine hK x' hpn hG hobj (fun id o hid ho => hold id o ho fun j hj e => ?_)
    obtain ⟨o', ho'⟩ := Option.ne_none_iff_exists'.1 hj
    have := (F.lt x j o' ho').1
    omega
theorem backM_all {n base : Nat} {o : AObj} (h : o.ids (· < n)) : o.ren (backM (fun i => i) n base) = o :=
 (oren_congr (p := (· < n)) (m' := fun i => i) (fun i hi => backM_lt hi) h).trans (oren_id o)
theorem MCall.use {X : Type} {ob : X → Nat → Option AObj} {n : Nat} (F : Fam ob n) {f : FuncId} {vs : List AV} {x : X} {G : X → Prop} (hA : MCall P f vs ob n n x G)
    {fr : Nat → Option AV} {hp0 : Nat → Option AObj} {n0 k : Nat} {d : Option Nat} {K : St → Prop} {Kp : AV → St → Prop} (hvs : AV.idsL (· < n) vs) (hob : ∀ id o, ob x id = some o → hp0 id = some o)
    (hK : ∀ x' hpn, G x' → (∀ j o, ob x' j = some o → hpn j = some o) → (∀ id o, n ≤ id → hp0 id = some o → hpn id = some o) → K ⟨putf fr d (.tup []), hpn, n0⟩) :
    CallB P f vs ⟨fr, hp0, n0⟩ k d K Kp :=
  MCall.useG F (Nat.le_refl _) (by omega) hA hvs hob fun x' hpn hG hobj hold => hK x' hpn hG (fun j o ho => by
    have := hobj j o ho
    rw [backM_lt (F.lt x' j o ho).1, backM_all (F.lt x' j o ho).2] at this
    exact this) hold
theorem MCall.fin {X : Type} {ob : X → Nat → Option AObj} {n np : Nat} (F : Fam ob n) (hnp : np ≤ n) {x' : X} {G : X → Prop} {σ : St} (hG : G x') (ho : ∀ id o, ob x' id = some o → σ.hp id = some o) :
    ∃ r m hc nc, resA P [] σ = some (AV.ren m r) ∧ r.ids (· < nc) ∧ Ent np m σ ⟨fun _ => none, hc, nc⟩ ∧ (r = .tup [] ∧ ∃ x', hc = ob x' ∧ G x') :=
  ⟨.tup [], fun i => i, ob x', n, rfl, trivial, ent_idG (fr := []) (by simp) (fun id o h => ⟨ho id o h, F.lt x' id o h⟩) hnp, rfl, x', rfl, hG⟩
theorem MCall.intro {X : Type} {ob : X → Nat → Option AObj} {n np : Nat} {f : FuncId} {fn : Func} {c : Code} {vs : List AV} {x : X} {G : X → Prop} (hf : P.funcs[f]? = some fn) (hfn : isFn P f = true) (hb : fn.body = some c) (hn : vs.length ≤ fn.ntmps) (hr : fn.results.toList = [])
    (h : ∀ (E : En) (Q : AEx → St → Prop), E.nt = fn.ntmps → E.np = np → (∀ σ, (∃ r m hc nc, resA P [] σ = some (AV.ren m r) ∧ r.ids (· < nc) ∧ Ent np m σ ⟨fun _ => none, hc, nc⟩ ∧ (r = .tup [] ∧ ∃ x', hc = ob x' ∧ G x')) → Q .ret σ ∧ Q .norm σ) → AW P E c Q ⟨mkPar 0 vs, ob x, n⟩) : MCall P f vs ob n np x G :=
  ACall.of_bodyR hf hfn hb hn fun E Q hE hN hQ hQp => h E Q hE hN fun σ hσ => hQ σ (by rw [hr]; exact hσ)
def cutQ (P : Program) (E : En) {X : Type} (R : X → Prop) (mk : X → St) (fs : List Fm) (Q : AEx → St → Prop) (e : AEx) (σ : St) : Prop :=
 (e = .norm ∧ ∃ x, R x ∧ ∃ m, Ent E.np m σ (mk x)) ∨ (e ≠ .norm ∧ Kq P E fs Q e σ)
theorem K_cut {E : En} {X : Type} (R : X → Prop) (mk : X → St) {c c' : Code} {fs : List Fm} {Q : AEx → St → Prop} {σ : St} (h1 : AW P E c (Kq P E [] (cutQ P E R mk (.code c' :: fs) Q)) σ) (h2 : ∀ x, R x → AW P E c' (Kq P E fs Q) (mk x)) : AW P E c (Kq P E (.code c' :: fs) Q) σ :=
 h1.mono fun e σ' he => by
  rw [Kq_nil] at he
  rcases he with ⟨rfl, x, hx, m, he⟩ | ⟨_, h⟩
  ·exact Kq_norm_code (AW.ent m he (h2 x hx))
  ·exact h
theorem K_cut1 {E : En} {X : Type} (R : X → Prop) (mk : X → St) {c c1 c' : Code} {fs : List Fm} {Q : AEx → St → Prop} {σ : St} (h1 : AW P E c (Kq P E [.code c1] (cutQ P E R mk (.code c' :: fs) Q)) σ) (h2 : ∀ x, R x → AW P E c' (Kq P E fs Q) (mk x)) : AW P E c (Kq P E (.code c1 :: .code c' :: fs) Q) σ := by
 have hc : ∀ e σ', cutQ P E R mk (.code c' :: fs) Q e σ' → Kq P E (.code c' :: fs) Q e σ' := by
  rintro e σ' (⟨rfl, x, hx, m, he⟩ | ⟨_, h⟩)
  ·exact Kq_norm_code (AW.ent m he (h2 x hx))
  ·exact h
 refine h1.mono fun e σ' he => ?_
 rw [Kq] at he ⊢
 cases e with
 | norm =>
  refine AW.mono he fun e σ' he => ?_
  rw [Kq_nil] at he
  exact hc e σ' he
 | _ =>
  simp only [thenQ] at he ⊢
  rw [Kq_nil] at he
  exact hc _ σ' he
theorem cut_norm {E : En} {X : Type} {R : X → Prop} {mk : X → St} {fs : List Fm} {Q : AEx → St → Prop} {σ : St} (x : X) (hx : R x) (m : Nat → Nat) (he : Ent E.np m σ (mk x)) : Kq P E [] (cutQ P E R mk fs Q) .norm σ := by
 rw [Kq_nil]; exact .inl ⟨rfl, x, hx, m, he⟩
theorem cut_ret {E : En} {X : Type} {R : X → Prop} {mk : X → St} {fs : List Fm} {Q : AEx → St → Prop} {σ : St} (h : Kq P E fs Q .ret σ) : cutQ P E R mk fs Q .ret σ := .inr ⟨by simp, h⟩
def Wk (E : En) (σ σ' : St) : Prop := σ'.nx = σ.nx ∧ ∀ ρ V Z a w, Sat E ρ V Z σ a w → ∃ Z', Sat E ρ V Z' σ' a w
theorem Wk.refl {E : En} (σ : St) : Wk E σ σ := ⟨rfl, fun _ _ Z _ _ h => ⟨Z, h⟩⟩
theorem Wk.trans {E : En} {a b c : St} (h1 : Wk E a b) (h2 : Wk E b c) : Wk E a c :=
 ⟨h2.1.trans h1.1, fun ρ V Z x w h => by obtain ⟨Z', h'⟩ := h1.2 ρ V Z x w h; exact h2.2 ρ V Z' x w h'⟩
theorem AW.wk {E : En} {c : Code} {Q : AEx → St → Prop} {σ σ' : St} (hw : Wk E σ σ') (h : AW P E c Q σ') : AW P E c Q σ := by
 intro ρ V Z a w h0 hV
 obtain ⟨Z', h1⟩ := hw.2 ρ V Z a w h0
 exact h ρ V Z' a w h1 (by rw [hw.1]; exact hV)
def wkQ (E : En) (Q : AEx → St → Prop) (e : AEx) (σ : St) : Prop := Q e σ ∨ ((∀ y, e ≠ .pan y) ∧ ∃ σ', Wk E σ σ' ∧ Q e σ')
theorem AW.postW {E : En} {c : Code} {Q : AEx → St → Prop} {σ : St} (h : AW P E c (wkQ E Q) σ) : AW P E c Q σ := by
 intro ρ V Z a w h0 hV
 refine wpX_mono (fun e a w hp => ?_) (h ρ V Z a w h0 hV)
 obtain ⟨ρ, V, Z, σ, x, h1, h2 | ⟨hn, σ', hw, h2⟩, h3, h4⟩ := hp
 ·exact ⟨ρ, V, Z, σ, x, h1, h2, h3, h4⟩
 ·obtain ⟨Z', h5⟩ := hw.2 ρ V Z a w h3
  refine ⟨ρ, V, Z', σ', x, ?_, h2, h5, fun hy => by rw [hw.1]; exact h4 hy⟩
  cases e <;> cases x <;> first | exact h1 | (exact absurd rfl (hn _))
theorem Wk.frz {E : En} {σ σ' : St} (F : Nat → Option AObj) (hF : ∀ id o, F id = some o → σ.hp id = some o)
    (hfr : ∀ t x', σ'.fr t = some x' → ∃ x, σ.fr t = some x ∧ Snp F x x') (hhp : ∀ id o', σ'.hp id = some o' → F id = none ∧ ∃ o, σ.hp id = some o ∧ SnpO F o o') (hnx : σ'.nx = σ.nx) : Wk E σ σ' :=
  ⟨hnx, fun ρ V Z a w h => ⟨_, h.frz hF hfr hhp⟩⟩
theorem Wk.snpRow {E : En} {fr : Nat → Option AV} {hp : Nat → Option AObj} {nx : Nat} (X : Nat) {sz : Nat} {l : List AV} (l' : List AV) (hX : hp X = some (.row sz l)) (hl : l'.length = l.length) (hs : ∀ i, i < l.length → Snp (fun _ => none) (l.getD i default) (l'.getD i default)) :
    Wk E ⟨fr, hp, nx⟩ ⟨fr, updo hp X (some (.row sz l')), nx⟩ := by
  refine Wk.frz (fun _ => none) (fun id o ho => by cases ho) (fun t x' hx => ⟨x', hx, .inl rfl⟩) (fun id o' ho => ⟨rfl, ?_⟩) rfl
  simp only [updo] at ho
  split at ho
  · rename_i e
    subst e
    cases ho
    exact ⟨_, hX, rfl, hl, hs⟩
  · exact ⟨o', ho, SnpO.refl _⟩
theorem MCall.introW {X : Type} {ob : X → Nat → Option AObj} {n np : Nat} {f : FuncId} {fn : Func} {c : Code} {vs : List AV} {x : X} {G : X → Prop} (hf : P.funcs[f]? = some fn) (hfn : isFn P f = true) (hb : fn.body = some c) (hn : vs.length ≤ fn.ntmps) (hr : fn.results.toList = [])
    (h : ∀ (E : En) (Q : AEx → St → Prop), E.nt = fn.ntmps → E.np = np → (∀ σ σ', Wk E σ σ' → (∃ r m hc nc, resA P [] σ' = some (AV.ren m r) ∧ r.ids (· < nc) ∧ Ent np m σ' ⟨fun _ => none, hc, nc⟩ ∧ (r = .tup [] ∧ ∃ x', hc = ob x' ∧ G x')) → Q .ret σ ∧ Q .norm σ) → AW P E c Q ⟨mkPar 0 vs, ob x, n⟩) : MCall P f vs ob n np x G :=
  MCall.intro hf hfn hb hn hr fun E Q hE hN hQ => AW.postW (h E (wkQ E Q) hE hN fun σ σ' hw hx => ⟨.inr ⟨(fun y hy => by cases hy), σ', hw, (hQ σ' hx).1⟩, .inr ⟨(fun y hy => by cases hy), σ', hw, (hQ σ' hx).2⟩⟩)
end Go.Am
