/- A part of the proof: an abstract machine for the walks, and what the walked functions compute. -/
import Derived.Recover
import Derived.Test.YtdheeecpkkjfiaaAaf
set_option linter.unusedVariables false
set_option linter.unusedSimpArgs false
/- The abstract machine: functions that defer a call that recovers. -/
set_option linter.unusedVariables false
set_option linter.unusedSimpArgs false
namespace Go.Am
open Go
variable {P : Program} {E : En} {ρ : Nat → Ref} {V : Nat → Prop} {Z : Nat → Nat → Prop} {σ : St} {a : Act} {w : World}

/-- The mode in which a deferred call finds its caller: it returns, or panics with a value. -/
def ModeR (ρ : Nat → Ref) (V : Nat → Prop) (Z : Nat → Nat → Prop) (w : World) (u : FrameMode) : Option AV → Prop
  | none => u = .returning
  | some x => ∃ v, u = .panicking [{ v, recovered := false }] ∧ Rel ρ V Z w v x

def recX : Option AV → AV
  | none => .nilif
  | some x => x

/-- The contract of a deferred call that ends a panic: the objects behind it. -/
def DCall (P : Program) (f : FuncId) (vs : List AV) (hp : Nat → Option AObj) (nx np : Nat) (x : Option AV) (R : (Nat → Option AObj) → Prop) : Prop :=
  isFn P f = true ∧ ∀ (ρ : Nat → Ref) (V : Nat → Prop) (Z : Nat → Nat → Prop) (w : World) (args : Array Value) (u : FrameMode), HSat ρ V Z w hp → (∀ id, id < np → V id) → (∀ id, V id → id < nx) → args.size = vs.length →
    (∀ i, i < vs.length → Rel ρ V Z w (args.getD i undef) (vs.getD i default)) → ModeR ρ V Z w u x →
    CallsD P f args u w fun e u' w' => (∃ v, e = .returned v) ∧ settle u' = .returning ∧ ∃ ρ' V' Z' hp', HSat ρ' V' Z' w' hp' ∧ Ext w w' (OwnB ρ hp) ∧ (∀ id, id < np → V' id ∧ ρ' id = ρ id) ∧ (∀ b o, Z b o → Z' b o) ∧
      (∀ b o, Z' b o → Z b o ∨ w.heap.size ≤ b ∨ OwnB ρ hp b) ∧ (∀ id o b, hp' id = some o → (ρ' id).at b → b < w.heap.size → OwnB ρ hp b) ∧ R hp'

theorem DCall.of_body {f : FuncId} {fn : Func} {c : Code} {vs : List AV} {hp : Nat → Option AObj} {nx np : Nat} {x : Option AV} {R : (Nat → Option AObj) → Prop} {i d1 d2 : Nat} {ts : Array TypeId} {ty1 ty2 : TypeId} {p1 p2 : String} {af1 af2 : Array Edge}
    (hf : P.funcs[f]? = some fn) (hfn : isFn P f = true)
    (hb : fn.body = some (.seq (.region i #[⟨some d1, .call ⟨.builtin .recover, #[], ts⟩, ty1, p1, af1, none⟩, ⟨some d2, .assign (.tmp d1), ty2, p2, af2, none⟩] false) c))
    (hd1 : d1 < fn.ntmps) (hd2 : d2 < fn.ntmps) (hres : fn.results = #[]) (hn : vs.length ≤ fn.ntmps)
    (h : ∀ (E : En) (Q : AEx → St → Prop), E.nt = fn.ntmps → E.np = np → (∀ σ, R σ.hp → Q .ret σ ∧ Q .norm σ) → AW P E c Q ⟨upd (upd (mkPar 0 vs) d1 (recX x)) d2 (recX x), hp, nx⟩) : DCall P f vs hp nx np x R := by
  refine ⟨hfn, fun ρ V Z w args u hh hnp hnx hsz hrel hu => ?_⟩
  refine callsD_of_wpS hf hb fun c₀ cs hc => ?_
  have hsat := sat_start (nx := nx) hn hh hnp hsz hrel
  -- what recover gives
  have key : ∀ (v : Value) (u' : FrameMode), Rel ρ V Z w v (recX x) → settle u' = .returning → c.wpS P (bodyPostS P fn c₀ cs fun e u' w' => (∃ v, e = .returned v) ∧ settle u' = .returning ∧ ∃ ρ' V' Z' hp', HSat ρ' V' Z' w' hp' ∧ Ext w w' (OwnB ρ hp) ∧ (∀ id, id < np → V' id ∧ ρ' id = ρ id) ∧ (∀ b o, Z b o → Z' b o) ∧
      (∀ b o, Z' b o → Z b o ∨ w.heap.size ≤ b ∨ OwnB ρ hp b) ∧ (∀ id o b, hp' id = some o → (ρ' id).at b → b < w.heap.size → OwnB ρ hp b) ∧ R hp')
      (({ tmps := args ++ Array.replicate (fn.ntmps - args.size) undef, defers := [] } : Act).put (some d1) v |>.put (some d2) v) ({ c₀ with mode := u' } :: cs) w := by
    intro v u' hv hs
    have hs1 := hsat.val (d := some d1) (fun n hn => by cases hn; exact hd1) rfl rfl rfl hv
    have hs2 := hs1.val (d := some d2) (fun n hn => by cases hn; exact hd2) rfl rfl rfl hv
    have hbody := h _ (fun e σ => match e with | .ret | .norm => R σ.hp | _ => False) rfl rfl (fun σ hσ => ⟨hσ, hσ⟩) ρ V Z _ w hs2 hnx
    refine wpS_of_wp (Code.wp_mono ?_ hbody)
    rintro e a w' ⟨ρ', V', Z', σ, y, h1, h2, h3, h4⟩
    have hret : R σ.hp → a.defers = [] ∧ ∃ u'', ({ c₀ with mode := u' } :: cs : List Frame) = { c₀ with mode := u'' } :: cs ∧ ∃ v, (results fn a.tmps).run P w' = .ok v w' ∧ (∃ v', Ending.returned v = .returned v') ∧ settle u'' = .returning ∧ ∃ ρ' V' Z' hp', HSat ρ' V' Z' w' hp' ∧ Ext w w' (OwnB ρ hp) ∧ (∀ id, id < np → V' id ∧ ρ' id = ρ id) ∧ (∀ b o, Z b o → Z' b o) ∧
      (∀ b o, Z' b o → Z b o ∨ w.heap.size ≤ b ∨ OwnB ρ hp b) ∧ (∀ id o b, hp' id = some o → (ρ' id).at b → b < w.heap.size → OwnB ρ hp b) ∧ R hp' := by
      intro hR
      obtain ⟨v, hv1, hv2⟩ := results_run h3 (fn := fn) (r := .tup []) (by rw [hres]; rfl)
      exact ⟨h3.df, u', rfl, v, hv1, ⟨v, rfl⟩, hs, ρ', V', Z', σ.hp, h3.hs, h3.ext, h3.pn, h3.z0, h3.zn, h3.ownd, hR⟩
    cases e <;> cases y <;> simp only [ExR] at h1
    · exact hret h2
    · exact h2.elim
    · exact hret h2
    · exact h2.elim
  apply wpS_seq
  apply wpS_region
  have hd1' : d1 < (args ++ Array.replicate (fn.ntmps - args.size) undef).size := by have := hsat.nt; simp only at this; omega
  revert key hd1'
  generalize args ++ Array.replicate (fn.ntmps - args.size) undef = T
  generalize bodyPostS P fn c₀ cs _ = QQ
  intro key hd1'
  have hget : ∀ v : Value, (T.setIfInBounds d1 v)[d1]?.getD undef = v := by
    intro v
    rw [Array.getElem?_setIfInBounds_self]
    simp [hd1']
  have e2 : List.range 2 = [0, 1] := rfl
  have hrec : ∀ g : Operand → Value, (execOp g ⟨some d1, .call ⟨.builtin .recover, #[], ts⟩, ty1, p1, af1, none⟩).run P w = .ok .recover w := fun g => rfl
  clear h hsat hrel
  cases x with
  | none =>
    have hu' : u = .returning := hu
    have hk := key .nilIface .returning .nilif rfl
    have e : ({ c₀ with mode := .returning } : Frame) = c₀ := by rw [← hu', ← hc]
    rw [e] at hk
    simp only [List.size_toArray, List.length_cons, List.length_nil, Nat.zero_add, Nat.reduceAdd, e2]
    simp [wpOpsS, recoverD, hc, hu', Region.wanted, hrec, execOp, Act.put, Act.eval, Oper.upon, Exit.thenS, hget, Array.getD_eq_getD_getElem?]
    exact hk
  | some y =>
    obtain ⟨v, hv1, hv2⟩ := hu
    have hk := key v (.panicking [{ v, recovered := true }]) hv2 rfl
    simp only [List.size_toArray, List.length_cons, List.length_nil, Nat.zero_add, Nat.reduceAdd, e2]
    simp [wpOpsS, recoverD, hc, hv1, Region.wanted, hrec, execOp, Act.put, Act.eval, Oper.upon, Exit.thenS, hget, Array.getD_eq_getD_getElem?]
    exact hk

mutual
theorem ren_id : ∀ x : AV, x.ren (fun i => i) = x
  | .fn f a b => by simp only [AV.ren, renL_id a, renL_id b]
  | .iface t v => by simp only [AV.ren, ren_id v]
  | .agg l => by simp only [AV.ren, renL_id l]
  | .tup l => by simp only [AV.ren, renL_id l]
  | .ptr _ _ | .rptr _ _ _ _ | .rw _ | .mp _ | .bool _ | .int _ _ | .str _ | .nilp | .eptr _ _ | .nilsl | .sl _ | .nilmap | .nilfn | .nilif => rfl
theorem renL_id : ∀ l : List AV, AV.renL (fun i => i) l = l
  | [] => rfl
  | x :: l => by simp only [AV.renL, ren_id x, renL_id l]
end

theorem oren_id (o : AObj) : o.ren (fun i => i) = o := by
  cases o with
  | cells l => simp only [AObj.ren, renL_id]
  | row sz l => simp only [AObj.ren, renL_id]
  | map es => simp [AObj.ren, ren_id]

def ptrs (k : Nat) : List AV := (List.range k).map fun i => .ptr i 0
theorem ptrs_len (k : Nat) : (ptrs k).length = k := by simp [ptrs]
theorem ptrs_getD {k i : Nat} (h : i < k) : (ptrs k).getD i default = .ptr i 0 := by simp [ptrs, List.getD_eq_getElem?_getD, h]

mutual
theorem clo_snap {h : Nat → Option AObj} : ∀ {x : AV}, x.clo = true → (x.snap h).clo = true
  | .rw _, hx => by simp [AV.clo] at hx
  | .nilsl, _ => by simp [AV.snap, AV.clo]
  | .agg l, hx => by simp only [AV.clo] at hx; simp only [AV.snap, AV.clo]; exact cloL_snap hx
  | .tup l, hx => by simp only [AV.clo] at hx; simp only [AV.snap, AV.clo]; exact cloL_snap hx
  | .fn _ _ _, hx | .iface _ _, hx | .ptr _ _, hx | .rptr _ _ _ _, hx | .mp _, hx | .bool _, hx | .int _ _, hx | .str _, hx | .nilp, hx | .eptr _ _, hx | .sl _, hx | .nilmap, hx | .nilfn, hx | .nilif, hx => hx
theorem cloL_snap {h : Nat → Option AObj} : ∀ {l : List AV}, AV.cloL l = true → AV.cloL (AV.snapL h l) = true
  | [], _ => rfl
  | x :: l, hx => by
    simp only [AV.cloL, Bool.and_eq_true] at hx
    simp only [AV.snapL, AV.cloL, Bool.and_eq_true]
    exact ⟨clo_snap hx.1, cloL_snap hx.2⟩
end

/-- The end of a function with one deferred call: its captured cells are the objects 0 to k - 1. -/
def DFin (P : Program) (fn : Func) (g : FuncId) (k : Nat) (r : AV) (x : Option AV) (σ : St) : Prop :=
  σ.nx = k ∧ (∀ y, x = some y → y.clo = true) ∧ (∀ t y, σ.fr t = some y → ∃ i, i < k ∧ y = .ptr i 0) ∧ (∀ id o, σ.hp id = some o → id < k ∧ o.ids (· < k)) ∧
    ∃ R, DCall P g (ptrs k) σ.hp k k x R ∧ ∀ hp', R hp' → ∃ r', resA P fn.results.toList ⟨σ.fr, hp', k⟩ = some r' ∧ r'.clo = true ∧ r'.snapOk (fun _ => none) ∧ r'.snap (fun _ => none) = r

theorem Ext.trans {w0 w1 w2 : World} {own B : Nat → Prop} (h : Ext w0 w1 own) (g : Ext w1 w2 B) (hB : ∀ b, B b → b < w0.heap.size → own b) (hl : ∀ b, B b → b < w1.heap.size) : Ext w0 w2 own := by
  classical
  refine ⟨fun b hb hno => ?_, Nat.le_trans h.le g.le, g.os.trans h.os, g.out.trans h.out, fun b hb c t f hcf => ?_⟩
  · rw [g.old b (Nat.lt_of_lt_of_le hb h.le) (fun hh => hno (hB b hh hb))]
    exact h.old b hb hno
  · by_cases e : w1.heap.size ≤ b ∨ B b
    · exact g.fresh b e c t f hcf
    · have e1 : b < w1.heap.size := Nat.lt_of_not_le fun h => e (.inl h)
      rw [g.old b e1 (fun h => e (.inr h))] at hcf
      exact h.fresh b hb c t f hcf

theorem PCall.of_defer {f g : FuncId} {fn : Func} {c0 c : Code} {vs : List AV} {r : AV} {i1 d7 k : Nat} {caps : Array Operand} {ty1 ty2 : TypeId} {p1 p2 : String} {af1 af2 : Array Edge} {ts : Array TypeId}
    (hf : P.funcs[f]? = some fn) (hfn : isFn P f = true)
    (hb : fn.body = some (.seq c0 (.seq (.region i1 #[⟨some d7, .makeFunc (.func g) #[] caps, ty1, p1, af1, none⟩, ⟨none, .defer ⟨.value (.tmp d7), #[], ts⟩, ty2, p2, af2, none⟩] false) c)))
    (hd7 : d7 < fn.ntmps) (hn : vs.length ≤ fn.ntmps) (hclo : AV.cloL vs = true) (σ1 : St) (hk : ∀ i, i < k → ∃ o, σ1.hp i = some o) (hcap : caps.toList.mapM (evA σ1) = some (ptrs k))
    (h0 : ∀ (E : En) (Q : AEx → St → Prop), E.nt = fn.ntmps → E.np = 0 → (∀ σ m, Ent 0 m σ σ1 → Q .norm σ) → AW P E c0 Q ⟨mkPar 0 vs, mkHp [], 0⟩)
    (h1 : ∀ (E : En) (Q : AEx → St → Prop), E.nt = fn.ntmps → E.np = k → (∀ σ, DFin P fn g k r none σ → Q .ret σ ∧ Q .norm σ) → (∀ x σ, DFin P fn g k r (some x) σ → Q (.pan x) σ) → AW P E c Q ⟨upd σ1.fr d7 (.fn (.func g) [] (ptrs k)), σ1.hp, σ1.nx⟩) : PCall P f vs r := by
  refine ⟨hfn, fun ρ V Z w args hZ hsz hrel => ?_⟩
  have hlen : args.size ≤ fn.ntmps := by omega
  have hc : ∀ (l : List AV), AV.cloL l = true → ∀ i, i < l.length → (l.getD i default).clo = true := by
    intro l
    induction l with
    | nil => intro _ i hi; exact absurd hi (Nat.not_lt_zero _)
    | cons y l ih =>
      intro hl i hi
      simp only [AV.cloL, Bool.and_eq_true] at hl
      cases i with
      | zero => simpa using hl.1
      | succ i => simpa using ih hl.2 i (by simpa using hi)
  have hsat := sat_start (ρ := ρ) (V := fun _ => False) (Z := Z) (w := w) (hp := mkHp []) (nx := 0) (np := 0) hn ⟨fun id o ho => (by cases ho), fun id id' o o' b ho => (by cases ho), fun id o b ho => (by cases ho), hZ⟩ (fun id h => absurd h (Nat.not_lt_zero _)) hsz
    (fun i hi => clo_rel (hrel i hi) (hc vs hclo i hi) _ _)
  have hown : ∀ b, ¬ OwnB ρ (mkHp []) b := by rintro b ⟨id, o, ho, _⟩; cases ho
  refine calls_of_wp_defers hf hb (wp_seq (Code.wp_mono ?_ (h0 _ (fun e σ => e = .norm ∧ ∃ m, Ent 0 m σ σ1) rfl rfl (fun σ m he => ⟨rfl, m, he⟩) ρ _ Z _ w hsat (fun _ h => h.elim))))
  rintro e a w1 ⟨ρ1, V1, Z1, σ, x, h1', ⟨rfl, m, he⟩, h3, h4⟩
  cases e <;> simp only [ExR] at h1'
  have hs1 := h3.ent he
  -- the region with the deferred call
  have hdf : a.defers = [] := h3.df
  obtain ⟨hcs, hcr⟩ := evs_arr hs1 hcap
  have hrun1 : ∀ a : Act, (execOp a.eval ⟨some d7, .makeFunc (.func g) #[] caps, ty1, p1, af1, none⟩).run P w1 = .ok (.value (.func (.func g) #[] (caps.map a.eval))) w1 := fun a => by
    show (do pure (Next.value (← Instr.makeFunc (.func g) (#[].map a.eval) (caps.map a.eval))) : Sem Next).run P w1 = _
    simp [Instr.makeFunc]
  refine wp_seq (wp_region ?_)
  have e2 : List.range 2 = [0, 1] := rfl
  simp only [List.size_toArray, List.length_cons, List.length_nil, Nat.zero_add, Nat.reduceAdd, e2, wpOps]
  simp only [List.getElem?_toArray, List.getElem?_cons_zero, Region.wanted, if_true]
  refine .inl ?_
  unfold Oper.wp
  rw [hrun1]
  rw [Oper.upon_value]
  simp only [List.getElem?_toArray, List.getElem?_cons_succ, List.getElem?_cons_zero, Region.wanted, if_true]
  refine .inl ?_
  generalize hcv : caps.map a.eval = cv at *
  have hdget : (a.put (some d7) (.func (.func g) #[] cv)).eval (.tmp d7) = .func (.func g) #[] cv := by
    have : d7 < a.tmps.size := by rw [h3.nt]; exact hd7
    simp [Act.eval, Act.put, Array.getD_eq_getD_getElem?, this]
  have hrun2 : (execOp (a.put (some d7) (.func (.func g) #[] cv)).eval ⟨none, .defer ⟨.value (.tmp d7), #[], ts⟩, ty2, p2, af2, none⟩).run P w1 = .ok (.defer ⟨.fn (.func g) cv, #[]⟩) w1 := by
    show (do pure (Next.defer (← resolve (a.put (some d7) (.func (.func g) #[] cv)).eval ⟨.value (.tmp d7), #[], ts⟩ ty2)) : Sem Next).run P w1 = _
    unfold resolve
    simp only [hdget]
    simp [Deferred.ofValue]
  rw [hrun2, Oper.upon_defer]
  show c.wp P _ _ w1
  have hown2 : OwnB ρ (mkHp []) = fun _ => False := by funext b; simp [hown b]
  rw [hown2] at hs1
  have hrelf : Rel (fun i => ρ1 (m i)) (fun i => i < σ1.nx ∧ V1 (m i)) Z1 w1 (.func (.func g) #[] cv) (.fn (.func g) [] (ptrs k)) :=
    .fn _ _ _ _ _ rfl (by rw [hcs]) (fun i hi => absurd hi (Nat.not_lt_zero _)) hcr
  have hs2 := hs1.val (d := some d7) (w' := w1) (fun n hn => by cases hn; exact hd7) rfl rfl rfl hrelf
  have hVk : ∀ id, id < k → id < σ1.nx ∧ V1 (m id) := fun id hid => by obtain ⟨o, ho⟩ := hk id hid; exact (hs1.hs.obj id o ho).1
  have hs3 : Sat ⟨fn.ntmps, [⟨.fn (.func g) cv, #[]⟩], w, fun _ => False, Z, k, fun i => ρ1 (m i)⟩ (fun i => ρ1 (m i)) (fun i => i < σ1.nx ∧ V1 (m i)) Z1 ⟨upd σ1.fr d7 (.fn (.func g) [] (ptrs k)), σ1.hp, σ1.nx⟩
      { (a.put (some d7) (.func (.func g) #[] cv)) with defers := ⟨.fn (.func g) cv, #[]⟩ :: (a.put (some d7) (.func (.func g) #[] cv)).defers } w1 :=
    ⟨hs2.nt, by rw [putD, hdf], hs2.fr, hs2.hs, hs2.ext, hs2.ownd, hs2.z0, hs2.zn, fun id hid => ⟨hVk id hid, rfl⟩⟩
  have hbody := h1 _ (fun e σ => match e with | .ret | .norm => DFin P fn g k r none σ | .pan x => DFin P fn g k r (some x) σ | .exit _ => False) rfl rfl (fun σ hσ => ⟨hσ, hσ⟩) (fun x σ hσ => hσ) _ _ Z1 _ w1 hs3 (fun id hid => hid.1)
  refine Code.wp_mono ?_ hbody
  rintro e a2 w2 ⟨ρ2, V2, Z2, σ2, x2, k1, k2, k3, k4⟩
  have hfin : ∀ (x : Option AV) (u : FrameMode), u ≠ .run → DFin P fn g k r x σ2 → ModeR ρ2 V2 Z2 w2 u x → Leaves P fn a2.tmps (fun e w' => ∃ v Z', e = .returned v ∧ Rel ρ V Z' w' v r ∧ Ext w w' (fun _ => False) ∧ (∀ b o, Z b o → Z' b o) ∧ (∀ b o, Z' b o → Z b o ∨ (w.heap.size ≤ b ∧ b < w'.heap.size))) a2.defers u w2 := by
    rintro x u hu ⟨g1, g2, g3, g4, R, ⟨gf, gD⟩, g6⟩ hmode
    rw [k3.df]
    refine leaves_cons (f := g) (args := #[] ++ cv) hu (run_callFunc gf _) ?_
    have hpn : ∀ id, id < k → V2 id ∧ ρ2 id = ρ1 (m id) := fun id hid => k3.pn id hid
    have hs4 : HSat ρ2 (fun i => i < k ∧ V2 i) Z2 w2 σ2.hp := by
      refine ⟨fun id o ho => ?_, k3.hs.inj, k3.hs.sep, k3.hs.lt⟩
      obtain ⟨q1, q2⟩ := k3.hs.obj id o ho
      have q3 := obj_fwd (ρ' := ρ2) (V' := fun i => i < k ∧ V2 i) (fun i => i) (n := k) (fun id hid hv => ⟨⟨hid, hv⟩, rfl⟩) (g4 id o ho).1 q1 (g4 id o ho).2 q2
      rw [oren_id] at q3
      exact ⟨⟨(g4 id o ho).1, q1⟩, q3⟩
    have hmode' : ModeR ρ2 (fun i => i < k ∧ V2 i) Z2 w2 u x := by
      cases x with
      | none => exact hmode
      | some y =>
        obtain ⟨v, q1, q2⟩ := hmode
        exact ⟨v, q1, clo_rel q2 (g2 y rfl) _ _⟩
    rw [ptrs_len] at hcs hcr
    refine (gD ρ2 (fun i => i < k ∧ V2 i) Z2 w2 (#[] ++ cv) u hs4 (fun id hid => ⟨hid, (hpn id hid).1⟩) (fun id h => h.1) (by rw [ptrs_len]; simpa using hcs) (fun i hi => ?_) hmode').mono ?_
    · rw [ptrs_len] at hi
      rw [ptrs_getD hi]
      have q1 := hcr i hi
      rw [ptrs_getD hi] at q1
      obtain ⟨q2, _⟩ := q1.ptr_inv
      simp only [Array.empty_append]
      rw [q2, ← (hpn i hi).2]
      exact .ptr i 0 ⟨hi, (hpn i hi).1⟩
    · rintro e u' w3 ⟨⟨v0, rfl⟩, q1, ρ3, V3, Z3, hp3, q2, q3, q4, q5, q6, q7, q8⟩
      show Leaves P fn a2.tmps _ [] (settle u') w3
      rw [q1]
      obtain ⟨r', p1, p2, p3, p4⟩ := g6 hp3 q8
      have hownb : ∀ b, OwnB ρ2 σ2.hp b → b < w2.heap.size ∧ ¬ b < w.heap.size := by
        rintro b ⟨id, o, ho, hb⟩
        exact ⟨(k3.hs.obj id o ho).2.lt b hb, fun hlt => k3.ownd id o b ho hb hlt⟩
      have hext : Ext w w3 (fun _ => False) := k3.ext.trans q3 (fun b hb hlt => (hownb b hb).2 hlt) (fun b hb => (hownb b hb).1)
      have hs5 : Sat ⟨fn.ntmps, a2.defers, w, fun _ => False, Z, 0, ρ⟩ ρ3 V3 Z3 ⟨σ2.fr, hp3, k⟩ a2 w3 := by
        refine ⟨k3.nt, rfl, fun t y hy => ?_, q2, hext, fun id o b ho hb hlt => ?_, fun b o hz => q5 _ _ (k3.z0 b o hz), fun b o hz => ?_, fun id hid => absurd hid (Nat.not_lt_zero _)⟩
        · obtain ⟨i, hi, rfl⟩ := g3 t y hy
          obtain ⟨p5, _⟩ := (k3.fr t _ hy).ptr_inv
          rw [p5, ← (q4 i hi).2]
          exact .ptr i 0 (q4 i hi).1
        · exact (hownb b (q7 id o b ho hb (Nat.lt_of_lt_of_le hlt k3.ext.le))).2 hlt
        · rcases q6 b o hz with p | p | p
          · exact k3.zn b o p
          · exact .inr (.inl (Nat.le_trans k3.ext.le p))
          · exact .inr (.inl (Nat.le_of_not_lt (hownb b p).2))
      obtain ⟨v, hv1, hv2⟩ := results_run hs5 p1
      have hv3 := snap_rel (σ := ⟨fun _ => none, fun _ => none, 0⟩) (q2.sub (F := fun _ => none) (fun id o ho => by cases ho)) hv2 p3
      rw [p4] at hv3
      have hv4 : Rel ρ3 V3 Z3 w3 v r := hv3.mono (fun _ _ => rfl) (fun _ h => h) (fun b o hz => by
        rcases hz with hz | ⟨id, ob, h, _⟩
        · exact hz
        · cases h) (fun _ _ _ => rfl)
      refine ⟨v, hv1, v, Z3, rfl, clo_rel hv4 ?_ _ _, hext, fun b o hz => hs5.z0 b o hz, fun b o hz => ?_⟩
      · rw [← p4]; exact clo_snap p2
      · rcases hs5.zn b o hz with p | p | p
        · exact .inl p
        · exact .inr ⟨p, hs5.hs.lt b o hz⟩
        · exact p.elim
  cases e <;> cases x2 <;> simp only [ExR] at k1
  · exact hfin none .returning (by simp) k2 rfl
  · exact k2.elim
  · exact hfin none .returning (by simp) k2 rfl
  · obtain ⟨v, rfl, hv⟩ := k1
    exact hfin (some _) (.panicking _) (by simp) k2 ⟨v, rfl, hv⟩

def ExE (m : Nat → Nat) (n : Nat) : AEx → AEx → Prop
  | .pan x, .pan y => x = y.ren m ∧ y.ids (· < n)
  | .norm, .norm => True
  | .ret, .ret => True
  | .exit i, .exit j => i = j
  | _, _ => False

def repQ (n : Nat) (m : Nat → Nat) (Q : AEx → St → Prop) (e : AEx) (σ : St) : Prop :=
  ∃ σ3 e', Ent 0 m σ σ3 ∧ (∀ i, i < n → i < σ3.nx) ∧ ExE m σ3.nx e e' ∧ Q e' σ3

/-- Other objects keep their numbers from here on. -/
theorem AW.repin {c : Code} {Q : AEx → St → Prop} {σ' : St} (n2 : Nat) (m m2 : Nat → Nat) (he : Ent 0 m σ σ') (hv : ∀ j, j < n2 → ∃ o, σ'.hp j = some o) (hm : ∀ i, i < E.np → m2 i < n2 ∧ m (m2 i) = i)
    (h : ∀ E' : En, E'.nt = E.nt → E'.np = n2 → AW P E' c (repQ E.np m2 Q) σ') : AW P E c Q σ := by
  intro ρ V Z a w hs hV
  have hs0 : Sat { E with np := 0 } ρ V Z σ a w := ⟨hs.nt, hs.df, hs.fr, hs.hs, hs.ext, hs.ownd, hs.z0, hs.zn, fun id hid => absurd hid (Nat.not_lt_zero _)⟩
  have hs1 := hs0.ent he
  have hs2 : Sat { E with np := n2, r0 := fun i => ρ (m i) } (fun i => ρ (m i)) (fun i => i < σ'.nx ∧ V (m i)) Z σ' a w :=
    ⟨hs1.nt, hs1.df, hs1.fr, hs1.hs, hs1.ext, hs1.ownd, hs1.z0, hs1.zn, fun id hid => by
      obtain ⟨o, ho⟩ := hv id hid
      exact ⟨(hs1.hs.obj id o ho).1, rfl⟩⟩
  refine Code.wp_mono ?_ (h { E with np := n2, r0 := fun i => ρ (m i) } rfl rfl _ _ Z a w hs2 (fun id hid => hid.1))
  rintro e a2 w2 ⟨ρ2, V2, Z2, σ2, x2, k1, ⟨σ3, e', g1, g2, g3, g4⟩, k3, k4⟩
  have k3' : Sat { E with np := 0 } ρ2 V2 Z2 σ2 a2 w2 := ⟨k3.nt, k3.df, k3.fr, k3.hs, k3.ext, k3.ownd, k3.z0, k3.zn, fun id hid => absurd hid (Nat.not_lt_zero _)⟩
  have k5 := k3'.ent g1
  refine ⟨_, _, Z2, σ3, e', ?_, g4, ⟨k5.nt, k5.df, k5.fr, k5.hs, k5.ext, k5.ownd, k5.z0, k5.zn, fun id hid => ?_⟩, fun _ id hid => hid.1⟩
  · cases e <;> cases x2 <;> simp only [ExR] at k1 <;> cases e' <;> simp only [ExE] at g3
    · trivial
    · simp only [ExR]; rw [k1, g3]
    · trivial
    · obtain ⟨v, rfl, hv⟩ := k1
      obtain ⟨rfl, hid⟩ := g3
      exact ⟨v, rfl, rel_ren m2 _ v hid hv⟩
  · obtain ⟨p1, p2⟩ := hm id hid
    obtain ⟨p3, p4⟩ := k3.pn (m2 id) p1
    refine ⟨⟨g2 id hid, p3⟩, ?_⟩
    rw [p4]
    show ρ (m (m2 id)) = E.r0 id
    rw [p2]
    exact (hs.pn id hid).2
end Go.Am

/- The abstract machine: functions that own nothing and may panic. -/
set_option linter.unusedVariables false
set_option linter.unusedSimpArgs false
namespace Go.Am
open Go
variable {P : Program} {E : En} {σ : St}

theorem CallB.sub {f : FuncId} {vs : List AV} {k : Nat} {d : Option Nat} {K0 K : St → Prop} {Kp0 Kp : AV → St → Prop} (h : CallB P f vs σ k d K0 Kp0)
    (hK : ∀ σ', K0 σ' → ∃ σ'', K σ'' ∧ σ''.nx = σ'.nx ∧ σ''.fr = σ'.fr ∧ ∀ id o, σ''.hp id = some o → σ'.hp id = some o)
    (hKp : ∀ x σ', Kp0 x σ' → ∃ σ'', Kp x σ'' ∧ σ''.nx = σ'.nx ∧ σ''.fr = σ'.fr ∧ ∀ id o, σ''.hp id = some o → σ'.hp id = some o) : CallB P f vs σ k d K Kp := by
  refine ⟨h.1, fun E ρ V Z a w args hs hV hd hsz hrel => (h.2 E ρ V Z a w args hs hV hd hsz hrel).mono ?_⟩
  have key : ∀ {ρ' V' Z' σ' σ'' a' w'}, Sat E ρ' V' Z' σ' a' w' → σ''.fr = σ'.fr → (∀ id o, σ''.hp id = some o → σ'.hp id = some o) → Sat E ρ' V' Z' σ'' a' w' := by
    intro ρ' V' Z' σ' σ'' a' w' g h1 h2
    exact ⟨g.nt, g.df, fun t x hx => g.fr t x (h1 ▸ hx), g.hs.sub h2, g.ext, fun id o b ho => g.ownd id o b (h2 _ _ ho), g.z0, g.zn, g.pn⟩
  rintro e w' ⟨ρ', V', Z', h1, h2, ⟨v, σ', rfl, h3, h4, h5⟩ | ⟨v, x, σ', rfl, h3, h4, h5, h6⟩⟩
  · obtain ⟨σ'', g1, g2, g3, g4⟩ := hK σ' h4
    exact ⟨ρ', V', Z', h1, h2, .inl ⟨v, σ'', rfl, g2.trans h3, g1, key h5 g3 g4⟩⟩
  · obtain ⟨σ'', g1, g2, g3, g4⟩ := hKp x σ' h4
    exact ⟨ρ', V', Z', h1, h2, .inr ⟨v, x, σ'', rfl, g2.trans h3, g1, h5, key h6 g3 g4⟩⟩

/-- The contract of a function that owns nothing and may panic. -/
def A0 (P : Program) (f : FuncId) (vs : List AV) (R Rp : AV → Prop) : Prop :=
  ACall P f vs (fun _ => none) 0 0 (fun r hp' => R r ∧ r.clo = true ∧ hp' = fun _ => none) (fun x hp' => Rp x ∧ x.clo = true ∧ hp' = fun _ => none)

theorem A0.intro {f : FuncId} {fn : Func} {c : Code} {vs : List AV} {R Rp : AV → Prop} (hf : P.funcs[f]? = some fn) (hb : fn.body = some c) (hfn : isFn P f = true) (hn : vs.length ≤ fn.ntmps)
    (h : ∀ (E : En) (Q : AEx → St → Prop), E.nt = fn.ntmps → E.np = 0 → (∀ σ, (∃ r, resA P fn.results.toList σ = some r ∧ R r ∧ r.clo = true) → Q .ret σ ∧ Q .norm σ) → (∀ x σ, Rp x → x.clo = true → Q (.pan x) σ) → AW P E c Q ⟨mkPar 0 vs, mkHp [], 0⟩) : A0 P f vs R Rp := by
  have hid : ∀ {x : AV}, x.clo = true → x.ren (fun i => i) = x := fun _ => ren_id _
  have hids : ∀ (p : Nat → Prop) (x : AV), x.clo = true → x.ids p := by
    intro p
    have key : (∀ x : AV, x.clo = true → x.ids p) := by
      intro x
      exact @AV.rec (fun x => x.clo = true → x.ids p) (fun l => AV.cloL l = true → AV.idsL p l) (fun _ _ => trivial) (fun _ _ _ => trivial) (fun _ _ => trivial) (fun _ => trivial) (fun _ _ h => by simp [AV.clo] at h) (fun _ _ _ _ => trivial)
        (fun _ _ _ _ h => by simp [AV.clo] at h) (fun _ => trivial) (fun _ _ _ => trivial) (fun _ h => by simp [AV.clo] at h) (fun _ => trivial) (fun _ h => by simp [AV.clo] at h) (fun _ => trivial)
        (fun _ a b ha hb h => by simp only [AV.clo, Bool.and_eq_true] at h; exact ⟨ha h.1, hb h.2⟩) (fun _ => trivial) (fun _ _ hv h => hv h) (fun _ hl h => hl h) (fun _ hl h => hl h) (fun _ => trivial)
        (fun _ _ ha hl h => by simp only [AV.cloL, Bool.and_eq_true] at h; exact ⟨ha h.1, hl h.2⟩) x
    exact key
  refine ⟨hfn, fun ρ V Z w args hh hnp hnx hsz hrel => ?_⟩
  have hsat := sat_start (nx := 0) hn hh hnp hsz hrel
  have hbody := h _ (fun e σ => match e with | .ret | .norm => ∃ r, resA P fn.results.toList σ = some r ∧ R r ∧ r.clo = true | .pan x => Rp x ∧ x.clo = true | .exit _ => False) rfl rfl (fun σ hσ => ⟨hσ, hσ⟩) (fun x σ h1 h2 => ⟨h1, h2⟩) ρ V Z _ w hsat hnx
  refine calls_of_wp hf hb (Code.wp_mono ?_ hbody)
  rintro e a w' ⟨ρ', V', Z', σ, x, h1, h2, h3, h4⟩
  have h5 : HSat ρ' V' Z' w' (fun _ => none) := h3.hs.sub (fun id o ho => by cases ho)
  have h6 : ∀ id o b, (fun _ => none : Nat → Option AObj) id = some o → (ρ' id).at b → b < w.heap.size → OwnB ρ (fun _ => none) b := fun id o b ho => by cases ho
  have hret : (∃ r, resA P fn.results.toList σ = some r ∧ R r ∧ r.clo = true) → a.defers = [] ∧ ∃ v, (results fn a.tmps).run P w' = .ok v w' ∧ ∃ ρ' V' Z' hp', HSat ρ' V' Z' w' hp' ∧ Ext w w' (OwnB ρ (fun _ => none)) ∧ (∀ id, id < 0 → V' id ∧ ρ' id = ρ id) ∧ (∀ b o, Z b o → Z' b o) ∧
      (∀ b o, Z' b o → Z b o ∨ w.heap.size ≤ b ∨ OwnB ρ (fun _ => none) b) ∧ (∀ id o b, hp' id = some o → (ρ' id).at b → b < w.heap.size → OwnB ρ (fun _ => none) b) ∧
      ((∃ u r, Ending.returned v = .returned u ∧ Rel ρ' V' Z' w' u r ∧ R r ∧ r.clo = true ∧ hp' = fun _ => none) ∨ ∃ u x, Ending.returned v = .panicked [{ v := u, recovered := false }] ∧ Rel ρ' V' Z' w' u x ∧ Rp x ∧ x.clo = true ∧ hp' = fun _ => none) := by
    rintro ⟨r, hr, hR, hc⟩
    obtain ⟨v, hv1, hv2⟩ := results_run h3 hr
    exact ⟨h3.df, v, hv1, ρ', V', Z', fun _ => none, h5, h3.ext, h3.pn, h3.z0, h3.zn, h6, .inl ⟨v, r, rfl, hv2, hR, hc, rfl⟩⟩
  cases e <;> cases x <;> simp only [ExR] at h1
  · exact hret h2
  · exact h2.elim
  · exact hret h2
  · obtain ⟨v, rfl, hv⟩ := h1
    exact ⟨h3.df, ρ', V', Z', fun _ => none, h5, h3.ext, h3.pn, h3.z0, h3.zn, h6, .inr ⟨v, _, rfl, hv, h2.1, h2.2, rfl⟩⟩

theorem clo_ids {p : Nat → Prop} : ∀ {x : AV}, x.clo = true → x.ids p := by
  intro x
  exact @AV.rec (fun x => x.clo = true → x.ids p) (fun l => AV.cloL l = true → AV.idsL p l) (fun _ _ => trivial) (fun _ _ _ => trivial) (fun _ _ => trivial) (fun _ => trivial) (fun _ _ h => by simp [AV.clo] at h) (fun _ _ _ _ => trivial)
    (fun _ _ _ _ h => by simp [AV.clo] at h) (fun _ => trivial) (fun _ _ _ => trivial) (fun _ h => by simp [AV.clo] at h) (fun _ => trivial) (fun _ h => by simp [AV.clo] at h) (fun _ => trivial)
    (fun _ a b ha hb h => by simp only [AV.clo, Bool.and_eq_true] at h; exact ⟨ha h.1, hb h.2⟩) (fun _ => trivial) (fun _ _ hv h => hv h) (fun _ hl h => hl h) (fun _ hl h => hl h) (fun _ => trivial)
    (fun _ _ ha hl h => by simp only [AV.cloL, Bool.and_eq_true] at h; exact ⟨ha h.1, hl h.2⟩) x
theorem clo_ren {m : Nat → Nat} : ∀ {x : AV}, x.clo = true → x.ren m = x := by
  intro x
  refine @AV.rec (fun x => x.clo = true → x.ren m = x) (fun l => AV.cloL l = true → AV.renL m l = l) (fun _ _ => rfl) (fun _ _ _ => rfl) (fun _ _ => rfl) (fun _ => rfl) (fun _ _ h => by simp [AV.clo] at h) (fun _ _ _ _ => rfl)
    (fun _ _ _ _ h => by simp [AV.clo] at h) (fun _ => rfl) (fun _ _ _ => rfl) (fun _ h => by simp [AV.clo] at h) (fun _ => rfl) (fun _ h => by simp [AV.clo] at h) (fun _ => rfl)
    (fun _ a b ha hb h => by simp only [AV.clo, Bool.and_eq_true] at h; simp only [AV.ren, ha h.1, hb h.2]) (fun _ => rfl) (fun _ _ hv h => by simp only [AV.clo] at h; simp only [AV.ren, hv h]) (fun _ hl h => by simp only [AV.clo] at h; simp only [AV.ren, hl h]) (fun _ hl h => by simp only [AV.clo] at h; simp only [AV.ren, hl h]) (fun _ => rfl)
    (fun _ _ ha hl h => by simp only [AV.cloL, Bool.and_eq_true] at h; simp only [AV.renL, ha h.1, hl h.2]) x
theorem cloL_renL {m : Nat → Nat} : ∀ {l : List AV}, AV.cloL l = true → AV.renL m l = l
  | [], _ => rfl
  | x :: l, h => by
    simp only [AV.cloL, Bool.and_eq_true] at h
    simp only [AV.renL, clo_ren h.1, cloL_renL h.2]
theorem cloL_idsL {p : Nat → Prop} : ∀ {l : List AV}, AV.cloL l = true → AV.idsL p l
  | [], _ => trivial
  | x :: l, h => by
    simp only [AV.cloL, Bool.and_eq_true] at h
    exact ⟨clo_ids h.1, cloL_idsL h.2⟩

theorem CallB.of_A0 {f : FuncId} {vs : List AV} {R Rp : AV → Prop} {k : Nat} {d : Option Nat} {K : St → Prop} {Kp : AV → St → Prop} (hA : A0 P f vs R Rp) (hclo : AV.cloL vs = true) (hK : ∀ r, R r → K (σ.put d r)) (hKp : ∀ x, Rp x → Kp x σ) : CallB P f vs σ k d K Kp := by
  refine CallB.sub (K0 := fun σ' => ∃ r, R r ∧ σ'.nx = σ.nx ∧ σ'.fr = (σ.put d r).fr ∧ ∀ id o, σ.hp id = some o → σ'.hp id = some o) (Kp0 := fun x σ' => Rp x ∧ σ'.nx = σ.nx ∧ σ'.fr = σ.fr ∧ ∀ id o, σ.hp id = some o → σ'.hp id = some o) ?_ ?_ ?_
  · refine CallB.of_A hA (fun i => i) (cloL_renL hclo).symm (cloL_idsL hclo) (fun id o h => by cases h) (fun id id' o o' h => by cases h) (fun id h => absurd h (Nat.not_lt_zero _)) ?_ ?_ ?_ ?_
    · rintro r hp' ⟨_, h2, rfl⟩; exact ⟨clo_ids h2, fun id o h => by cases h⟩
    · rintro r hp' ⟨_, h2, rfl⟩; exact ⟨clo_ids h2, fun id o h => by cases h⟩
    · rintro r hp' σ' ⟨h1, h2, rfl⟩ hB
      exact ⟨r, h1, hB.nx, by rw [hB.fr]; simp only [clo_ren h2], fun id o ho => hB.old id o ho (fun j hj => absurd rfl hj)⟩
    · rintro x hp' σ' ⟨h1, h2, rfl⟩ hB
      rw [clo_ren h2]
      exact ⟨h1, hB.nx, hB.fr, fun id o ho => hB.old id o ho (fun j hj => absurd rfl hj)⟩
  · rintro σ' ⟨r, h1, h2, h3, h4⟩
    exact ⟨σ.put d r, hK r h1, by rw [St.put_nx]; exact h2.symm, h3.symm, fun id o ho => h4 id o (by rw [St.put_hp] at ho; exact ho)⟩
  · rintro x σ' ⟨h1, h2, h3, h4⟩
    exact ⟨σ, hKp x h1, h2.symm, h3.symm, h4⟩

/-- A panic with a value. -/
def onI (x : Option AV) (f : AV → Prop) : Prop :=
  match x with
  | some (.iface t y) => f (.iface t y)
  | _ => False
@[go_sem] theorem onI_some {t : TypeId} {y : AV} {f : AV → Prop} : onI (some (.iface t y)) f = f (.iface t y) := _root_.id rfl
@[congr] theorem onI_congr {x y : Option AV} {f : AV → Prop} (h : x = y) : onI x f = onI y f := by rw [h]
@[go_sem ↓, go_sem] theorem goX_panic {k : Nat} {d : Option Tmp} {x : Operand} {ty : TypeId} {pos : String} {aft : Array Edge} {g : Option (Nat × Bool)} {fr : Nat → Option AV} {hp : Nat → Option AObj} {nx : Nat} {K : St → Prop} {Kp : AV → St → Prop} :
    goX P true k ⟨d, .panic x, ty, pos, aft, g⟩ ⟨fr, hp, nx⟩ K Kp = onI (evA ⟨fr, hp, nx⟩ x) fun v => Kp v ⟨fr, hp, nx⟩ := by
  simp only [goX, if_true, onI]
  rfl
end Go.Am

/- Chapter 10: the memory of a lowering. -/
set_option linter.unusedVariables false
set_option linter.unusedSimpArgs false
namespace Go.Low
open Go Go.Am

mutual
theorem ren_clo (m : Nat → Nat) : ∀ x : AV, x.clo = true → x.ren m = x
  | .ptr _ _, h | .rptr _ _ _ _, h | .rw _, h | .mp _, h => by simp [AV.clo] at h
  | .fn f a b, h => by
    simp only [AV.clo, Bool.and_eq_true] at h
    simp only [AV.ren, renL_clo m a h.1, renL_clo m b h.2]
  | .iface t v, h => by
    simp only [AV.clo] at h
    simp only [AV.ren, ren_clo m v h]
  | .agg l, h => by
    simp only [AV.clo] at h
    simp only [AV.ren, renL_clo m l h]
  | .tup l, h => by
    simp only [AV.clo] at h
    simp only [AV.ren, renL_clo m l h]
  | .bool _, _ | .int _ _, _ | .str _, _ | .nilp, _ | .eptr _ _, _ | .nilsl, _ | .sl _, _ | .nilmap, _ | .nilfn, _ | .nilif, _ => rfl
theorem renL_clo (m : Nat → Nat) : ∀ l : List AV, AV.cloL l = true → AV.renL m l = l
  | [], _ => rfl
  | x :: l, h => by
    simp only [AV.cloL, Bool.and_eq_true] at h
    simp only [AV.renL, ren_clo m x h.1, renL_clo m l h.2]
end

mutual
theorem ids_clo (p : Nat → Prop) : ∀ x : AV, x.clo = true → x.ids p
  | .ptr _ _, h | .rptr _ _ _ _, h | .rw _, h | .mp _, h => by simp [AV.clo] at h
  | .fn f a b, h => by
    simp only [AV.clo, Bool.and_eq_true] at h
    exact ⟨idsL_clo p a h.1, idsL_clo p b h.2⟩
  | .iface t v, h => ids_clo p v h
  | .agg l, h => idsL_clo p l h
  | .tup l, h => idsL_clo p l h
  | .bool _, _ | .int _ _, _ | .str _, _ | .nilp, _ | .eptr _ _, _ | .nilsl, _ | .sl _, _ | .nilmap, _ | .nilfn, _ | .nilif, _ => trivial
theorem idsL_clo (p : Nat → Prop) : ∀ l : List AV, AV.cloL l = true → AV.idsL p l
  | [], _ => trivial
  | x :: l, h => by
    simp only [AV.cloL, Bool.and_eq_true] at h
    exact ⟨ids_clo p x h.1, idsL_clo p l h.2⟩
end

mutual
theorem ids_mono {p q : Nat → Prop} : ∀ x : AV, (∀ i, p i → q i) → x.ids p → x.ids q
  | .ptr _ _, h, hx | .rptr _ _ _ _, h, hx | .rw _, h, hx | .mp _, h, hx => h _ hx
  | .fn f a b, h, hx => ⟨idsL_mono a h hx.1, idsL_mono b h hx.2⟩
  | .iface t v, h, hx => ids_mono v h hx
  | .agg l, h, hx => idsL_mono l h hx
  | .tup l, h, hx => idsL_mono l h hx
  | .bool _, _, _ | .int _ _, _, _ | .str _, _, _ | .nilp, _, _ | .eptr _ _, _, _ | .nilsl, _, _ | .sl _, _, _ | .nilmap, _, _ | .nilfn, _, _ | .nilif, _, _ => trivial
theorem idsL_mono {p q : Nat → Prop} : ∀ l : List AV, (∀ i, p i → q i) → AV.idsL p l → AV.idsL q l
  | [], _, _ => trivial
  | x :: l, h, hx => ⟨ids_mono x h hx.1, idsL_mono l h hx.2⟩
end

theorem objids_mono {p q : Nat → Prop} (ob : AObj) (h : ∀ i, p i → q i) (hx : ob.ids p) : ob.ids q := by
  cases ob with
  | cells l => exact idsL_mono l h hx
  | row sz l => exact idsL_mono l h hx
  | map es => exact fun r hr => ⟨ids_mono _ h (hx r hr).1, ids_mono _ h (hx r hr).2⟩

theorem renL_eq (m : Nat → Nat) : ∀ l : List AV, AV.renL m l = l.map (AV.ren m)
  | [] => rfl
  | x :: l => by simp only [AV.renL, List.map_cons, renL_eq m l]

theorem idsL_eq (p : Nat → Prop) : ∀ l : List AV, (∀ x, x ∈ l → x.ids p) → AV.idsL p l
  | [], _ => trivial
  | x :: l, h => ⟨h x (by simp), idsL_eq p l fun y hy => h y (List.mem_cons_of_mem _ hy)⟩

theorem cloL_eq : ∀ l : List AV, (∀ x, x ∈ l → x.clo = true) → AV.cloL l = true
  | [], _ => rfl
  | x :: l, h => by simp only [AV.cloL, Bool.and_eq_true]; exact ⟨h x (by simp), cloL_eq l fun y hy => h y (List.mem_cons_of_mem _ hy)⟩

/-- A block: its instructions, its end, its targets, if any were laid. -/
structure Blk where
  code : List AV
  kind : Int
  a : Int
  tg : Option (List Int)

def tgAV : Option (List Int) → AV
  | none => .nilsl
  | some l => .sl (l.map AV.i)

def cAV (c : Nat) (b : Blk) : AV := if b.code = [] then .nilsl else .rw c

def blkAV (c : Nat) (b : Blk) : AV := .agg [cAV c b, .i b.kind, .i b.a, tgAV b.tg]

def blksAV (c : Nat) : List Blk → List AV
  | [] => []
  | b :: l => blkAV c b :: blksAV (c + 1) l

theorem blksAV_len : ∀ (l : List Blk) (c : Nat), (blksAV c l).length = l.length
  | [], _ => rfl
  | b :: l, c => by simp [blksAV, blksAV_len l]

theorem blksAV_get? : ∀ (l : List Blk) (c i : Nat), (blksAV c l)[i]? = (l[i]?).map (blkAV (c + i))
  | [], c, i => by simp [blksAV]
  | b :: l, c, 0 => by simp [blksAV]
  | b :: l, c, i + 1 => by
    simp only [blksAV, List.getElem?_cons_succ, blksAV_get? l]
    rw [show c + 1 + i = c + (i + 1) by omega]

theorem blksAV_app : ∀ (l l' : List Blk) (c : Nat), blksAV c (l ++ l') = blksAV c l ++ blksAV (c + l.length) l'
  | [], l', c => rfl
  | b :: l, l', c => by
    simp only [List.cons_append, blksAV, blksAV_app l l', List.length_cons]
    rw [show c + 1 + l.length = c + (l.length + 1) by omega]

def codeObj (l : List Blk) (k : Nat) : Option AObj :=
  match l[k]? with
  | some b => if b.code = [] then none else some (.row 7 b.code)
  | none => none

/-- What a lowering is besides its blocks: how many of its objects stay (1, or 2), the object 1, the cells of its struct. -/
structure Hs where
  np : Nat
  o1 : Option AObj
  cs : Int → Nat → List AV

/-- The memory of a lowering: the blocks' row has the number o, their instructions' rows the next ones. -/
def lowHp (md : Hs) (o : Nat) (bl : List Blk) (cur : Int) (id : Nat) : Option AObj :=
  if id = 0 then some (.cells (md.cs cur o))
  else if id = 1 then md.o1
  else if id = o then some (.row 4 (blksAV (o + 1) bl))
  else if o < id then codeObj bl (id - o - 1)
  else none

/-- No instruction names an object. -/
def OkB (bl : List Blk) : Prop := ∀ b, b ∈ bl → ∀ x, x ∈ b.code → x.clo = true
structure OkM (md : Hs) : Prop where
  np : md.np = 1 ∨ md.np = 2 ∧ md.o1 ≠ none
  ob : ∀ ob, md.o1 = some ob → md.np = 2 ∧ (∀ m, ob.ren m = ob) ∧ ∀ p : Nat → Prop, ob.ids p
  ren : ∀ (m : Nat → Nat) cur o, (md.np = 2 → m 1 = 1) → AV.renL m (md.cs cur o) = md.cs cur (m o)
  ids : ∀ (p : Nat → Prop) cur o, p o → p 1 → AV.idsL p (md.cs cur o)

theorem cAV_ren (m : Nat → Nat) (c : Nat) (b : Blk) : (cAV c b).ren m = cAV (m c) b := by
  unfold cAV; split <;> rfl
theorem tgAV_clo (t : Option (List Int)) : (tgAV t).clo = true := by cases t <;> rfl
theorem blkAV_ren (m : Nat → Nat) (c : Nat) (b : Blk) : (blkAV c b).ren m = blkAV (m c) b := by
  simp only [blkAV, AV.ren, AV.renL, cAV_ren, ren_clo m _ (tgAV_clo b.tg)]
theorem blksAV_ren (m : Nat → Nat) (d : Nat) : ∀ (l : List Blk) (c : Nat), (∀ k, k < l.length → m (c + k) = d + (c + k)) → AV.renL m (blksAV c l) = blksAV (d + c) l
  | [], _, _ => rfl
  | b :: l, c, h => by
    simp only [blksAV, AV.renL, blkAV_ren]
    rw [show m c = d + c from h 0 (by simp), blksAV_ren m d l (c + 1) (fun k hk => by have := h (k + 1) (by simpa using hk); rw [show c + 1 + k = c + (k + 1) by omega]; exact this)]
    rfl
theorem blksAV_ren' (m : Nat → Nat) : ∀ (l : List Blk) (c c' : Nat), (∀ k, k < l.length → m (c + k) = c' + k) → AV.renL m (blksAV c l) = blksAV c' l
  | [], _, _, _ => rfl
  | b :: l, c, c', h => by
    simp only [blksAV, AV.renL, blkAV_ren]
    rw [show m c = c' from h 0 (by simp), blksAV_ren' m l (c + 1) (c' + 1) (fun k hk => by have := h (k + 1) (by simpa using hk); rw [show c + 1 + k = c + (k + 1) by omega, this]; omega)]

theorem blksAV_ids (p : Nat → Prop) : ∀ (l : List Blk) (c : Nat), (∀ k, k < l.length → p (c + k)) → AV.idsL p (blksAV c l)
  | [], _, _ => trivial
  | b :: l, c, h => by
    refine ⟨⟨?_, trivial, trivial, ids_clo p _ (tgAV_clo b.tg), trivial⟩, blksAV_ids p l (c + 1) (fun k hk => by have := h (k + 1) (by simpa using hk); rw [show c + 1 + k = c + (k + 1) by omega]; exact this)⟩
    unfold cAV
    split
    · trivial
    · exact h 0 (by simp)

theorem map_clo_ren (m : Nat → Nat) {md : List (AV × AV)} (h : ∀ p, p ∈ md → p.1.clo = true ∧ p.2.clo = true) : (AObj.map md).ren m = .map md := by
  simp only [AObj.ren]
  congr 1
  have : ∀ l : List (AV × AV), (∀ p, p ∈ l → p.1.clo = true ∧ p.2.clo = true) → l.map (fun p => (p.1.ren m, p.2.ren m)) = l := by
    intro l
    induction l with
    | nil => intro _; rfl
    | cons p l ih =>
      intro h
      rw [List.map_cons, ih (fun q hq => h q (List.mem_cons_of_mem _ hq)), ren_clo m _ (h p (by simp)).1, ren_clo m _ (h p (by simp)).2]
  exact this md h

theorem code_clo_ren (m : Nat → Nat) {l : List AV} (h : ∀ x, x ∈ l → x.clo = true) : (AObj.row 7 l).ren m = .row 7 l := by
  simp only [AObj.ren, renL_clo m l (cloL_eq l h)]

theorem codeObj_some {l : List Blk} {k : Nat} {o : AObj} (h : codeObj l k = some o) : ∃ b, l[k]? = some b ∧ b.code ≠ [] ∧ o = .row 7 b.code ∧ k < l.length := by
  unfold codeObj at h
  cases hb : l[k]? with
  | none => simp [hb] at h
  | some b =>
    simp only [hb] at h
    split at h
    · cases h
    · rename_i hne
      cases h
      refine ⟨b, rfl, hne, rfl, ?_⟩
      rcases Nat.lt_or_ge k l.length with h | h
      · exact h
      · rw [List.getElem?_eq_none h] at hb; cases hb

/-- The cases of the memory. -/
theorem lowHp_cases {md : Hs} {o : Nat} {bl : List Blk} {cur : Int} {id : Nat} {ob : AObj} (ho : 2 ≤ o) (h : lowHp md o bl cur id = some ob) :
    (id = 0 ∧ ob = .cells (md.cs cur o)) ∨ (id = 1 ∧ md.o1 = some ob) ∨ (id = o ∧ ob = .row 4 (blksAV (o + 1) bl)) ∨ (∃ k b, id = o + 1 + k ∧ k < bl.length ∧ bl[k]? = some b ∧ b.code ≠ [] ∧ ob = .row 7 b.code) := by
  unfold lowHp at h
  split at h
  · cases h; exact .inl ⟨‹_›, rfl⟩
  · split at h
    · exact .inr (.inl ⟨‹_›, h⟩)
    · split at h
      · cases h; exact .inr (.inr (.inl ⟨‹_›, rfl⟩))
      · split at h
        · obtain ⟨b, h1, h2, h3, h4⟩ := codeObj_some h
          exact .inr (.inr (.inr ⟨_, b, by omega, h4, h1, h2, h3⟩))
        · cases h

theorem lowHp_lt {md : Hs} {o : Nat} {bl : List Blk} {cur : Int} {id : Nat} {ob : AObj} (ho : 2 ≤ o) (hb : OkB bl) (hm : OkM md) (h : lowHp md o bl cur id = some ob) : id < o + 1 + bl.length ∧ ob.ids (· < o + 1 + bl.length) := by
  rcases lowHp_cases ho h with ⟨rfl, rfl⟩ | ⟨rfl, ho1⟩ | ⟨rfl, rfl⟩ | ⟨k, b, rfl, hk, h1, h2, rfl⟩
  · exact ⟨by omega, hm.ids _ _ _ (show _ < _ by omega) (show _ < _ by omega)⟩
  · exact ⟨by omega, (hm.ob _ ho1).2.2 _⟩
  · exact ⟨by omega, blksAV_ids _ bl _ fun k hk => by omega⟩
  · exact ⟨by omega, idsL_clo _ _ (cloL_eq _ (hb b (List.mem_of_getElem? h1)))⟩

theorem lowHp_none {md : Hs} {o : Nat} {bl : List Blk} {cur : Int} {id : Nat} (h2 : 2 ≤ id) (h : id < o ∨ o + bl.length < id) : lowHp md o bl cur id = none := by
  unfold lowHp
  rw [if_neg (by omega), if_neg (by omega)]
  rcases h with h | h
  · rw [if_neg (by omega), if_neg (by omega)]
  · rw [if_neg (by omega), if_pos (by omega)]
    unfold codeObj
    rw [List.getElem?_eq_none (by omega)]

theorem lowHp_code {md : Hs} {o : Nat} {bl : List Blk} {cur : Int} {id k : Nat} {b : Blk} (hid : id = o + 1 + k ∧ 2 ≤ o) (hk : bl[k]? = some b) (hc : b.code ≠ []) : lowHp md o bl cur id = some (.row 7 b.code) := by
  obtain ⟨rfl, ho⟩ := hid
  unfold lowHp
  rw [if_neg (by omega), if_neg (by omega), if_neg (by omega), if_pos (by omega), show o + 1 + k - o - 1 = k by omega]
  unfold codeObj
  rw [hk]
  simp only
  rw [if_neg hc]

theorem blksAV_rep : ∀ (n c : Nat), blksAV c (List.replicate n ⟨[], 0, 0, none⟩) = List.replicate n (.agg [.nilsl, .i 0, .i 0, .nilsl])
  | 0, _ => rfl
  | n + 1, c => by rw [List.replicate_succ, List.replicate_succ, blksAV, blksAV_rep n]; rfl

/-- A memory that holds that of a lowering. -/
def LowIn (hp : Nat → Option AObj) (md : Hs) (o : Nat) (bl : List Blk) (cur : Int) : Prop := ∀ id ob, lowHp md o bl cur id = some ob → hp id = some ob

theorem lowHp_cur {md : Hs} {o : Nat} {bl : List Blk} {cur cur' : Int} {id : Nat} (h : id ≠ 0) : lowHp md o bl cur id = lowHp md o bl cur' id := by
  unfold lowHp; rw [if_neg h, if_neg h]

theorem LowIn.upd {hp : Nat → Option AObj} {md : Hs} {o : Nat} {bl : List Blk} {cur : Int} {i : Nat} {x : Option AObj} (h : LowIn hp md o bl cur) (hi : lowHp md o bl cur i = none) : LowIn (updo hp i x) md o bl cur := by
  intro id ob hid
  simp only [updo]
  split
  · rename_i e; rw [e, hi] at hid; cases hid
  · exact h id ob hid

theorem LowIn.cur {hp : Nat → Option AObj} {md : Hs} {o : Nat} {bl : List Blk} {cur : Int} {cur' : Int} (h : LowIn hp md o bl cur) : LowIn (updo hp 0 (some (.cells (md.cs cur' o)))) md o bl cur' := by
  intro id ob hid
  simp only [updo]
  split
  · rename_i e; subst e; exact hid
  · rename_i e; exact h id ob (by rw [lowHp_cur e]; exact hid)

theorem blksAV_set : ∀ (l : List Blk) (c k : Nat) (b : Blk), (blksAV c l).set k (blkAV (c + k) b) = blksAV c (l.set k b)
  | [], _, _, _ => rfl
  | x :: l, c, 0, b => rfl
  | x :: l, c, k + 1, b => by
    simp only [blksAV, List.set_cons_succ]
    rw [← blksAV_set l (c + 1) k b, show c + 1 + k = c + (k + 1) by omega]

theorem codeObj_set {l : List Blk} {k : Nat} {b b' : Blk} (h : l[k]? = some b) (hc : b'.code = b.code) (j : Nat) : codeObj (l.set k b') j = codeObj l j := by
  unfold codeObj
  have hlt : k < l.length := (List.getElem?_eq_some_iff.1 h).1
  by_cases e : j = k
  · subst e
    rw [List.getElem?_set_self hlt, h]
    simp only [hc]
  · rw [List.getElem?_set_ne (Ne.symm e)]

theorem LowIn.set {hp : Nat → Option AObj} {md : Hs} {o : Nat} {bl : List Blk} {cur : Int} (h : LowIn hp md o bl cur) (ho : 2 ≤ o) {k : Nat} {b b' : Blk} (hk : bl[k]? = some b) (hc : b'.code = b.code) :
    LowIn (updo hp o (some (.row 4 (blksAV (o + 1) (bl.set k b'))))) md o (bl.set k b') cur := by
  intro id ob hid
  have e : lowHp md o (bl.set k b') cur id = if id = o then some (.row 4 (blksAV (o + 1) (bl.set k b'))) else lowHp md o bl cur id := by
    unfold lowHp
    rw [codeObj_set hk hc]
    by_cases h0 : id = 0
    · rw [if_pos h0, if_pos h0, if_neg (by omega)]
    · by_cases h1 : id = 1
      · rw [if_neg h0, if_neg h0, if_pos h1, if_pos h1, if_neg (by omega)]
      · rw [if_neg h0, if_neg h0, if_neg h1, if_neg h1]
        by_cases h2 : id = o
        · rw [if_pos h2, if_pos h2]
        · rw [if_neg h2, if_neg h2, if_neg h2]
  rw [e] at hid
  simp only [updo]
  split
  · rename_i h2; rw [if_pos h2] at hid; exact hid
  · rename_i h2; rw [if_neg h2] at hid; exact h id ob hid

theorem OkB.set {bl : List Blk} (h : OkB bl) {k : Nat} {b b' : Blk} (hk : bl[k]? = some b) (hc : b'.code = b.code) : OkB (bl.set k b') := by
  intro x hx
  rcases List.mem_or_eq_of_mem_set hx with hx | rfl
  · exact h x hx
  · rw [hc]; exact h b (List.mem_of_getElem? hk)

/-- The contract of a method of a lowering. -/
def LCall (P : Program) (f : FuncId) (vs : List AV) (md : Hs) (bl : List Blk) (cur : Int) (F Fp : AV → List Blk → Int → Prop) : Prop :=
  ACall P f (.ptr 0 0 :: vs) (lowHp md 2 bl cur) (3 + bl.length) md.np (fun r hp' => ∃ bl' cur', F r bl' cur' ∧ r.clo = true ∧ OkB bl' ∧ bl'.length ≤ 500000 ∧ hp' = lowHp md 2 bl' cur')
    (fun x hp' => ∃ bl' cur', Fp x bl' cur' ∧ x.clo = true ∧ OkB bl' ∧ bl'.length ≤ 500000 ∧ hp' = lowHp md 2 bl' cur')

def low2 (o : Nat) (j : Nat) : Nat := if j < 2 then j else o + (j - 2)

theorem low2_obj {md : Hs} {o : Nat} {bl : List Blk} {cur : Int} {j : Nat} {ob : AObj} {m : Nat → Nat} (ho : 2 ≤ o) (hb : OkB bl) (hm : OkM md) (hmj : ∀ j, (j = 1 → md.np = 2) → m j = low2 o j) (h : lowHp md 2 bl cur j = some ob) : lowHp md o bl cur (m j) = some (ob.ren m) := by
  rcases lowHp_cases (Nat.le_refl 2) h with ⟨rfl, rfl⟩ | ⟨rfl, ho1⟩ | ⟨rfl, rfl⟩ | ⟨k, b, rfl, hk, h1, h2, rfl⟩
  · rw [show m 0 = 0 from hmj 0 (by simp)]
    show some _ = some (AObj.cells (AV.renL m (md.cs cur 2)))
    rw [hm.ren m cur 2 (fun h2 => hmj 1 (fun _ => h2)), show m 2 = o from hmj 2 (by simp)]
  · rw [show m 1 = 1 from hmj 1 (fun _ => (hm.ob _ ho1).1), (hm.ob _ ho1).2.1 m]; exact ho1
  · rw [show m 2 = o from hmj 2 (by simp)]
    unfold lowHp
    rw [if_neg (by omega), if_neg (by omega), if_pos rfl]
    simp only [AObj.ren]
    rw [blksAV_ren' m bl (2 + 1) (o + 1) (fun k hk => by rw [hmj _ (by omega)]; unfold low2; rw [if_neg (by omega)]; omega)]
  · rw [show m (2 + 1 + k) = o + 1 + k by rw [hmj _ (by omega)]; unfold low2; rw [if_neg (by omega)]; omega, code_clo_ren m (hb b (List.mem_of_getElem? h1))]
    unfold lowHp
    rw [if_neg (by omega), if_neg (by omega), if_neg (by omega), if_pos (by omega), show o + 1 + k - o - 1 = k by omega]
    unfold codeObj
    rw [h1]
    simp only
    rw [if_neg h2]

theorem low2_onto {md : Hs} {o : Nat} {bl : List Blk} {cur : Int} {id : Nat} {ob : AObj} (ho : 2 ≤ o) (h : lowHp md o bl cur id = some ob) : ∃ j ob', lowHp md 2 bl cur j = some ob' ∧ low2 o j = id := by
  rcases lowHp_cases ho h with ⟨rfl, rfl⟩ | ⟨rfl, ho1⟩ | ⟨rfl, rfl⟩ | ⟨k, b, rfl, hk, h1, h2, rfl⟩
  · exact ⟨0, _, rfl, rfl⟩
  · exact ⟨1, _, ho1, rfl⟩
  · exact ⟨2, _, rfl, by simp [low2]⟩
  · refine ⟨3 + k, .row 7 b.code, ?_, ?_⟩
    · unfold lowHp
      rw [if_neg (by omega), if_neg (by omega), if_neg (by omega), if_pos (by omega), show 3 + k - 2 - 1 = k by omega]
      unfold codeObj
      rw [h1]
      simp only
      rw [if_neg h2]
    · unfold low2
      rw [if_neg (by omega)]; omega

variable {P : Program} {E : En} {Q : AEx → St → Prop} {σ : St}

theorem LCall.use {f : FuncId} {vs : List AV} {md : Hs} {bl : List Blk} {cur : Int} {F Fp : AV → List Blk → Int → Prop} (hA : LCall P f vs md bl cur F Fp) (hvs : AV.cloL vs = true) (hm : OkM md) (hb : OkB bl) {o : Nat} (ho : 2 ≤ o) (hσ : LowIn σ.hp md o bl cur)
    {k : Nat} {d : Option Nat} {K : St → Prop} {Kp : AV → St → Prop} (hnx : 2 ≤ σ.nx)
    (hK : ∀ r bl' cur' σ', F r bl' cur' → r.clo = true → OkB bl' → bl'.length ≤ 500000 → σ'.nx = σ.nx → σ'.fr = (σ.put d r).fr → LowIn σ'.hp md (σ.nx + 1048576 * k + (2 - md.np)) bl' cur' → (∀ id ob, σ.hp id = some ob → lowHp md o bl cur id = none → σ'.hp id = some ob) → K σ')
    (hKp : ∀ x bl' cur' σ', Fp x bl' cur' → x.clo = true → OkB bl' → bl'.length ≤ 500000 → σ'.nx = σ.nx → σ'.fr = σ.fr → LowIn σ'.hp md (σ.nx + 1048576 * k + (2 - md.np)) bl' cur' → (∀ id ob, σ.hp id = some ob → lowHp md o bl cur id = none → σ'.hp id = some ob) → Kp x σ') :
    CallB P f (.ptr 0 0 :: vs) σ k d K Kp := by
  have hback : ∀ j, (j = 1 → md.np = 2) → backM (low2 o) md.np (σ.nx + 1048576 * k) j = low2 (σ.nx + 1048576 * k + (2 - md.np)) j := by
    intro j hj
    unfold backM low2
    rcases hm.np with h2 | ⟨h2, _⟩
    · rw [h2]
      by_cases h : j = 0
      · simp [h]
      · have : j ≠ 1 := fun e => by have := hj e; omega
        rw [if_neg (by omega), if_neg (by omega)]; omega
    · rw [h2]
      by_cases h : j < 2
      · simp [h]
      · simp [h]
  have hlow : ∀ σ' bl' cur' r, OkB bl' → Back σ σ' (low2 o) (lowHp md 2 bl cur) md.np (σ.nx + 1048576 * k) d r (lowHp md 2 bl' cur') → LowIn σ'.hp md (σ.nx + 1048576 * k + (2 - md.np)) bl' cur' ∧ (∀ id ob, σ.hp id = some ob → lowHp md o bl cur id = none → σ'.hp id = some ob) := by
    intro σ' bl' cur' r hb' hB
    refine ⟨fun id ob hid => ?_, fun id ob h1 h2 => hB.old id ob h1 fun j hj e => ?_⟩
    · obtain ⟨j, ob', h1, h2⟩ := low2_onto (by omega) hid
      have h3 := hB.obj j ob' h1
      have hj1 : j = 1 → md.np = 2 := by
        rintro rfl
        exact (hm.ob ob' (by simpa [lowHp] using h1)).1
      have h4 := low2_obj (o := σ.nx + 1048576 * k + (2 - md.np)) (by omega) hb' hm hback h1
      rw [hback j hj1, h2] at h3 h4
      rw [hid] at h4
      rw [h3, Option.some.inj h4]
    · cases ho' : lowHp md 2 bl cur j with
      | none => exact hj ho'
      | some ob' =>
        have := low2_obj (o := o) ho hb hm (m := low2 o) (fun _ _ => rfl) ho'
        rw [e, h2] at this
        cases this
  refine CallB.of_A hA (low2 o) ?_ ?_ ?_ ?_ ?_ ?_ ?_ ?_ ?_
  · simp only [AV.renL, AV.ren, renL_clo _ _ hvs]; rfl
  · exact ⟨show 0 < _ by omega, idsL_clo _ _ hvs⟩
  · intro id ob hid
    have h1 := lowHp_lt (Nat.le_refl 2) hb hm hid
    exact ⟨hσ _ _ (low2_obj ho hb hm (fun _ _ => rfl) hid), h1⟩
  · intro id id' o1 o2 _ _ e
    unfold low2 at e
    split at e <;> split at e <;> omega
  · intro id hid
    rcases hm.np with h2 | ⟨h2, h3⟩
    · obtain rfl : id = 0 := by omega
      exact ⟨by omega, by simp [lowHp]⟩
    · have : id = 0 ∨ id = 1 := by omega
      rcases this with rfl | rfl
      · exact ⟨by omega, by simp [lowHp]⟩
      · exact ⟨by omega, by simpa [lowHp] using h3⟩
  · rintro r hp' ⟨bl', cur', h1, h2, h3, h4, rfl⟩
    refine ⟨ids_clo _ _ h2, fun id ob hid => ?_⟩
    have h5 := lowHp_lt (Nat.le_refl 2) h3 hm hid
    have := hm.np
    exact ⟨by omega, objids_mono _ (fun i hi => by omega) h5.2⟩
  · rintro r hp' ⟨bl', cur', h1, h2, h3, h4, rfl⟩
    refine ⟨ids_clo _ _ h2, fun id ob hid => ?_⟩
    have h5 := lowHp_lt (Nat.le_refl 2) h3 hm hid
    have := hm.np
    exact ⟨by omega, objids_mono _ (fun i hi => by omega) h5.2⟩
  · rintro r hp' σ' ⟨bl', cur', h1, h2, h3, h4, rfl⟩ hB
    have h5 := hlow σ' bl' cur' _ h3 hB
    exact hK r bl' cur' σ' h1 h2 h3 h4 hB.nx (by rw [hB.fr]; simp only [ren_clo _ r h2]) h5.1 h5.2
  · rintro r hp' σ' ⟨bl', cur', h1, h2, h3, h4, rfl⟩ hB
    have h5 := hlow σ' bl' cur' _ h3 hB
    rw [ren_clo _ r h2]
    exact hKp r bl' cur' σ' h1 h2 h3 h4 hB.nx hB.fr h5.1 h5.2

/-- Some objects laid on others. -/
def hpOn : List (Nat × AObj) → (Nat → Option AObj) → Nat → Option AObj
  | [], h => h
  | (i, o) :: l, h => updo (hpOn l h) i (some o)

/-- The state of a method: known slots, known objects of its own, the memory of the lowering. -/
def lowSt (fr : List (Nat × AV)) (loc : List (Nat × AObj)) (md : Hs) (bl : List Blk) (cur : Int) : St := ⟨mkFr fr, hpOn loc (lowHp md 10 bl cur), 1000000⟩

def lowM (q : Nat → Nat) (base : Nat) (id : Nat) : Nat := if id < 2 then id else if id < 10 then q id else base + (id - 10)

theorem mkFr_mem {fr : List (Nat × AV)} {t : Nat} {x : AV} (h : mkFr fr t = some x) : (t, x) ∈ fr := by
  induction fr with
  | nil => cases h
  | cons p fr ih =>
    obtain ⟨t', x'⟩ := p
    simp only [mkFr, upd] at h
    split at h
    · rename_i e; cases h; simp [e]
    · exact List.mem_cons_of_mem _ (ih h)

theorem hpOn_mem {loc : List (Nat × AObj)} {hp : Nat → Option AObj} {i : Nat} {x : AObj} (h : hpOn loc hp i = some x) : (i, x) ∈ loc ∨ hp i = some x := by
  induction loc with
  | nil => exact .inr h
  | cons p loc ih =>
    obtain ⟨t', x'⟩ := p
    simp only [hpOn, updo] at h
    split at h
    · rename_i e; cases h; simp [e]
    · exact (ih h).imp (List.mem_cons_of_mem _) (fun h => h)

theorem lowM_obj {md : Hs} {o : Nat} {bl : List Blk} {cur : Int} {j : Nat} {ob : AObj} {m : Nat → Nat} (ho : 2 ≤ o) (hb : OkB bl) (hm : OkM md) (m0 : m 0 = 0) (m1 : m 1 = 1) (hmj : ∀ k, m (10 + k) = o + k) (h : lowHp md 10 bl cur j = some ob) : lowHp md o bl cur (m j) = some (ob.ren m) := by
  rcases lowHp_cases (by omega) h with ⟨rfl, rfl⟩ | ⟨rfl, ho1⟩ | ⟨rfl, rfl⟩ | ⟨k, b, rfl, hk, h1, h2, rfl⟩
  · rw [m0]
    show some _ = some (AObj.cells (AV.renL m (md.cs cur 10)))
    rw [hm.ren m cur 10 (fun _ => m1), show m 10 = o from hmj 0]
  · rw [m1, (hm.ob _ ho1).2.1 m]; exact ho1
  · rw [show m 10 = o from hmj 0]
    unfold lowHp
    rw [if_neg (by omega), if_neg (by omega), if_pos rfl]
    simp only [AObj.ren]
    rw [blksAV_ren' m bl (10 + 1) (o + 1) (fun k hk => by rw [show 10 + 1 + k = 10 + (1 + k) by omega, hmj]; omega)]
  · rw [show m (10 + 1 + k) = o + 1 + k by rw [show 10 + 1 + k = 10 + (1 + k) by omega, hmj]; omega, code_clo_ren m (hb b (List.mem_of_getElem? h1))]
    unfold lowHp
    rw [if_neg (by omega), if_neg (by omega), if_neg (by omega), if_pos (by omega), show o + 1 + k - o - 1 = k by omega]
    unfold codeObj
    rw [h1]
    simp only
    rw [if_neg h2]

/-- What is known can be brought into the form of a method's state. -/
theorem ent_low {fr : List (Nat × AV)} {loc : List (Nat × AObj)} {md : Hs} {bl : List Blk} {cur : Int} {base : Nat} (q : Nat → Nat) (hb : OkB bl) (hlen : bl.length ≤ 500000) (hm : OkM md) (hbase : 2 ≤ base) (hl : LowIn σ.hp md base bl cur)
    (h1 : ∀ p, p ∈ fr → σ.fr p.1 = some (p.2.ren (lowM q base)) ∧ p.2.ids (· < 1000000))
    (h2 : ∀ p, p ∈ loc → 2 ≤ p.1 ∧ p.1 < 10 ∧ σ.hp (q p.1) = some (p.2.ren (lowM q base)) ∧ p.2.ids (· < 1000000) ∧ lowHp md base bl cur (q p.1) = none) (h3 : loc.Pairwise fun a b => q a.1 ≠ q b.1) :
    Ent md.np (lowM q base) σ (lowSt fr loc md bl cur) := by
  have m0 : lowM q base 0 = 0 := rfl
  have m1 : lowM q base 1 = 1 := rfl
  have mk : ∀ k, lowM q base (10 + k) = base + k := by
    intro k
    unfold lowM
    rw [if_neg (by omega), if_neg (by omega)]; omega
  refine ⟨fun t x hx => h1 _ (mkFr_mem hx), fun id o ho => ?_, fun id id' o o' ho ho' he => ?_, fun id hid => ⟨?_, ?_⟩⟩
  · rcases hpOn_mem ho with h | h
    · have g := h2 _ h
      have e : lowM q base id = q id := by
        unfold lowM
        rw [if_neg (by have := g.1; simp only at this; omega), if_pos g.2.1]
      rw [e]
      exact ⟨g.2.2.1, by have := g.2.1; show id < 1000000; simp only at this; omega, g.2.2.2.1⟩
    · have g := lowHp_lt (by omega) hb hm h
      exact ⟨hl _ _ (lowM_obj hbase hb hm m0 m1 mk h), by show id < 1000000; omega, objids_mono _ (fun i hi => by show i < 1000000; omega) g.2⟩
  · have key : ∀ {i o}, (i, o) ∈ loc → lowM q base i = q i := by
      intro i o h
      have g := h2 _ h
      simp only at g
      unfold lowM
      rw [if_neg (by omega), if_pos g.2.1]
    have mix : ∀ {i o j ob}, (i, o) ∈ loc → lowHp md 10 bl cur j = some ob → lowM q base i = lowM q base j → False := by
      intro i o j ob h g e
      rw [key h] at e
      have g2 := lowM_obj (m := lowM q base) hbase hb hm m0 m1 mk g
      rw [← e, (h2 _ h).2.2.2.2] at g2
      cases g2
    rcases hpOn_mem ho with h | h <;> rcases hpOn_mem ho' with h' | h'
    · by_cases e : id = id'
      · exact e
      · exfalso
        rw [key h, key h'] at he
        have pw : ∀ (l : List (Nat × AObj)), l.Pairwise (fun a b => q a.1 ≠ q b.1) → (id, o) ∈ l → (id', o') ∈ l → False := by
          intro l
          induction l with
          | nil => intro _ h; cases h
          | cons p l ih =>
            intro hp g g'
            rw [List.pairwise_cons] at hp
            rcases List.mem_cons.1 g with e1 | g1 <;> rcases List.mem_cons.1 g' with e2 | g2
            · rw [← e1] at e2; exact e (congrArg Prod.fst e2).symm
            · have := hp.1 _ g2; rw [← e1] at this; exact this he
            · have := hp.1 _ g1; rw [← e2] at this; exact this he.symm
            · exact ih hp.2 g1 g2
        exact pw loc h3 h h'
    · exact (mix h h' he).elim
    · exact (mix h' h he.symm).elim
    · have f1 : id < 2 ∨ 10 ≤ id := by rcases lowHp_cases (by omega) h with ⟨e1, _⟩ | ⟨e1, _⟩ | ⟨e1, _⟩ | ⟨k, b, e1, _⟩ <;> omega
      have f2 : id' < 2 ∨ 10 ≤ id' := by rcases lowHp_cases (by omega) h' with ⟨e1, _⟩ | ⟨e1, _⟩ | ⟨e1, _⟩ | ⟨k, b, e1, _⟩ <;> omega
      have g : ∀ i, 10 ≤ i → lowM q base i = base + (i - 10) := by
        intro i hi; unfold lowM; rw [if_neg (by omega), if_neg (by omega)]
      have g2 : ∀ i, i < 2 → lowM q base i = i := by
        intro i hi; unfold lowM; rw [if_pos hi]
      rcases f1 with f1 | f1 <;> rcases f2 with f2 | f2
      · rw [g2 _ f1, g2 _ f2] at he; exact he
      · rw [g2 _ f1, g _ f2] at he; omega
      · rw [g _ f1, g2 _ f2] at he; omega
      · rw [g _ f1, g _ f2] at he; omega
  · have := hm.np; unfold lowM; rw [if_pos (by omega)]
  · have := hm.np; show id < 1000000; omega

theorem ACall.of_body' {f : FuncId} {fn : Func} {c : Code} {vs : List AV} {hp : Nat → Option AObj} {nx np : Nat} {R Rp : AV → (Nat → Option AObj) → Prop} (hf : P.funcs[f]? = some fn) (hfn : isFn P f = true) (hb : fn.body = some c) (hn : vs.length ≤ fn.ntmps)
    (h : ∀ (E : En) (Q : AEx → St → Prop), E.nt = fn.ntmps → E.np = np → (∀ σ, (∃ r m hc nc, resA P fn.results.toList σ = some (r.ren m) ∧ r.ids (· < nc) ∧ Ent np m σ ⟨fun _ => none, hc, nc⟩ ∧ R r hc) → Q .ret σ ∧ Q .norm σ) →
      (∀ x σ, (∃ y m hc nc, x = y.ren m ∧ y.ids (· < nc) ∧ Ent np m σ ⟨fun _ => none, hc, nc⟩ ∧ Rp y hc) → Q (.pan x) σ) → AW P E c Q ⟨mkPar 0 vs, hp, nx⟩) : ACall P f vs hp nx np R Rp := by
  refine ⟨hfn, fun ρ V Z w args hh hnp hnx hsz hrel => ?_⟩
  have hsat := sat_start (nx := nx) hn hh hnp hsz hrel
  have hbody := h _ (fun e σ => match e with | .ret | .norm => ∃ r m hc nc, resA P fn.results.toList σ = some (r.ren m) ∧ r.ids (· < nc) ∧ Ent np m σ ⟨fun _ => none, hc, nc⟩ ∧ R r hc | .pan x => ∃ y m hc nc, x = y.ren m ∧ y.ids (· < nc) ∧ Ent np m σ ⟨fun _ => none, hc, nc⟩ ∧ Rp y hc | .exit _ => False) rfl rfl (fun σ hσ => ⟨hσ, hσ⟩) (fun x σ hσ => hσ) ρ V Z _ w hsat hnx
  refine calls_of_wp hf hb (Code.wp_mono ?_ hbody)
  rintro e a w' ⟨ρ', V', Z', σ, x, h1, h2, h3, h4⟩
  have hret : (∃ r m hc nc, resA P fn.results.toList σ = some (r.ren m) ∧ r.ids (· < nc) ∧ Ent np m σ ⟨fun _ => none, hc, nc⟩ ∧ R r hc) → a.defers = [] ∧ ∃ v, (results fn a.tmps).run P w' = .ok v w' ∧ ∃ ρ' V' Z' hp', HSat ρ' V' Z' w' hp' ∧ Ext w w' (OwnB ρ hp) ∧ (∀ id, id < np → V' id ∧ ρ' id = ρ id) ∧ (∀ b o, Z b o → Z' b o) ∧
      (∀ b o, Z' b o → Z b o ∨ w.heap.size ≤ b ∨ OwnB ρ hp b) ∧ (∀ id o b, hp' id = some o → (ρ' id).at b → b < w.heap.size → OwnB ρ hp b) ∧
      ((∃ u r, Ending.returned v = .returned u ∧ Rel ρ' V' Z' w' u r ∧ R r hp') ∨ ∃ u x, Ending.returned v = .panicked [{ v := u, recovered := false }] ∧ Rel ρ' V' Z' w' u x ∧ Rp x hp') := by
    rintro ⟨r, m, hc, nc, hr, hid, he, hR⟩
    obtain ⟨v, hv1, hv2⟩ := results_run h3 hr
    have h5 := h3.ent he
    exact ⟨h3.df, v, hv1, _, _, Z', hc, h5.hs, h5.ext, h5.pn, h5.z0, h5.zn, h5.ownd, .inl ⟨v, r, rfl, rel_ren m r v hid hv2, hR⟩⟩
  cases e <;> cases x <;> simp only [ExR] at h1
  · exact hret h2
  · exact h2.elim
  · exact hret h2
  · obtain ⟨v, rfl, hv⟩ := h1
    obtain ⟨y, m, hc, nc, rfl, hid, he, hR⟩ := h2
    have h5 := h3.ent he
    exact ⟨h3.df, _, _, Z', hc, h5.hs, h5.ext, h5.pn, h5.z0, h5.zn, h5.ownd, .inr ⟨v, y, rfl, rel_ren m y v hid hv, hR⟩⟩

theorem ent_out {md : Hs} {bl : List Blk} {cur : Int} {base : Nat} (hb : OkB bl) (hm : OkM md) (hbase : 2 ≤ base) (hl : LowIn σ.hp md base bl cur) : Ent md.np (low2 base) σ ⟨fun _ => none, lowHp md 2 bl cur, 3 + bl.length⟩ := by
  refine ⟨fun t x hx => (by cases hx), fun id o ho => ?_, fun id id' o o' ho ho' he => ?_, fun id hid => ⟨?_, ?_⟩⟩
  · have g := lowHp_lt (Nat.le_refl 2) hb hm ho
    exact ⟨hl _ _ (low2_obj hbase hb hm (fun _ _ => rfl) ho), by show id < 3 + bl.length; omega, objids_mono _ (fun i hi => by show i < 3 + bl.length; omega) g.2⟩
  · unfold low2 at he
    split at he <;> split at he <;> omega
  · have := hm.np; unfold low2; rw [if_pos (by omega)]
  · have := hm.np; show id < 3 + bl.length; omega

/-- The memory that a method leaves. -/
def Out (σ : St) (md : Hs) (bl : List Blk) (cur : Int) : Prop := OkB bl ∧ bl.length ≤ 500000 ∧ ∃ m, Ent md.np m σ ⟨fun _ => none, lowHp md 2 bl cur, 3 + bl.length⟩

/-- The contract of a method, out of its body. -/
theorem LCall.intro {f : FuncId} {fn : Func} {c : Code} {vs : List AV} {md : Hs} {bl : List Blk} {cur : Int} {F Fp : AV → List Blk → Int → Prop} (hf : P.funcs[f]? = some fn) (hb : fn.body = some c) (hfn : isFn P f = true) (hn : vs.length + 1 ≤ fn.ntmps) (hm : OkM md)
    (h : ∀ (E : En) (Q : AEx → St → Prop), E.nt = fn.ntmps → E.np = md.np → (∀ σ r bl' cur', resA P fn.results.toList σ = some r → F r bl' cur' → r.clo = true → Out σ md bl' cur' → Q .ret σ ∧ Q .norm σ) →
      (∀ x σ bl' cur', Fp x bl' cur' → x.clo = true → Out σ md bl' cur' → Q (.pan x) σ) → AW P E c Q ⟨mkPar 0 (.ptr 0 0 :: vs), lowHp md 2 bl cur, 3 + bl.length⟩) : LCall P f vs md bl cur F Fp := by
  refine ACall.of_body' hf hfn hb (by simpa using hn) fun E Q hE hN hQ hQp => h E Q hE hN ?_ ?_
  · rintro σ r bl' cur' h1 h2 h3 ⟨h4, h5, m, h6⟩
    exact hQ σ ⟨r, m, _, _, by rw [ren_clo _ r h3]; exact h1, ids_clo _ _ h3, h6, bl', cur', h2, h3, h4, h5, rfl⟩
  · rintro x σ bl' cur' h2 h3 ⟨h4, h5, m, h6⟩
    exact hQp x σ ⟨x, m, _, _, by rw [ren_clo _ x h3], ids_clo _ _ h3, h6, bl', cur', h2, h3, h4, h5, rfl⟩

theorem Out.of_in {md : Hs} {bl : List Blk} {cur : Int} {base : Nat} (hb : OkB bl) (hm : OkM md) (hbase : 2 ≤ base) (hl : LowIn σ.hp md base bl cur) (hlen : bl.length ≤ 500000) : Out σ md bl cur := ⟨hb, hlen, _, ent_out hb hm hbase hl⟩

theorem Out.gen {md : Hs} {bl : List Blk} {cur : Int} (m : Nat → Nat) (hb : OkB bl) (hm : OkM md) (hlen : bl.length ≤ 500000) (m0 : m 0 = 0) (m1 : m 1 = 1) (h0 : σ.hp 0 = some (.cells (md.cs cur (m 2)))) (h1 : ∀ ob, md.o1 = some ob → σ.hp 1 = some ob) (h2 : σ.hp (m 2) = some (.row 4 (AV.renL m (blksAV 3 bl))))
    (h3 : ∀ k b, bl[k]? = some b → b.code ≠ [] → σ.hp (m (3 + k)) = some (.row 7 b.code)) (inj : ∀ j j', j < 3 + bl.length → j' < 3 + bl.length → m j = m j' → j = j') : Out σ md bl cur := by
  refine ⟨hb, hlen, m, fun t x hx => (by cases hx), fun id o ho => ?_, fun id id' o o' ho ho' he => ?_, fun id hid => ⟨?_, ?_⟩⟩
  · have g := lowHp_lt (Nat.le_refl 2) hb hm ho
    refine ⟨?_, by show id < 3 + bl.length; omega, objids_mono _ (fun i hi => by show i < 3 + bl.length; omega) g.2⟩
    rcases lowHp_cases (Nat.le_refl 2) ho with ⟨rfl, rfl⟩ | ⟨rfl, ho1⟩ | ⟨rfl, rfl⟩ | ⟨k, b, rfl, hk, g1, g2, rfl⟩
    · rw [m0, h0]
      show _ = some (AObj.cells (AV.renL m (md.cs cur 2)))
      rw [hm.ren m cur 2 (fun _ => m1)]
    · rw [m1, h1 _ ho1, (hm.ob _ ho1).2.1 m]
    · exact h2
    · rw [h3 k b g1 g2, code_clo_ren m (hb b (List.mem_of_getElem? g1))]
  · exact inj _ _ (by have := (lowHp_lt (Nat.le_refl 2) hb hm ho).1; omega) (by have := (lowHp_lt (Nat.le_refl 2) hb hm ho').1; omega) he
  · have : id = 0 ∨ id = 1 := by have := hm.np; omega
    rcases this with rfl | rfl
    · exact m0
    · exact m1
  · have := hm.np; show id < 3 + bl.length; omega

/-- The blocks' row lies elsewhere. -/
theorem Out.row {md : Hs} {bl : List Blk} {cur : Int} (N : Nat) (hN : 1000000 ≤ N) (hb : OkB bl) (hm : OkM md) (hlen : bl.length ≤ 500000) (h0 : σ.hp 0 = some (.cells (md.cs cur N))) (h1 : ∀ ob, md.o1 = some ob → σ.hp 1 = some ob) (h2 : σ.hp N = some (.row 4 (blksAV 11 bl)))
    (h3 : ∀ k b, bl[k]? = some b → b.code ≠ [] → σ.hp (11 + k) = some (.row 7 b.code)) : Out σ md bl cur := by
  refine Out.gen (fun j => if j = 2 then N else if j < 2 then j else 8 + j) hb hm hlen rfl rfl h0 h1 ?_ ?_ ?_
  · refine h2.trans ?_
    rw [blksAV_ren' _ _ 3 11 (fun k hk => by rw [if_neg (by omega), if_neg (by omega)]; omega)]
  · intro k b hk hc
    rw [if_neg (by omega), if_neg (by omega), show 8 + (3 + k) = 11 + k by omega]
    exact h3 k b hk hc
  · intro j j' hj hj' he
    split at he <;> split at he <;> (try split at he) <;> (try split at he) <;> omega

@[go_sem] theorem hpOn_nil {h : Nat → Option AObj} : hpOn [] h = h := _root_.id rfl
@[go_sem] theorem hpOn_cons {i : Nat} {o : AObj} {l : List (Nat × AObj)} {h : Nat → Option AObj} : hpOn ((i, o) :: l) h = updo (hpOn l h) i (some o) := _root_.id rfl
@[go_sem] theorem lowHp_0 {md : Hs} {o : Nat} {bl : List Blk} {cur : Int} : lowHp md o bl cur 0 = some (.cells (md.cs cur o)) := _root_.id rfl
@[go_sem] theorem lowHp_1 {md : Hs} {o : Nat} {bl : List Blk} {cur : Int} : lowHp md o bl cur 1 = md.o1 := _root_.id rfl
@[go_sem] theorem lowHp_10 {md : Hs} {bl : List Blk} {cur : Int} : lowHp md 10 bl cur 10 = some (.row 4 (blksAV 11 bl)) := _root_.id rfl
@[go_sem] theorem lowSt_eq {fr : List (Nat × AV)} {loc : List (Nat × AObj)} {md : Hs} {bl : List Blk} {cur : Int} : lowSt fr loc md bl cur = ⟨mkFr fr, hpOn loc (lowHp md 10 bl cur), 1000000⟩ := _root_.id rfl

/-- Into the form of a method's state. -/
theorem K_low {c : Code} {fr : List (Nat × AV)} {loc : List (Nat × AObj)} {md : Hs} {bl : List Blk} {cur : Int} (base : Nat) (q : Nat → Nat) (hN : E.np = md.np) (hb : OkB bl) (hlen : bl.length ≤ 500000) (hm : OkM md) (hbase : 2 ≤ base) (hl : LowIn σ.hp md base bl cur)
    (h1 : ∀ p, p ∈ fr → σ.fr p.1 = some (p.2.ren (lowM q base)) ∧ p.2.ids (· < 1000000))
    (h2 : ∀ p, p ∈ loc → 2 ≤ p.1 ∧ p.1 < 10 ∧ σ.hp (q p.1) = some (p.2.ren (lowM q base)) ∧ p.2.ids (· < 1000000) ∧ lowHp md base bl cur (q p.1) = none) (h3 : loc.Pairwise fun a b => q a.1 ≠ q b.1)
    (h : AW P E c Q ⟨mkFr fr, hpOn loc (lowHp md 10 bl cur), 1000000⟩) : AW P E c Q σ :=
  AW.ent (lowM q base) (by rw [hN]; exact ent_low q hb hlen hm hbase hl h1 h2 h3) h

theorem LowIn.on {loc : List (Nat × AObj)} {md : Hs} {bl : List Blk} {cur : Int} (h : ∀ p, p ∈ loc → 2 ≤ p.1 ∧ p.1 < 10) : LowIn (hpOn loc (lowHp md 10 bl cur)) md 10 bl cur := by
  induction loc with
  | nil => exact fun _ _ h => h
  | cons p loc ih =>
    obtain ⟨i, o⟩ := p
    have g := h (i, o) (by simp)
    exact (ih fun p hp => h p (List.mem_cons_of_mem _ hp)).upd (lowHp_none g.1 (.inl g.2))

theorem Out.ins {md : Hs} {bl : List Blk} {cur : Int} {k v : Nat} {b : Blk} {x : AV} (hk : bl[k]? = some b) (hb : OkB bl) (hm : OkM md) (hx : x.clo = true) (hlen : bl.length ≤ 500000) (hv : 1000000 ≤ v)
    (h0 : σ.hp 0 = some (.cells (md.cs cur 10))) (h1 : ∀ ob, md.o1 = some ob → σ.hp 1 = some ob) (h10 : σ.hp 10 = some (.row 4 ((blksAV 11 bl).set k (.agg [.rw v, .i b.kind, .i b.a, tgAV b.tg])))) (h3 : σ.hp v = some (.row 7 (b.code ++ [x])))
    (ho : ∀ j, j ≠ k → j < bl.length → σ.hp (11 + j) = lowHp md 10 bl cur (11 + j)) : Out σ md (bl.set k ⟨b.code ++ [x], b.kind, b.a, b.tg⟩) cur := by
  have hlt : k < bl.length := (List.getElem?_eq_some_iff.1 hk).1
  have hne : b.code ++ [x] ≠ [] := by simp
  refine Out.gen (fun j => if j = 3 + k then v else if j < 2 then j else 8 + j) ?_ hm (by simpa using hlen) ?_ ?_ ?_ h1 ?_ ?_ ?_
  · intro y hy z hz
    rcases List.mem_or_eq_of_mem_set hy with hy | rfl
    · exact hb y hy z hz
    · rcases List.mem_append.1 hz with hz | hz
      · exact hb b (List.mem_of_getElem? hk) z hz
      · obtain rfl := List.mem_singleton.1 hz; exact hx
  · show (if 0 = 3 + k then v else _) = 0
    rw [if_neg (by omega)]; rfl
  · show (if 1 = 3 + k then v else _) = 1
    rw [if_neg (by omega)]; rfl
  · show σ.hp 0 = some (.cells (md.cs cur (if 2 = 3 + k then v else _)))
    rw [if_neg (by omega)]; exact h0
  · show σ.hp (if 2 = 3 + k then v else _) = _
    rw [if_neg (by omega)]
    refine h10.trans (congrArg (fun l => some (AObj.row 4 l)) ?_)
    refine List.ext_getElem? fun i => ?_
    rw [renL_eq, List.getElem?_map, blksAV_get?, List.getElem?_set, List.getElem?_set, blksAV_get?, blksAV_len]
    by_cases e : k = i
    · subst e
      rw [if_pos rfl, if_pos rfl, if_pos hlt, if_pos hlt]
      simp only [Option.map_some, blkAV_ren, blkAV, cAV, if_neg hne, if_true, AV.ren, AV.renL, ren_clo _ _ (tgAV_clo b.tg)]
    · rw [if_neg e, if_neg e]
      cases hi : bl[i]? with
      | none => rfl
      | some y =>
        simp only [Option.map_some, blkAV_ren]
        rw [if_neg (by omega), if_neg (by omega), show 8 + (3 + i) = 11 + i by omega]
  · intro j y hj hc
    by_cases e : k = j
    · subst e
      rw [List.getElem?_set_self hlt] at hj
      cases hj
      rw [if_pos rfl]; exact h3
    · rw [List.getElem?_set_ne e] at hj
      have hj2 : j < bl.length := (List.getElem?_eq_some_iff.1 hj).1
      rw [if_neg (by omega), if_neg (by omega), show 8 + (3 + j) = 11 + j by omega, ho j (Ne.symm e) hj2]
      exact lowHp_code (by omega) hj hc
  · intro j j' hj hj' he
    rw [List.length_set] at hj hj'
    split at he <;> split at he <;> (try split at he) <;> (try split at he) <;> omega

theorem CallB.nil4 {f : FuncId} {x y z v : AV} {k : Nat} {d : Option Nat} {K : St → Prop} {Kp : AV → St → Prop} (h : CallB P f [x, y, z, v, .sl []] σ k d K Kp) : CallB P f [x, y, z, v, .nilsl] σ k d K Kp := by
  refine CallB.frz (us' := [x, y, z, v, .sl []]) (σ' := σ) (fun _ => none) (fun _ _ h => by cases h) (fun t x' h => ⟨x', h, .inl rfl⟩) (fun id o' h => ⟨rfl, o', h, SnpO.refl _⟩) rfl rfl (fun i hi => ?_) h
  match i, hi with
  | 0, _ => exact .inl rfl
  | 1, _ => exact .inl rfl
  | 2, _ => exact .inl rfl
  | 3, _ => exact .inl rfl
  | 4, _ => exact .inr ⟨trivial, rfl⟩

/-- The last argument, nil, as a slice without elements. -/
theorem CallB.nil3 {f : FuncId} {x y z : AV} {k : Nat} {d : Option Nat} {K : St → Prop} {Kp : AV → St → Prop} (h : CallB P f [x, y, z, .sl []] σ k d K Kp) : CallB P f [x, y, z, .nilsl] σ k d K Kp := by
  refine CallB.frz (us' := [x, y, z, .sl []]) (σ' := σ) (fun _ => none) (fun _ _ h => by cases h) (fun t x' h => ⟨x', h, .inl rfl⟩) (fun id o' h => ⟨rfl, o', h, SnpO.refl _⟩) rfl rfl (fun i hi => ?_) h
  match i, hi with
  | 0, _ => exact .inl rfl
  | 1, _ => exact .inl rfl
  | 2, _ => exact .inl rfl
  | 3, _ => exact .inr ⟨trivial, rfl⟩

/-- The last argument, an owned row, as a slice. -/
theorem CallB.frzl {f : FuncId} (us : List AV) {id sz : Nat} {xs : List AV} {k : Nat} {d : Option Nat} {K : St → Prop} {Kp : AV → St → Prop} {fr : Nat → Option AV} {hp : Nat → Option AObj} {nx : Nat} (h : hp id = some (.row sz xs)) (hc : CloRow xs)
    (h2 : CallB P f (us ++ [.sl xs]) ⟨fr, updo hp id none, nx⟩ k d K Kp) : CallB P f (us ++ [.rw id]) ⟨fr, hp, nx⟩ k d K Kp := by
  refine CallB.frz (us' := us ++ [.sl xs]) (σ' := ⟨fr, updo hp id none, nx⟩) (fun i => if i = id then some (.row sz xs) else none) (fun i o h' => ?_) (fun t x' h' => ⟨x', h', .inl rfl⟩) (fun i o' h' => ?_) rfl (by simp) (fun i hi => ?_) h2
  · split at h'
    · rename_i e; cases h'; rw [e]; exact h
    · cases h'
  · simp only [updo] at h'
    split at h'
    · cases h'
    · rename_i e; exact ⟨if_neg e, o', h', SnpO.refl _⟩
  · rw [List.length_append, List.length_singleton] at hi
    by_cases e : i < us.length
    · have e1 : (us ++ [AV.rw id]).getD i default = us.getD i default := by simp only [List.getD_eq_getElem?_getD]; rw [List.getElem?_append_left e]
      have e2 : (us ++ [AV.sl xs]).getD i default = us.getD i default := by simp only [List.getD_eq_getElem?_getD]; rw [List.getElem?_append_left e]
      rw [e1, e2]; exact .inl rfl
    · obtain rfl : i = us.length := by omega
      have e1 : (us ++ [AV.rw id]).getD us.length default = .rw id := by simp
      have e2 : (us ++ [AV.sl xs]).getD us.length default = .sl xs := by simp
      rw [e1, e2]
      refine .inr ⟨?_, ?_⟩
      · rw [AV.snapOk]; simpa using hc
      · rw [AV.snap]; simp
theorem CallB.frz3 {f : FuncId} {x y : AV} {id sz : Nat} {xs : List AV} {k : Nat} {d : Option Nat} {K : St → Prop} {Kp : AV → St → Prop} {fr : Nat → Option AV} {hp : Nat → Option AObj} {nx : Nat} (h : hp id = some (.row sz xs)) (hc : CloRow xs)
    (h2 : CallB P f [x, y, .sl xs] ⟨fr, updo hp id none, nx⟩ k d K Kp) : CallB P f [x, y, .rw id] ⟨fr, hp, nx⟩ k d K Kp := CallB.frzl [x, y] h hc h2
theorem CallB.frz4 {f : FuncId} {x y z : AV} {id sz : Nat} {xs : List AV} {k : Nat} {d : Option Nat} {K : St → Prop} {Kp : AV → St → Prop} {fr : Nat → Option AV} {hp : Nat → Option AObj} {nx : Nat} (h : hp id = some (.row sz xs)) (hc : CloRow xs)
    (h2 : CallB P f [x, y, z, .sl xs] ⟨fr, updo hp id none, nx⟩ k d K Kp) : CallB P f [x, y, z, .rw id] ⟨fr, hp, nx⟩ k d K Kp := CallB.frzl [x, y, z] h hc h2
/-- An argument, an owned row, as a slice. -/
theorem CallB.frzm {f : FuncId} (us ws : List AV) {id sz : Nat} {xs : List AV} {k : Nat} {d : Option Nat} {K : St → Prop} {Kp : AV → St → Prop} {fr : Nat → Option AV} {hp : Nat → Option AObj} {nx : Nat} (h : hp id = some (.row sz xs)) (hc : CloRow xs)
    (h2 : CallB P f (us ++ .sl xs :: ws) ⟨fr, updo hp id none, nx⟩ k d K Kp) : CallB P f (us ++ .rw id :: ws) ⟨fr, hp, nx⟩ k d K Kp := by
  refine CallB.frz (us' := us ++ .sl xs :: ws) (σ' := ⟨fr, updo hp id none, nx⟩) (fun i => if i = id then some (.row sz xs) else none) (fun i o h' => ?_) (fun t x' h' => ⟨x', h', .inl rfl⟩) (fun i o' h' => ?_) rfl (by simp) (fun i hi => ?_) h2
  · split at h'
    · rename_i e; cases h'; rw [e]; exact h
    · cases h'
  · simp only [updo] at h'
    split at h'
    · cases h'
    · rename_i e; exact ⟨if_neg e, o', h', SnpO.refl _⟩
  · simp only [List.getD_eq_getElem?_getD]
    rcases Nat.lt_trichotomy i us.length with e | e | e
    · rw [List.getElem?_append_left e, List.getElem?_append_left e]; exact .inl rfl
    · subst e
      rw [List.getElem?_append_right (Nat.le_refl _), List.getElem?_append_right (Nat.le_refl _)]
      simp only [Nat.sub_self, List.getElem?_cons_zero, Option.getD_some]
      refine .inr ⟨?_, ?_⟩
      · rw [AV.snapOk]; simpa using hc
      · rw [AV.snap]; simp
    · rw [List.getElem?_append_right (by omega), List.getElem?_append_right (by omega)]
      obtain ⟨j, hj⟩ : ∃ j, i - us.length = j + 1 := ⟨i - us.length - 1, by omega⟩
      rw [hj, List.getElem?_cons_succ, List.getElem?_cons_succ]; exact .inl rfl
theorem CallB.frz5 {f : FuncId} {x y z v : AV} {id sz : Nat} {xs : List AV} {k : Nat} {d : Option Nat} {K : St → Prop} {Kp : AV → St → Prop} {fr : Nat → Option AV} {hp : Nat → Option AObj} {nx : Nat} (h : hp id = some (.row sz xs)) (hc : CloRow xs)
    (h2 : CallB P f [x, y, z, v, .sl xs] ⟨fr, updo hp id none, nx⟩ k d K Kp) : CallB P f [x, y, z, v, .rw id] ⟨fr, hp, nx⟩ k d K Kp := CallB.frzl [x, y, z, v] h hc h2
theorem CallB.frz32 {f : FuncId} {x z : AV} {id sz : Nat} {xs : List AV} {k : Nat} {d : Option Nat} {K : St → Prop} {Kp : AV → St → Prop} {fr : Nat → Option AV} {hp : Nat → Option AObj} {nx : Nat} (h : hp id = some (.row sz xs)) (hc : CloRow xs)
    (h2 : CallB P f [x, .sl xs, z] ⟨fr, updo hp id none, nx⟩ k d K Kp) : CallB P f [x, .rw id, z] ⟨fr, hp, nx⟩ k d K Kp := CallB.frzm [x] [z] h hc h2
theorem CloRow.all {xs : List AV} (h : ∀ x, x ∈ xs → (x.cells.all AV.clo) = true) : CloRow xs := fun x hx c hc => List.all_eq_true.1 (h x hx) c hc

theorem ints_clo (l : List Int) : AV.cloL (l.map AV.i) = true := cloL_eq _ (fun x hx => by obtain ⟨n, _, rfl⟩ := List.mem_map.1 hx; rfl)
theorem rowi_ren (m : Nat → Nat) (l : List Int) : (AObj.row 1 (l.map AV.i)).ren m = .row 1 (l.map AV.i) := by simp only [AObj.ren, renL_clo m _ (ints_clo l)]
theorem rowi_ids (p : Nat → Prop) (l : List Int) : (AObj.row 1 (l.map AV.i)).ids p := idsL_clo p _ (ints_clo l)

/-- The lowering of the program, with its methods. -/
def hsL (md : List (AV × AV)) : Hs := ⟨2, some (.map md), fun cur o => [.rw o, .i cur, .mp 1]⟩
/-- The lowering of the reference. -/
def hsR : Hs := ⟨1, none, fun _ o => [.rw o]⟩
theorem okL {md : List (AV × AV)} (h : ∀ p, p ∈ md → p.1.clo = true ∧ p.2.clo = true) : OkM (hsL md) :=
  ⟨.inr ⟨rfl, by simp [hsL]⟩, fun ob ho => by cases ho; exact ⟨rfl, fun m => map_clo_ren m h, fun p q hq => ⟨ids_clo _ _ (h q hq).1, ids_clo _ _ (h q hq).2⟩⟩,
    fun m cur o h1 => by simp only [hsL, AV.renL, AV.ren, h1 rfl], fun p cur o h1 h2 => ⟨h1, trivial, h2, trivial⟩⟩
theorem okR : OkM hsR := ⟨.inl rfl, fun ob ho => (by cases ho), fun m cur o h1 => (by simp only [hsR, AV.renL, AV.ren]), fun p cur o h1 h2 => ⟨h1, trivial⟩⟩
@[go_sem] theorem hsL_cs {md : List (AV × AV)} {cur : Int} {o : Nat} : (hsL md).cs cur o = [.rw o, .i cur, .mp 1] := _root_.id rfl
@[go_sem] theorem hsL_o1 {md : List (AV × AV)} : (hsL md).o1 = some (.map md) := _root_.id rfl
@[go_sem] theorem hsR_cs {cur : Int} {o : Nat} : hsR.cs cur o = [.rw o] := _root_.id rfl

/-- A memory that holds that of a lowering, but for its struct. -/
def LowB (hp : Nat → Option AObj) (md : Hs) (o : Nat) (bl : List Blk) : Prop := ∀ id ob, id ≠ 0 → lowHp md o bl 0 id = some ob → hp id = some ob
theorem LowB.base {md : Hs} {o : Nat} {bl : List Blk} {cur : Int} : LowB (lowHp md o bl cur) md o bl := fun id ob h0 h => by rw [lowHp_cur h0 (cur' := 0)]; exact h
theorem LowB.upd {hp : Nat → Option AObj} {md : Hs} {o : Nat} {bl : List Blk} {i : Nat} {x : Option AObj} (h : LowB hp md o bl) (hi : lowHp md o bl 0 i = none) : LowB (updo hp i x) md o bl := by
  intro id ob h0 hid
  simp only [updo]
  split
  · rename_i e; rw [e, hi] at hid; cases hid
  · exact h id ob h0 hid
theorem LowIn.curL {hp : Nat → Option AObj} {md : List (AV × AV)} {o : Nat} {bl : List Blk} {x : Int} (h : LowB hp (hsL md) o bl) : LowIn (updo hp 0 (some (.cells [.rw o, .i x, .mp 1]))) (hsL md) o bl x := by
  intro id ob hid
  simp only [updo]
  split
  · rename_i e; subst e; exact hid
  · rename_i e; exact h id ob e (by rw [lowHp_cur e (cur' := x)]; exact hid)

end Go.Low

/- Chapter 10: the data. -/
namespace Go.Low
open Go Go.Am

inductive Ty where
  | mk (kind id : Int) (args : List Ty)

mutual
def Ty.av : Ty → AV
  | .mk k i l => .agg [.i k, .i i, .sl (Ty.avL l)]
def Ty.avL : List Ty → List AV
  | [] => []
  | t :: l => t.av :: Ty.avL l
end

structure Ins where
  op : Int
  dst : Int
  a : Int
  b : Int
  n : Int
  args : List Int
  types : List Ty

def Ins.av (x : Ins) : AV := .agg [.i x.op, .i x.dst, .i x.a, .i x.b, .i x.n, .sl (x.args.map AV.i), .sl (Ty.avL x.types)]

inductive Nd where
  | mk (kind a : Int) (ins : Ins) (thn els : List Nd) (arms : List (List Nd))

def Nd.kind : Nd → Int | .mk k _ _ _ _ _ => k
def Nd.a : Nd → Int | .mk _ a _ _ _ _ => a
def Nd.ins : Nd → Ins | .mk _ _ x _ _ _ => x
def Nd.thn : Nd → List Nd | .mk _ _ _ t _ _ => t
def Nd.els : Nd → List Nd | .mk _ _ _ _ e _ => e
def Nd.arms : Nd → List (List Nd) | .mk _ _ _ _ _ l => l

mutual
def Nd.av : Nd → AV
  | .mk k a x t e l => .agg [.i k, .i a, .i x.op, .i x.dst, .i x.a, .i x.b, .i x.n, .sl (x.args.map AV.i), .sl (Ty.avL x.types), .sl (Nd.avL t), .sl (Nd.avL e), .sl (Nd.avLL l)]
def Nd.avL : List Nd → List AV
  | [] => []
  | n :: l => n.av :: Nd.avL l
def Nd.avLL : List (List Nd) → List AV
  | [] => []
  | p :: l => .sl (Nd.avL p) :: Nd.avLL l
end

theorem Nd.av_eq (n : Nd) : n.av = .agg [.i n.kind, .i n.a, .i n.ins.op, .i n.ins.dst, .i n.ins.a, .i n.ins.b, .i n.ins.n, .sl (n.ins.args.map AV.i), .sl (Ty.avL n.ins.types), .sl (Nd.avL n.thn), .sl (Nd.avL n.els), .sl (Nd.avLL n.arms)] := by
  cases n; rw [Nd.av]; rfl

theorem Ty.avL_eq : ∀ l : List Ty, Ty.avL l = l.map Ty.av
  | [] => by rw [Ty.avL]; rfl
  | t :: l => by rw [Ty.avL, Ty.avL_eq l]; rfl
theorem Nd.avL_eq : ∀ l : List Nd, Nd.avL l = l.map Nd.av
  | [] => by rw [Nd.avL]; rfl
  | t :: l => by rw [Nd.avL, Nd.avL_eq l]; rfl
theorem Nd.avLL_eq : ∀ l : List (List Nd), Nd.avLL l = l.map fun p => .sl (Nd.avL p)
  | [] => by rw [Nd.avLL]; rfl
  | t :: l => by rw [Nd.avLL, Nd.avLL_eq l]; rfl

theorem Ty.av_clo (t : Ty) : t.av.clo = true := by cases t; rw [Ty.av]; rfl
theorem Ins.av_clo (x : Ins) : x.av.clo = true := rfl
theorem Nd.av_clo (n : Nd) : n.av.clo = true := by rw [Nd.av_eq]; rfl


mutual
def Ty.sz : Ty → Nat
  | .mk _ _ l => 1 + Ty.szL l
def Ty.szL : List Ty → Nat
  | [] => 0
  | t :: l => t.sz + Ty.szL l
end
def Ty.kind : Ty → Int | .mk k _ _ => k
def Ty.id : Ty → Int | .mk _ i _ => i
def Ty.args : Ty → List Ty | .mk _ _ l => l
theorem Ty.av_eq (t : Ty) : t.av = .agg [.i t.kind, .i t.id, .sl (Ty.avL t.args)] := by cases t; rw [Ty.av]; rfl
theorem Ty.sz_eq (t : Ty) : t.sz = 1 + Ty.szL t.args := by cases t; rw [Ty.sz]; rfl
theorem Ty.ext {a b : Ty} (h1 : a.kind = b.kind) (h2 : a.id = b.id) (h3 : a.args = b.args) : a = b := by cases a; cases b; simp_all [Ty.kind, Ty.id, Ty.args]
theorem Ty.ext_iff' {a b : Ty} : a = b ↔ a.kind = b.kind ∧ a.id = b.id ∧ a.args = b.args := ⟨by rintro rfl; exact ⟨rfl, rfl, rfl⟩, fun h => Ty.ext h.1 h.2.1 h.2.2⟩
theorem Ty.szL_eq : ∀ l : List Ty, Ty.szL l = (l.map Ty.sz).sum
  | [] => by rw [Ty.szL]; rfl
  | t :: l => by rw [Ty.szL, Ty.szL_eq l]; rfl
theorem Ty.sz_mem {t : Ty} : ∀ {l : List Ty}, t ∈ l → t.sz ≤ Ty.szL l
  | x :: l, h => by
    rw [Ty.szL]
    rcases List.mem_cons.1 h with e | e
    · subst e; omega
    · have := Ty.sz_mem e; omega
theorem Ty.len_le : ∀ l : List Ty, l.length ≤ Ty.szL l
  | [] => Nat.zero_le _
  | t :: l => by rw [Ty.szL, Ty.sz_eq]; have := Ty.len_le l; simp only [List.length_cons]; omega

def Ins.sz (x : Ins) : Nat := 1 + x.args.length + Ty.szL x.types

mutual
def Nd.sz : Nd → Nat
  | .mk _ _ x t e l => 1 + x.sz + Nd.szL t + Nd.szL e + Nd.szLL l
def Nd.szL : List Nd → Nat
  | [] => 0
  | n :: l => n.sz + Nd.szL l
def Nd.szLL : List (List Nd) → Nat
  | [] => 0
  | p :: l => 1 + Nd.szL p + Nd.szLL l
end
theorem Nd.sz_eq (n : Nd) : n.sz = 1 + n.ins.sz + Nd.szL n.thn + Nd.szL n.els + Nd.szLL n.arms := by cases n; rw [Nd.sz]; rfl
theorem Nd.szL_eq : ∀ l : List Nd, Nd.szL l = (l.map Nd.sz).sum
  | [] => by rw [Nd.szL]; rfl
  | t :: l => by rw [Nd.szL, Nd.szL_eq l]; rfl
theorem Nd.szLL_eq : ∀ l : List (List Nd), Nd.szLL l = (l.map fun p => 1 + Nd.szL p).sum
  | [] => by rw [Nd.szLL]; rfl
  | t :: l => by rw [Nd.szLL, Nd.szLL_eq l]; rfl
theorem Nd.sz_mem {t : Nd} : ∀ {l : List Nd}, t ∈ l → t.sz ≤ Nd.szL l
  | x :: l, h => by
    rw [Nd.szL]
    rcases List.mem_cons.1 h with e | e
    · subst e; omega
    · have := Nd.sz_mem e; omega
theorem Nd.szL_mem {t : List Nd} : ∀ {l : List (List Nd)}, t ∈ l → Nd.szL t < Nd.szLL l
  | x :: l, h => by
    rw [Nd.szLL]
    rcases List.mem_cons.1 h with e | e
    · subst e; omega
    · have := Nd.szL_mem e; omega
theorem Nd.len_le : ∀ l : List Nd, l.length ≤ Nd.szL l
  | [] => Nat.zero_le _
  | t :: l => by rw [Nd.szL, Nd.sz_eq]; have := Nd.len_le l; simp only [List.length_cons]; omega
theorem Nd.lenL_le : ∀ l : List (List Nd), l.length ≤ Nd.szLL l
  | [] => Nat.zero_le _
  | t :: l => by rw [Nd.szLL]; have := Nd.lenL_le l; simp only [List.length_cons]; omega

theorem Ty.avL_len (l : List Ty) : (Ty.avL l).length = l.length := by rw [Ty.avL_eq, List.length_map]
theorem Nd.avL_len (l : List Nd) : (Nd.avL l).length = l.length := by rw [Nd.avL_eq, List.length_map]
theorem Nd.avLL_len (l : List (List Nd)) : (Nd.avLL l).length = l.length := by rw [Nd.avLL_eq, List.length_map]
theorem Ty.avL_get (l : List Ty) (i : Nat) : (Ty.avL l)[i]? = l[i]?.map Ty.av := by rw [Ty.avL_eq, List.getElem?_map]
theorem Nd.avL_get (l : List Nd) (i : Nat) : (Nd.avL l)[i]? = l[i]?.map Nd.av := by rw [Nd.avL_eq, List.getElem?_map]
theorem Nd.avLL_get (l : List (List Nd)) (i : Nat) : (Nd.avLL l)[i]? = l[i]?.map fun p => AV.sl (Nd.avL p) := by rw [Nd.avLL_eq, List.getElem?_map]
attribute [go_sem] Ty.avL_len Nd.avL_len Nd.avLL_len Ty.avL_get Nd.avL_get Nd.avLL_get List.length_map List.getElem?_map Option.map_some
/-- The cells of a node. -/
def Nd.cs (n : Nd) : List AV := [.i n.kind, .i n.a, .i n.ins.op, .i n.ins.dst, .i n.ins.a, .i n.ins.b, .i n.ins.n, .sl (n.ins.args.map AV.i), .sl (Ty.avL n.ins.types), .sl (Nd.avL n.thn), .sl (Nd.avL n.els), .sl (Nd.avLL n.arms)]
theorem clo_LL (ps : List (List Nd)) : CloRow (Nd.avLL ps) := by
  intro x hx c hc
  rw [Nd.avLL_eq] at hx
  obtain ⟨p, _, rfl⟩ := List.mem_map.1 hx
  obtain rfl := List.mem_singleton.1 hc
  rfl
theorem Nd.cs_clo (n : Nd) : AV.cloL n.cs = true := rfl
theorem Nd.cs_ren (m : Nat → Nat) (n : Nd) : (AObj.cells n.cs).ren m = .cells n.cs := by simp only [AObj.ren, renL_clo m _ n.cs_clo]
theorem Nd.cs_ids (p : Nat → Prop) (n : Nd) : (AObj.cells n.cs).ids p := idsL_clo p _ n.cs_clo
theorem Nd.av_cs (n : Nd) : n.av = .agg n.cs := n.av_eq

end Go.Low

/- Chapter 10: what a lowering computes, in plain Lean. -/
namespace Go.Low
open Go Go.Am

/-- The blocks and the number of the current one. -/
structure LS where
  bl : List Blk
  cur : Nat

def LS.add (s : LS) (n : Nat) : LS := ⟨s.bl ++ List.replicate n ⟨[], 0, 0, none⟩, s.cur⟩
def LS.end (s : LS) (kind a : Int) (ts : List Int) : LS := ⟨s.bl.modify s.cur fun b => ⟨b.code, kind, a, some ts⟩, s.cur⟩
def LS.at (s : LS) (n : Nat) : LS := ⟨s.bl, n⟩
def LS.ins (s : LS) (x : AV) : LS := ⟨s.bl.modify s.cur fun b => ⟨b.code ++ [x], b.kind, b.a, b.tg⟩, s.cur⟩

/-- Jumps from some blocks to a new one, if there are any. -/
def joinL (exits : List Nat) (s : LS) : Bool × LS :=
  if exits = [] then (false, s)
  else
    let j := s.bl.length
    (true, (exits.foldl (fun t b => (t.at b).end 1 0 [(j : Int)]) (s.add 1)).at j)

mutual
def lowN (n : Nd) (s : LS) : Bool × LS :=
  match n with
  | .mk k a x thn els arms =>
    if k = 1 then (true, s.ins x.av)
    else if k = 2 then
      let t := s.bl.length
      let s1 := (s.add 2).end 2 a [(t : Int), t + 1]
      let r1 := lowL thn (s1.at t)
      let r2 := lowL els (r1.2.at (t + 1))
      joinL ((if r1.1 then [r1.2.cur] else []) ++ (if r2.1 then [r2.2.cur] else [])) r2.2
    else if k = 3 then
      let h := s.bl.length
      let s1 := (((s.add 3).end 1 0 [(h : Int)]).at h).end 2 a [(h : Int) + 1, h + 2]
      let r := lowL thn (s1.at (h + 1))
      (true, (if r.1 then r.2.end 1 0 [(h : Int)] else r.2).at (h + 2))
    else if k = 4 then
      let f := s.bl.length
      let r := lowP arms f ((s.add arms.length).end 3 a ((List.range arms.length).map fun (i : Nat) => (f : Int) + (i : Int)))
      joinL r.1 r.2
    else if k = 5 then (false, s.end 4 a [])
    else (false, s.end 5 0 [])
def lowL (l : List Nd) (s : LS) : Bool × LS :=
  match l with
  | [] => (true, s)
  | n :: l =>
    let r := lowN n s
    if r.1 then lowL l r.2 else (false, r.2)
/-- Parts from the block f on: the blocks in which they are left. -/
def lowP (ps : List (List Nd)) (f : Nat) (s : LS) : List Nat × LS :=
  match ps with
  | [] => ([], s)
  | p :: ps =>
    let r := lowL p (s.at f)
    let r2 := lowP ps (f + 1) r.2
    ((if r.1 then [r.2.cur] else []) ++ r2.1, r2.2)
end

theorem lowN_eq (n : Nd) (s : LS) : lowN n s =
    if n.kind = 1 then (true, s.ins n.ins.av)
    else if n.kind = 2 then
      let t := s.bl.length
      let s1 := (s.add 2).end 2 n.a [(t : Int), t + 1]
      let r1 := lowL n.thn (s1.at t)
      let r2 := lowL n.els (r1.2.at (t + 1))
      joinL ((if r1.1 then [r1.2.cur] else []) ++ (if r2.1 then [r2.2.cur] else [])) r2.2
    else if n.kind = 3 then
      let h := s.bl.length
      let s1 := (((s.add 3).end 1 0 [(h : Int)]).at h).end 2 n.a [(h : Int) + 1, h + 2]
      let r := lowL n.thn (s1.at (h + 1))
      (true, (if r.1 then r.2.end 1 0 [(h : Int)] else r.2).at (h + 2))
    else if n.kind = 4 then
      let f := s.bl.length
      let r := lowP n.arms f ((s.add n.arms.length).end 3 n.a ((List.range n.arms.length).map fun (i : Nat) => (f : Int) + (i : Int)))
      joinL r.1 r.2
    else if n.kind = 5 then (false, s.end 4 n.a [])
    else (false, s.end 5 0 []) := by cases n; rw [lowN]; rfl

mutual
def szN : Nd → Nat
  | .mk _ _ _ t e arms => 1 + szL t + szL e + szP arms
def szL : List Nd → Nat
  | [] => 0
  | n :: l => szN n + szL l
def szP : List (List Nd) → Nat
  | [] => 0
  | p :: ps => 1 + szL p + szP ps
end

theorem szP_len : ∀ ps : List (List Nd), ps.length ≤ szP ps
  | [] => Nat.zero_le _
  | p :: ps => by simp only [List.length_cons, szP]; have := szP_len ps; omega

/-- The state has at least as many blocks as another one, at most n more; its instructions' lists are longer by at most n; the current block is one. -/
structure Grow (s t : LS) (n : Nat) : Prop where
  le : s.bl.length ≤ t.bl.length
  ge : t.bl.length ≤ s.bl.length + n
  cur : t.cur < t.bl.length
  code : ∀ c, (∀ b, b ∈ s.bl → b.code.length ≤ c) → ∀ b, b ∈ t.bl → b.code.length ≤ c + n
  ok : OkB s.bl → OkB t.bl

theorem Grow.trans {s t u : LS} {n m : Nat} (h : Grow s t n) (g : Grow t u m) : Grow s u (n + m) :=
  ⟨Nat.le_trans h.le g.le, by have := h.ge; have := g.ge; omega, g.cur, fun c hc b hb => by have := g.code (c + n) (h.code c hc) b hb; omega, fun ho => g.ok (h.ok ho)⟩

theorem Grow.mono {s t : LS} {n m : Nat} (h : Grow s t n) (hm : n ≤ m) : Grow s t m :=
  ⟨h.le, by have := h.ge; omega, h.cur, fun c hc b hb => by have := h.code c hc b hb; omega, h.ok⟩

theorem Grow.refl {s : LS} (h : s.cur < s.bl.length) : Grow s s 0 :=
  ⟨Nat.le_refl _, Nat.le_refl _, h, fun c hc b hb => hc b hb, fun h => h⟩

theorem Grow.at {s t : LS} {n k : Nat} (h : Grow s t n) (hk : k < t.bl.length) : Grow s (t.at k) n :=
  ⟨h.le, h.ge, hk, h.code, h.ok⟩

theorem grow_add {s : LS} (h : s.cur < s.bl.length) (n : Nat) : Grow s (s.add n) n := by
  refine ⟨?_, ?_, ?_, fun c hc b hb => ?_, fun ho b hb x hx => ?_⟩
  · simp [LS.add]
  · simp [LS.add]
  · simp only [LS.add, List.length_append, List.length_replicate]; omega
  · rcases List.mem_append.1 hb with hb | hb
    · have := hc b hb; omega
    · obtain rfl := (List.mem_replicate.1 hb).2; simp
  · rcases List.mem_append.1 hb with hb | hb
    · exact ho b hb x hx
    · obtain rfl := (List.mem_replicate.1 hb).2; cases hx

theorem mem_modify {l : List Blk} {k : Nat} {f : Blk → Blk} {b : Blk} (h : b ∈ l.modify k f) : b ∈ l ∨ ∃ a, a ∈ l ∧ b = f a := by
  obtain ⟨i, hi, rfl⟩ := List.getElem_of_mem h
  rw [List.getElem_modify]
  have hi' : i < l.length := by simpa using hi
  split
  · exact .inr ⟨_, List.getElem_mem hi', rfl⟩
  · exact .inl (List.getElem_mem hi')

theorem grow_end {s : LS} (h : s.cur < s.bl.length) (k a : Int) (ts : List Int) : Grow s (s.end k a ts) 0 := by
  refine ⟨by simp [LS.end], by simp [LS.end], by simpa [LS.end] using h, fun c hc b hb => ?_, fun ho b hb x hx => ?_⟩
  · rcases mem_modify hb with hb | ⟨a, ha, rfl⟩
    · exact hc b hb
    · exact hc a ha
  · rcases mem_modify hb with hb | ⟨a, ha, rfl⟩
    · exact ho b hb x hx
    · exact ho a ha x hx

theorem grow_ins {s : LS} (h : s.cur < s.bl.length) {x : AV} (hx : x.clo = true) : Grow s (s.ins x) 1 := by
  refine ⟨by simp [LS.ins], by simp [LS.ins], by simpa [LS.ins] using h, fun c hc b hb => ?_, fun ho b hb y hy => ?_⟩
  · rcases mem_modify hb with hb | ⟨a, ha, rfl⟩
    · have := hc b hb; omega
    · have := hc a ha; simp only [List.length_append, List.length_cons, List.length_nil]; omega
  · rcases mem_modify hb with hb | ⟨a, ha, rfl⟩
    · exact ho b hb y hy
    · rcases List.mem_append.1 hy with hy | hy
      · exact ho a ha y hy
      · obtain rfl := List.mem_singleton.1 hy; exact hx

theorem modify_set {l : List Blk} {k : Nat} {b : Blk} (h : l[k]? = some b) (f : Blk → Blk) : l.modify k f = l.set k (f b) := by
  refine List.ext_getElem? fun i => ?_
  rw [List.getElem?_modify, List.getElem?_set]
  have hlt : k < l.length := (List.getElem?_eq_some_iff.1 h).1
  by_cases e : k = i
  · subst e; rw [if_pos rfl, if_pos hlt, h]; simp [hlt]
  · rw [if_neg e]; simp [e]

theorem end_set {s : LS} {b : Blk} (h : s.bl[s.cur]? = some b) (k a : Int) (ts : List Int) : s.end k a ts = ⟨s.bl.set s.cur ⟨b.code, k, a, some ts⟩, s.cur⟩ := by
  simp only [LS.end, modify_set h]

theorem ins_set {s : LS} {b : Blk} (h : s.bl[s.cur]? = some b) (x : AV) : s.ins x = ⟨s.bl.set s.cur ⟨b.code ++ [x], b.kind, b.a, b.tg⟩, s.cur⟩ := by
  simp only [LS.ins, modify_set h]


theorem szN_eq (n : Nd) : szN n = 1 + szL n.thn + szL n.els + szP n.arms := by cases n; rw [szN]; rfl
theorem szN_pos (n : Nd) : 1 ≤ szN n := by rw [szN_eq]; omega
theorem szN_mem {n : Nd} : ∀ {l : List Nd}, n ∈ l → szN n ≤ szL l
  | x :: l, h => by
    rw [szL]
    rcases List.mem_cons.1 h with e | e
    · subst e; omega
    · have := szN_mem e; omega
theorem szL_mem {p : List Nd} : ∀ {l : List (List Nd)}, p ∈ l → szL p < szP l
  | x :: l, h => by
    rw [szP]
    rcases List.mem_cons.1 h with e | e
    · subst e; omega
    · have := szL_mem e; omega

theorem joinFold_grow (j : Int) : ∀ (exits : List Nat) (s : LS), s.cur < s.bl.length → (∀ b, b ∈ exits → b < s.bl.length) → Grow s (exits.foldl (fun t b => (t.at b).end 1 0 [j]) s) 0
  | [], s, h, _ => Grow.refl h
  | b :: l, s, h, he => by
    have hb := he b (by simp)
    have g1 : Grow s ((s.at b).end 1 0 [j]) 0 := ((Grow.refl h).at hb).trans (grow_end (s := s.at b) hb 1 0 [j])
    have g2 := joinFold_grow j l ((s.at b).end 1 0 [j]) g1.cur (fun c hc => Nat.lt_of_lt_of_le (he c (by simp [hc])) g1.le)
    exact g1.trans g2

theorem joinL_grow (exits : List Nat) (s : LS) (h : s.cur < s.bl.length) (he : ∀ b, b ∈ exits → b < s.bl.length) : Grow s (joinL exits s).2 1 := by
  unfold joinL
  split
  · exact (Grow.refl h).mono (by omega)
  · have g1 := grow_add h 1
    have g2 := joinFold_grow (s.bl.length : Int) exits (s.add 1) g1.cur (fun b hb => Nat.lt_of_lt_of_le (he b hb) g1.le)
    refine (g1.trans g2).at ?_
    have := g2.le
    have e : (s.add 1).bl.length = s.bl.length + 1 := by simp [LS.add]
    omega

theorem add_len (s : LS) (n : Nat) : (s.add n).bl.length = s.bl.length + n := by simp [LS.add]
theorem end_len (s : LS) (k a : Int) (ts : List Int) : (s.end k a ts).bl.length = s.bl.length := by simp [LS.end]

mutual
theorem lowN_grow : ∀ (n : Nd) (s : LS), s.cur < s.bl.length → Grow s (lowN n s).2 (4 * szN n)
  | .mk k a x t e arms, s, h => by
    rw [lowN, szN]
    split
    · exact (grow_ins h x.av_clo).mono (by omega)
    · split
      · have g1 := (grow_add h 2)
        have g2 := g1.trans (grow_end g1.cur 2 a [(s.bl.length : Int), s.bl.length + 1])
        have l1 : ((s.add 2).end 2 a [(s.bl.length : Int), s.bl.length + 1]).bl.length = s.bl.length + 2 := by rw [end_len, add_len]
        have g3 := g2.at (k := s.bl.length) (by omega)
        have g4 := g3.trans (lowL_grow t _ g3.cur)
        have g5 := g4.at (k := s.bl.length + 1) (by have := (lowL_grow t _ g3.cur).le; rw [show (LS.at ((s.add 2).end 2 a [(s.bl.length : Int), s.bl.length + 1]) s.bl.length).bl.length = s.bl.length + 2 from l1] at this; omega)
        have g6 := g5.trans (lowL_grow e _ g5.cur)
        refine (g6.trans (joinL_grow _ _ g6.cur ?_)).mono (by omega)
        intro b hb
        have h1 := (lowL_grow t _ g3.cur).cur
        have h2 := (lowL_grow e _ g5.cur).le
        have h3 := g6.cur
        rcases List.mem_append.1 hb with hb | hb
        · split at hb
          · simp only [List.mem_singleton] at hb; subst hb; exact Nat.lt_of_lt_of_le h1 h2
          · cases hb
        · split at hb
          · simp only [List.mem_singleton] at hb; subst hb; exact h3
          · cases hb
      · split
        · have g1 := (grow_add h 3)
          have g2 := g1.trans (grow_end g1.cur 1 0 [(s.bl.length : Int)])
          have l1 : ((s.add 3).end 1 0 [(s.bl.length : Int)]).bl.length = s.bl.length + 3 := by rw [end_len, add_len]
          have g3 := g2.at (k := s.bl.length) (by omega)
          have g4 := g3.trans (grow_end g3.cur 2 a [(s.bl.length : Int) + 1, s.bl.length + 2])
          have l2 : ((((s.add 3).end 1 0 [(s.bl.length : Int)]).at s.bl.length).end 2 a [(s.bl.length : Int) + 1, s.bl.length + 2]).bl.length = s.bl.length + 3 := by rw [end_len]; exact l1
          have g5 := g4.at (k := s.bl.length + 1) (by omega)
          have g6 := g5.trans (lowL_grow t _ g5.cur)
          have l3 := (lowL_grow t _ g5.cur).le
          rw [show (LS.at ((((s.add 3).end 1 0 [(s.bl.length : Int)]).at s.bl.length).end 2 a [(s.bl.length : Int) + 1, s.bl.length + 2]) (s.bl.length + 1)).bl.length = s.bl.length + 3 from l2] at l3
          simp only
          split
          · exact ((g6.trans (grow_end g6.cur 1 0 [(s.bl.length : Int)])).at (by rw [end_len]; omega)).mono (by omega)
          · exact (g6.at (by omega)).mono (by omega)
        · split
          · have g1 := (grow_add h arms.length)
            have g2 := g1.trans (grow_end g1.cur 3 a ((List.range arms.length).map fun (i : Nat) => (s.bl.length : Int) + (i : Int)))
            have l1 : ((s.add arms.length).end 3 a ((List.range arms.length).map fun (i : Nat) => (s.bl.length : Int) + (i : Int))).bl.length = s.bl.length + arms.length := by rw [end_len, add_len]
            have g3 := lowP_grow arms s.bl.length _ g2.cur (by omega)
            refine ((g2.trans g3.1).trans (joinL_grow _ _ g3.1.cur g3.2)).mono ?_
            have := szP_len arms
            omega
          · split
            · exact (grow_end h 4 a []).mono (by omega)
            · exact (grow_end h 5 0 []).mono (by omega)
theorem lowL_grow : ∀ (l : List Nd) (s : LS), s.cur < s.bl.length → Grow s (lowL l s).2 (4 * szL l)
  | [], s, h => by rw [lowL, szL]; exact Grow.refl h
  | n :: l, s, h => by
    rw [lowL, szL]
    have g1 := lowN_grow n s h
    split
    · exact (g1.trans (lowL_grow l _ g1.cur)).mono (by omega)
    · exact g1.mono (by omega)
theorem lowP_grow : ∀ (ps : List (List Nd)) (f : Nat) (s : LS), s.cur < s.bl.length → f + ps.length ≤ s.bl.length → Grow s (lowP ps f s).2 (4 * szP ps - 4 * ps.length) ∧ ∀ b, b ∈ (lowP ps f s).1 → b < (lowP ps f s).2.bl.length
  | [], f, s, h, _ => by rw [lowP]; exact ⟨(Grow.refl h).mono (by simp), fun b hb => by cases hb⟩
  | p :: ps, f, s, h, hf => by
    rw [lowP, szP]
    simp only [List.length_cons] at hf ⊢
    have g0 := (Grow.refl h).at (k := f) (by omega)
    have g1 := g0.trans (lowL_grow p _ g0.cur)
    have h1 := (lowL_grow p _ g0.cur).le
    have g2 := lowP_grow ps (f + 1) (lowL p (s.at f)).2 g1.cur (by have : (s.at f).bl.length = s.bl.length := rfl; omega)
    refine ⟨(g1.trans g2.1).mono ?_, fun b hb => ?_⟩
    · have := szP_len ps
      omega
    · rcases List.mem_append.1 hb with hb | hb
      · split at hb
        · simp only [List.mem_singleton] at hb; subst hb
          exact Nat.lt_of_lt_of_le (lowL_grow p _ g0.cur).cur g2.1.le
        · cases hb
      · exact g2.2 b hb
end

mutual
/-- All nodes have kinds from 1 to 6. -/
def kdN : Nd → Prop
  | .mk k _ _ t e arms => 1 ≤ k ∧ k ≤ 6 ∧ kdL t ∧ kdL e ∧ kdP arms
def kdL : List Nd → Prop
  | [] => True
  | n :: l => kdN n ∧ kdL l
def kdP : List (List Nd) → Prop
  | [] => True
  | p :: ps => kdL p ∧ kdP ps
end
theorem kdN_eq (n : Nd) : kdN n = (1 ≤ n.kind ∧ n.kind ≤ 6 ∧ kdL n.thn ∧ kdL n.els ∧ kdP n.arms) := by cases n; rw [kdN]; rfl
theorem kdL_mem {n : Nd} : ∀ {l : List Nd}, kdL l → n ∈ l → kdN n
  | x :: l, h, hm => by
    rw [kdL] at h
    rcases List.mem_cons.1 hm with e | e
    · subst e; exact h.1
    · exact kdL_mem h.2 e
theorem kdP_mem {p : List Nd} : ∀ {l : List (List Nd)}, kdP l → p ∈ l → kdL p
  | x :: l, h, hm => by
    rw [kdP] at h
    rcases List.mem_cons.1 hm with e | e
    · subst e; exact h.1
    · exact kdP_mem h.2 e

end Go.Low

/- Chapter 10: the small methods of a lowering. -/
set_option linter.unusedSimpArgs false
set_option linter.unusedVariables false
set_option maxHeartbeats 4000000
set_option maxRecDepth 100000
namespace Go.Proofs.Ytdheeecpkkjfiaa
open Go.Am Go.Proofs Go.Low
attribute [local irreducible] AW CallP CallB

theorem ok_rep {bl : List Blk} (hb : OkB bl) (n : Nat) : OkB (bl ++ List.replicate n ⟨[], 0, 0, none⟩) := by
  intro b hb' x hx
  rcases List.mem_append.1 hb' with h | h
  · exact hb b h x hx
  · obtain rfl := (List.mem_replicate.1 h).2
    cases hx

theorem get_rep {bl : List Blk} {n k : Nat} {b : Blk} (hk : (bl ++ List.replicate n ⟨[], 0, 0, none⟩)[k]? = some b) (hc : b.code ≠ []) : bl[k]? = some b := by
  rcases Nat.lt_or_ge k bl.length with h | h
  · rwa [List.getElem?_append_left h] at hk
  · rw [List.getElem?_append_right h] at hk
    obtain rfl := (List.mem_replicate.1 (List.mem_of_getElem? hk)).2
    exact absurd rfl hc

theorem add_call {md : List (AV × AV)} {bl : List Blk} {cur : Int} (hm : OkM (hsL md)) (hb : OkB bl) (n : Nat) (hlen : bl.length + n ≤ 500000) :
    LCall Try.prog 47 [.i n] (hsL md) bl cur (fun r bl' cur' => r = .i bl.length ∧ bl' = bl ++ List.replicate n ⟨[], 0, 0, none⟩ ∧ cur' = cur) (fun _ _ _ => False) := by
  refine LCall.intro Try.func47 rfl isf47 (by simp [Try.f47]) hm fun E Q hE hN hQ hQp => K_start ?_
  refine K_low (fr := [(0, .ptr 0 0), (1, .i n)]) (loc := []) (base := 2) (fun i => i) hN hb (by omega) hm (Nat.le_refl 2) (fun _ _ h => h) (by simp [go_sem, lowM]) (by simp) (by simp) ?_
  repeat' (first | refine K_seq ?_ | refine K_blk ?_ | refine AW_skip ?_ | refine AW_exit ?_ | refine Kq_exit_code ?_ | refine Kq_exit_lp ?_ | refine Kq_exit_blk ?_ | refine Kq_exit_ne (by decide) ?_ | refine Kq_norm_code ?_ | refine Kq_norm_blk ?_ | refine Kq_norm_lp ?_ | rw [wrap64 (by omega) (by omega)] | (refine hK _ ?_; clear hK hKp K Kp; (try clear hanc anc)) | (refine hKp _ _ ?_; clear hK hKp K Kp; (try clear hanc anc)) | ((with_reducible refine And.intro ?_ ?_); (focus (first | trivial | omega | (simp only [Fits]; omega) | (refine ⟨?_, ?_⟩ <;> (simp only [Fits]; omega)) | assumption | (rw [hanc]; rfl)))) | ((first | refine K_regA hE fun K Kp hK hKp => ?_ | refine K_drwA true mixed hE fun K Kp hK hKp anc hanc => ?_ | refine K_drwA false mixed hE fun K Kp hK hKp anc hanc => ?_); simp only [go_sem, ↓reduceIte, reduceCtorEq, Nat.reduceAdd, Nat.reduceMul, Nat.reduceEqDiff, Nat.reduceLT, Nat.reduceLeDiff, Nat.reduceSub, Nat.reduceDiv, Nat.reducePow, Nat.reduceBEq, Int.reduceBEq, Int.reduceBNe, Int.reduceLT, Int.reduceLE, Int.reduceEq, blksAV_len]) | ((first | refine onG_split_t (fun hg => ?_) (fun hg => ?_) | refine onG_split_f (fun hg => ?_) (fun hg => ?_)) <;> simp only [go_sem, ↓reduceIte, reduceCtorEq, Nat.reduceAdd, Nat.reduceMul, Nat.reduceEqDiff, Nat.reduceLT, Nat.reduceLeDiff, Nat.reduceSub, Nat.reduceDiv, Nat.reducePow, Nat.reduceBEq, Int.reduceBEq, Int.reduceBNe, Int.reduceLT, Int.reduceLE, Int.reduceEq, blksAV_len, hg]) | (refine K_condA (fun hc => ?_) (fun hc => ?_) <;> try (exact absurd hc (by decide))))
  refine K_ret ?_
  refine (hQ _ (.i bl.length) (bl ++ List.replicate n ⟨[], 0, 0, none⟩) cur (resA_tmp (by simp only [go_sem, ↓reduceIte, reduceCtorEq, Nat.reduceAdd, Nat.reduceMul, Nat.reduceEqDiff, Nat.reduceLT, Nat.reduceLeDiff, Nat.reduceSub, Nat.reduceDiv, Nat.reducePow, Nat.reduceBEq, Int.reduceBEq, Int.reduceBNe, Int.reduceLT, Int.reduceLE, Int.reduceEq]; congr 2; omega)) ⟨rfl, rfl, rfl⟩ rfl (Out.row 8340032 (by decide) (ok_rep hb n) hm (by simp; omega) (by simp only [go_sem, ↓reduceIte, reduceCtorEq, Nat.reduceAdd, Nat.reduceMul, Nat.reduceEqDiff, Nat.reduceLT, Nat.reduceLeDiff, Nat.reduceSub, Nat.reduceDiv, Nat.reducePow, Nat.reduceBEq, Int.reduceBEq, Int.reduceBNe, Int.reduceLT, Int.reduceLE, Int.reduceEq]) (by simp [go_sem]) ?_ ?_)).1
  · simp only [go_sem, ↓reduceIte, reduceCtorEq, Nat.reduceAdd, Nat.reduceMul, Nat.reduceEqDiff, Nat.reduceLT, Nat.reduceLeDiff, Nat.reduceSub, Nat.reduceDiv, Nat.reducePow, Nat.reduceBEq, Int.reduceBEq, Int.reduceBNe, Int.reduceLT, Int.reduceLE, Int.reduceEq]
    rw [blksAV_app, blksAV_rep]
  · intro k b hk hc
    have hk2 := get_rep hk hc
    have hlt : k < bl.length := (List.getElem?_eq_some_iff.1 hk2).1
    simp only [go_sem, ↓reduceIte, reduceCtorEq, Nat.reduceAdd, Nat.reduceMul, Nat.reduceEqDiff, Nat.reduceLT, Nat.reduceLeDiff, Nat.reduceSub, Nat.reduceDiv, Nat.reducePow, Nat.reduceBEq, Int.reduceBEq, Int.reduceBNe, Int.reduceLT, Int.reduceLE, Int.reduceEq]
    rw [if_neg (by omega), if_neg (by omega), if_neg (by omega)]
    exact lowHp_code (by omega) hk2 hc

theorem end_call {md : List (AV × AV)} {bl : List Blk} {cur : Nat} (hm : OkM (hsL md)) (hb : OkB bl) (hlen : bl.length ≤ 500000) {b : Blk} (hc : bl[cur]? = some b) (kind a : Int) (ts : List Int) :
    LCall Try.prog 48 [.i kind, .i a, .sl (ts.map AV.i)] (hsL md) bl cur (fun r bl' cur' => r = .tup [] ∧ bl' = bl.set cur ⟨b.code, kind, a, some ts⟩ ∧ cur' = cur) (fun _ _ _ => False) := by
  refine LCall.intro Try.func48 rfl isf48 (by simp [Try.f48]) hm fun E Q hE hN hQ hQp => K_start ?_
  refine K_low (fr := [(0, .ptr 0 0), (1, .i kind), (2, .i a), (3, .sl (ts.map AV.i))]) (loc := []) (base := 2) (fun i => i) hN hb (by omega) hm (Nat.le_refl 2) (fun _ _ h => h) (by simp [go_sem, lowM]) (by simp) (by simp) ?_
  have hcur : cur < bl.length := (List.getElem?_eq_some_iff.1 hc).1
  repeat' (first | refine K_seq ?_ | refine K_blk ?_ | refine AW_skip ?_ | refine AW_exit ?_ | refine Kq_exit_code ?_ | refine Kq_exit_lp ?_ | refine Kq_exit_blk ?_ | refine Kq_exit_ne (by decide) ?_ | refine Kq_norm_code ?_ | refine Kq_norm_blk ?_ | refine Kq_norm_lp ?_ | rw [wrap64 (by omega) (by omega)] | (refine hK _ ?_; clear hK hKp K Kp; (try clear hanc anc)) | (refine hKp _ _ ?_; clear hK hKp K Kp; (try clear hanc anc)) | ((with_reducible refine And.intro ?_ ?_); (focus (first | trivial | omega | (simp only [Fits]; omega) | (refine ⟨?_, ?_⟩ <;> (simp only [Fits]; omega)) | assumption | (rw [hanc]; rfl)))) | ((first | refine K_regA hE fun K Kp hK hKp => ?_ | refine K_drwA true mixed hE fun K Kp hK hKp anc hanc => ?_ | refine K_drwA false mixed hE fun K Kp hK hKp anc hanc => ?_); simp only [go_sem, ↓reduceIte, reduceCtorEq, Nat.reduceAdd, Nat.reduceMul, Nat.reduceEqDiff, Nat.reduceLT, Nat.reduceLeDiff, Nat.reduceSub, Nat.reduceDiv, Nat.reducePow, Nat.reduceBEq, Int.reduceBEq, Int.reduceBNe, Int.reduceLT, Int.reduceLE, Int.reduceEq, blksAV_len, blksAV_get?, hc, blkAV]) | ((first | refine onG_split_t (fun hg => ?_) (fun hg => ?_) | refine onG_split_f (fun hg => ?_) (fun hg => ?_)) <;> simp only [go_sem, ↓reduceIte, reduceCtorEq, Nat.reduceAdd, Nat.reduceMul, Nat.reduceEqDiff, Nat.reduceLT, Nat.reduceLeDiff, Nat.reduceSub, Nat.reduceDiv, Nat.reducePow, Nat.reduceBEq, Int.reduceBEq, Int.reduceBNe, Int.reduceLT, Int.reduceLE, Int.reduceEq, blksAV_len, blksAV_get?, hc, blkAV, hg]) | (refine K_condA (fun hc => ?_) (fun hc => ?_) <;> try (exact absurd hc (by decide))))
  have e1 : (blksAV 11 bl).set cur (.agg [cAV (11 + cur) b, .i kind, .i a, .sl (ts.map AV.i)]) = blksAV 11 (bl.set cur ⟨b.code, kind, a, some ts⟩) := blksAV_set bl 11 cur ⟨b.code, kind, a, some ts⟩
  rw [e1]
  refine Kq_norm_nil ?_
  refine (hQ _ (.tup []) (bl.set cur ⟨b.code, kind, a, some ts⟩) cur rfl ⟨rfl, rfl, rfl⟩ rfl ?_).2
  refine Out.of_in (base := 10) (hb.set hc rfl) hm (by omega) ?_ (by simpa using hlen)
  exact LowIn.set (fun _ _ h => h) (by omega) hc rfl

theorem ins_call {md : List (AV × AV)} {bl : List Blk} {cur : Nat} (hm : OkM (hsL md)) (hb : OkB bl) (hlen : bl.length ≤ 500000) {b : Blk} (hc : bl[cur]? = some b) (hcode : b.code.length ≤ 1000000) (n : Nd) :
    LCall Try.prog 40 [n.av] (hsL md) bl cur (fun r bl' cur' => r = .bool true ∧ bl' = bl.set cur ⟨b.code ++ [n.ins.av], b.kind, b.a, b.tg⟩ ∧ cur' = cur) (fun _ _ _ => False) := by
  refine LCall.intro Try.func40 rfl isf40 (by simp [Try.f40]) hm fun E Q hE hN hQ hQp => K_start ?_
  refine K_low (fr := [(0, .ptr 0 0), (1, n.av)]) (loc := []) (base := 2) (fun i => i) hN hb (by omega) hm (Nat.le_refl 2) (fun _ _ h => h) (by simp [go_sem, lowM, ren_clo _ _ n.av_clo, ids_clo _ _ n.av_clo]) (by simp) (by simp) ?_
  have hcur : cur < bl.length := (List.getElem?_eq_some_iff.1 hc).1
  rw [Nd.av_eq]
  have f1 : (11 + cur = 1000000) = False := eq_false (by omega)
  have f2 : (11 + cur < 14631488) = True := eq_true (by omega)
  by_cases hne : b.code = []
  · have hcv : cAV (11 + cur) b = .nilsl := if_pos hne
    repeat' (first | refine K_seq ?_ | refine K_blk ?_ | refine AW_skip ?_ | refine AW_exit ?_ | refine Kq_exit_code ?_ | refine Kq_exit_lp ?_ | refine Kq_exit_blk ?_ | refine Kq_exit_ne (by decide) ?_ | refine Kq_norm_code ?_ | refine Kq_norm_blk ?_ | refine Kq_norm_lp ?_ | rw [wrap64 (by omega) (by omega)] | (refine hK _ ?_; clear hK hKp K Kp; (try clear hanc anc)) | (refine hKp _ _ ?_; clear hK hKp K Kp; (try clear hanc anc)) | ((with_reducible refine And.intro ?_ ?_); (focus (first | trivial | omega | (simp only [Fits]; omega) | (refine ⟨?_, ?_⟩ <;> (simp only [Fits]; omega)) | assumption | (rw [hanc]; rfl)))) | ((first | refine K_regA hE fun K Kp hK hKp => ?_ | refine K_drwA true mixed hE fun K Kp hK hKp anc hanc => ?_ | refine K_drwA false mixed hE fun K Kp hK hKp anc hanc => ?_); simp only [go_sem, ↓reduceIte, reduceCtorEq, Nat.reduceAdd, Nat.reduceMul, Nat.reduceEqDiff, Nat.reduceLT, Nat.reduceLeDiff, Nat.reduceSub, Nat.reduceDiv, Nat.reducePow, Nat.reduceBEq, Int.reduceBEq, Int.reduceBNe, Int.reduceLT, Int.reduceLE, Int.reduceEq, blksAV_len, blksAV_get?, hc, blkAV, hcv, f1, f2]) | ((first | refine onG_split_t (fun hg => ?_) (fun hg => ?_) | refine onG_split_f (fun hg => ?_) (fun hg => ?_)) <;> simp only [go_sem, ↓reduceIte, reduceCtorEq, Nat.reduceAdd, Nat.reduceMul, Nat.reduceEqDiff, Nat.reduceLT, Nat.reduceLeDiff, Nat.reduceSub, Nat.reduceDiv, Nat.reducePow, Nat.reduceBEq, Int.reduceBEq, Int.reduceBNe, Int.reduceLT, Int.reduceLE, Int.reduceEq, blksAV_len, blksAV_get?, hc, blkAV, hcv, f1, f2, hg]) | (refine K_condA (fun hc => ?_) (fun hc => ?_) <;> try (exact absurd hc (by decide))))
    refine K_ret ?_
    refine (hQ _ (.bool true) _ cur (resA_tmp (by simp only [go_sem, ↓reduceIte, reduceCtorEq, Nat.reduceAdd, Nat.reduceMul, Nat.reduceEqDiff, Nat.reduceLT, Nat.reduceLeDiff, Nat.reduceSub, Nat.reduceDiv, Nat.reducePow, Nat.reduceBEq, Int.reduceBEq, Int.reduceBNe, Int.reduceLT, Int.reduceLE, Int.reduceEq])) ⟨rfl, rfl, rfl⟩ rfl (Out.ins (v := 21971520) hc hb hm n.ins.av_clo hlen (by omega) (by simp only [go_sem, ↓reduceIte, reduceCtorEq, Nat.reduceAdd, Nat.reduceMul, Nat.reduceEqDiff, Nat.reduceLT, Nat.reduceLeDiff, Nat.reduceSub, Nat.reduceDiv, Nat.reducePow, Nat.reduceBEq, Int.reduceBEq, Int.reduceBNe, Int.reduceLT, Int.reduceLE, Int.reduceEq]) (by simp [go_sem]) (by simp only [go_sem, ↓reduceIte, reduceCtorEq, Nat.reduceAdd, Nat.reduceMul, Nat.reduceEqDiff, Nat.reduceLT, Nat.reduceLeDiff, Nat.reduceSub, Nat.reduceDiv, Nat.reducePow, Nat.reduceBEq, Int.reduceBEq, Int.reduceBNe, Int.reduceLT, Int.reduceLE, Int.reduceEq]) ?_ ?_)).1
    · simp only [go_sem, ↓reduceIte, reduceCtorEq, Nat.reduceAdd, Nat.reduceMul, Nat.reduceEqDiff, Nat.reduceLT, Nat.reduceLeDiff, Nat.reduceSub, Nat.reduceDiv, Nat.reducePow, Nat.reduceBEq, Int.reduceBEq, Int.reduceBNe, Int.reduceLT, Int.reduceLE, Int.reduceEq]
      rw [hne]; rfl
    · intro j hj hj2
      have g1 : (11 + j = 1000000) = False := eq_false (by omega)
      have g2 : (11 + j = 20922944) = False := eq_false (by omega)
      have g3 : (11 + j = 21971520) = False := eq_false (by omega)
      have g4 : (11 + j = 10) = False := eq_false (by omega)
      simp only [go_sem, ↓reduceIte, reduceCtorEq, Nat.reduceAdd, Nat.reduceMul, Nat.reduceEqDiff, Nat.reduceLT, Nat.reduceLeDiff, Nat.reduceSub, Nat.reduceDiv, Nat.reducePow, Nat.reduceBEq, Int.reduceBEq, Int.reduceBNe, Int.reduceLT, Int.reduceLE, Int.reduceEq, g1, g2, g3, g4]
  · have hcv : cAV (11 + cur) b = .rw (11 + cur) := if_neg hne
    have hl : lowHp (hsL md) 10 bl cur (11 + cur) = some (.row 7 b.code) := lowHp_code (by omega) hc hne
    have f3 : (11 + cur < 13582912) = True := eq_true (by omega)
    have f4 : (11 + cur = 20922944) = False := eq_false (by omega)
    have f5 : (10 = 11 + cur) = False := eq_false (by omega)
    have f6 : (0 = 11 + cur) = False := eq_false (by omega)
    have f7 : (1 = 11 + cur) = False := eq_false (by omega)
    repeat' (first | refine K_seq ?_ | refine K_blk ?_ | refine AW_skip ?_ | refine AW_exit ?_ | refine Kq_exit_code ?_ | refine Kq_exit_lp ?_ | refine Kq_exit_blk ?_ | refine Kq_exit_ne (by decide) ?_ | refine Kq_norm_code ?_ | refine Kq_norm_blk ?_ | refine Kq_norm_lp ?_ | rw [wrap64 (by omega) (by omega)] | (refine hK _ ?_; clear hK hKp K Kp; (try clear hanc anc)) | (refine hKp _ _ ?_; clear hK hKp K Kp; (try clear hanc anc)) | ((with_reducible refine And.intro ?_ ?_); (focus (first | trivial | omega | (simp only [Fits]; omega) | (refine ⟨?_, ?_⟩ <;> (simp only [Fits]; omega)) | assumption | (rw [hanc]; rfl)))) | ((first | refine K_regA hE fun K Kp hK hKp => ?_ | refine K_drwA true mixed hE fun K Kp hK hKp anc hanc => ?_ | refine K_drwA false mixed hE fun K Kp hK hKp anc hanc => ?_); simp only [go_sem, ↓reduceIte, reduceCtorEq, Nat.reduceAdd, Nat.reduceMul, Nat.reduceEqDiff, Nat.reduceLT, Nat.reduceLeDiff, Nat.reduceSub, Nat.reduceDiv, Nat.reducePow, Nat.reduceBEq, Int.reduceBEq, Int.reduceBNe, Int.reduceLT, Int.reduceLE, Int.reduceEq, blksAV_len, blksAV_get?, hc, blkAV, hcv, f1, f2, f3, f4, f5, hl]) | ((first | refine onG_split_t (fun hg => ?_) (fun hg => ?_) | refine onG_split_f (fun hg => ?_) (fun hg => ?_)) <;> simp only [go_sem, ↓reduceIte, reduceCtorEq, Nat.reduceAdd, Nat.reduceMul, Nat.reduceEqDiff, Nat.reduceLT, Nat.reduceLeDiff, Nat.reduceSub, Nat.reduceDiv, Nat.reducePow, Nat.reduceBEq, Int.reduceBEq, Int.reduceBNe, Int.reduceLT, Int.reduceLE, Int.reduceEq, blksAV_len, blksAV_get?, hc, blkAV, hcv, f1, f2, f3, f4, f5, hl, hg]) | (refine K_condA (fun hc => ?_) (fun hc => ?_) <;> try (exact absurd hc (by decide))))
    refine K_ret ?_
    refine (hQ _ (.bool true) _ cur (resA_tmp (by simp only [go_sem, ↓reduceIte, reduceCtorEq, Nat.reduceAdd, Nat.reduceMul, Nat.reduceEqDiff, Nat.reduceLT, Nat.reduceLeDiff, Nat.reduceSub, Nat.reduceDiv, Nat.reducePow, Nat.reduceBEq, Int.reduceBEq, Int.reduceBNe, Int.reduceLT, Int.reduceLE, Int.reduceEq])) ⟨rfl, rfl, rfl⟩ rfl (Out.ins (v := 21971520) hc hb hm n.ins.av_clo hlen (by omega) (by simp only [go_sem, ↓reduceIte, reduceCtorEq, Nat.reduceAdd, Nat.reduceMul, Nat.reduceEqDiff, Nat.reduceLT, Nat.reduceLeDiff, Nat.reduceSub, Nat.reduceDiv, Nat.reducePow, Nat.reduceBEq, Int.reduceBEq, Int.reduceBNe, Int.reduceLT, Int.reduceLE, Int.reduceEq, f6]) (by simp [go_sem, f7]) (by simp only [go_sem, ↓reduceIte, reduceCtorEq, Nat.reduceAdd, Nat.reduceMul, Nat.reduceEqDiff, Nat.reduceLT, Nat.reduceLeDiff, Nat.reduceSub, Nat.reduceDiv, Nat.reducePow, Nat.reduceBEq, Int.reduceBEq, Int.reduceBNe, Int.reduceLT, Int.reduceLE, Int.reduceEq]) (by simp only [go_sem, ↓reduceIte, reduceCtorEq, Nat.reduceAdd, Nat.reduceMul, Nat.reduceEqDiff, Nat.reduceLT, Nat.reduceLeDiff, Nat.reduceSub, Nat.reduceDiv, Nat.reducePow, Nat.reduceBEq, Int.reduceBEq, Int.reduceBNe, Int.reduceLT, Int.reduceLE, Int.reduceEq]; rfl) ?_)).1
    intro j hj hj2
    have g1 : (11 + j = 1000000) = False := eq_false (by omega)
    have g2 : (11 + j = 20922944) = False := eq_false (by omega)
    have g3 : (11 + j = 21971520) = False := eq_false (by omega)
    have g4 : (11 + j = 10) = False := eq_false (by omega)
    have g5 : (11 + j = 11 + cur) = False := eq_false (by omega)
    simp only [go_sem, ↓reduceIte, reduceCtorEq, Nat.reduceAdd, Nat.reduceMul, Nat.reduceEqDiff, Nat.reduceLT, Nat.reduceLeDiff, Nat.reduceSub, Nat.reduceDiv, Nat.reducePow, Nat.reduceBEq, Int.reduceBEq, Int.reduceBNe, Int.reduceLT, Int.reduceLE, Int.reduceEq, g1, g2, g3, g4, g5]
end Go.Proofs.Ytdheeecpkkjfiaa


/- Chapter 10: return and panic. -/
set_option linter.unusedSimpArgs false
set_option linter.unusedVariables false
set_option maxHeartbeats 4000000
set_option maxRecDepth 100000
namespace Go.Proofs.Ytdheeecpkkjfiaa
open Go.Am Go.Proofs Go.Low
attribute [local irreducible] AW CallP CallB

theorem ret_call {md : List (AV × AV)} {bl : List Blk} {cur : Nat} (hm : OkM (hsL md)) (hb : OkB bl) (hlen : bl.length ≤ 500000) {b : Blk} (hc : bl[cur]? = some b) (n : Nd) :
    LCall Try.prog 44 [n.av] (hsL md) bl cur (fun r bl' cur' => r = .bool false ∧ bl' = bl.set cur ⟨b.code, 4, n.a, some []⟩ ∧ cur' = cur) (fun _ _ _ => False) := by
  refine LCall.intro Try.func44 rfl isf44 (by simp [Try.f44]) hm fun E Q hE hN hQ hQp => K_start ?_
  refine K_low (fr := [(0, .ptr 0 0), (1, n.av)]) (loc := []) (base := 2) (fun i => i) hN hb (by omega) hm (Nat.le_refl 2) (fun _ _ h => h) (by simp [go_sem, lowM, ren_clo _ _ n.av_clo, ids_clo _ _ n.av_clo]) (by simp) (by simp) ?_
  rw [Nd.av_eq]
  repeat' (first | refine K_seq ?_ | refine K_blk ?_ | refine AW_skip ?_ | refine AW_exit ?_ | refine Kq_exit_code ?_ | refine Kq_exit_lp ?_ | refine Kq_exit_blk ?_ | refine Kq_exit_ne (by decide) ?_ | refine Kq_norm_code ?_ | refine Kq_norm_blk ?_ | refine Kq_norm_lp ?_ | rw [wrap64 (by omega) (by omega)] | (refine hK _ ?_; clear hK hKp K Kp; (try clear hanc anc)) | (refine hKp _ _ ?_; clear hK hKp K Kp; (try clear hanc anc)) | ((with_reducible refine And.intro ?_ ?_); (focus (first | trivial | omega | (simp only [Fits]; omega) | (refine ⟨?_, ?_⟩ <;> (simp only [Fits]; omega)) | assumption | (rw [hanc]; rfl)))) | ((first | refine K_regA hE fun K Kp hK hKp => ?_ | refine K_drwA true mixed hE fun K Kp hK hKp anc hanc => ?_ | refine K_drwA false mixed hE fun K Kp hK hKp anc hanc => ?_); simp only [go_sem, ↓reduceIte, reduceCtorEq, Nat.reduceAdd, Nat.reduceMul, Nat.reduceEqDiff, Nat.reduceLT, Nat.reduceLeDiff, Nat.reduceSub, Nat.reduceDiv, Nat.reducePow, Nat.reduceBEq, Int.reduceBEq, Int.reduceBNe, Int.reduceLT, Int.reduceLE, Int.reduceEq]) | ((first | refine onG_split_t (fun hg => ?_) (fun hg => ?_) | refine onG_split_f (fun hg => ?_) (fun hg => ?_)) <;> simp only [go_sem, ↓reduceIte, reduceCtorEq, Nat.reduceAdd, Nat.reduceMul, Nat.reduceEqDiff, Nat.reduceLT, Nat.reduceLeDiff, Nat.reduceSub, Nat.reduceDiv, Nat.reducePow, Nat.reduceBEq, Int.reduceBEq, Int.reduceBNe, Int.reduceLT, Int.reduceLE, Int.reduceEq, hg]) | (refine K_condA (fun hc => ?_) (fun hc => ?_) <;> try (exact absurd hc (by decide))))
  refine Hold.mk (CallB.nil3 <| LCall.use (end_call hm hb hlen hc 4 (n.a) []) rfl hm hb (o := 10) (by omega) (LowIn.upd (fun _ _ h => h) (lowHp_none (by omega) (.inr (by omega)))) (Nat.le_of_ble_eq_true rfl) ?_ (fun _ _ _ _ h => h.elim))
  rintro r bl' cur' ⟨fr', hp', nx'⟩ ⟨rfl, rfl, rfl⟩ _ hb' hlen' hnx hfr hin hold
  simp only at hnx hfr hin hold
  subst hnx hfr
  simp only [go_sem, ↓reduceIte, reduceCtorEq, Nat.reduceAdd, Nat.reduceMul, Nat.reduceEqDiff, Nat.reduceLT, Nat.reduceLeDiff, Nat.reduceSub, Nat.reduceDiv, Nat.reducePow, Nat.reduceBEq, Int.reduceBEq, Int.reduceBNe, Int.reduceLT, Int.reduceLE, Int.reduceEq]
  refine hK _ ?_; clear hK hKp K Kp; (try clear hanc anc)
  repeat (first | refine Kq_norm_code ?_ | refine Kq_norm_blk ?_ | refine Kq_norm_lp ?_)
  refine K_low (fr := [(0, .ptr 0 0)]) (loc := []) _ (fun i => i) hN hb' hlen' hm (by omega) hin (by simp [go_sem, lowM]) (by simp [hold]) (by simp) ?_
  clear hin hold; clear hb; have hb := hb'; clear hb'
  repeat' (first | refine K_seq ?_ | refine K_blk ?_ | refine AW_skip ?_ | refine AW_exit ?_ | refine Kq_exit_code ?_ | refine Kq_exit_lp ?_ | refine Kq_exit_blk ?_ | refine Kq_exit_ne (by decide) ?_ | refine Kq_norm_code ?_ | refine Kq_norm_blk ?_ | refine Kq_norm_lp ?_ | rw [wrap64 (by omega) (by omega)] | (refine hK _ ?_; clear hK hKp K Kp; (try clear hanc anc)) | (refine hKp _ _ ?_; clear hK hKp K Kp; (try clear hanc anc)) | ((with_reducible refine And.intro ?_ ?_); (focus (first | trivial | omega | (simp only [Fits]; omega) | (refine ⟨?_, ?_⟩ <;> (simp only [Fits]; omega)) | assumption | (rw [hanc]; rfl)))) | ((first | refine K_regA hE fun K Kp hK hKp => ?_ | refine K_drwA true mixed hE fun K Kp hK hKp anc hanc => ?_ | refine K_drwA false mixed hE fun K Kp hK hKp anc hanc => ?_); simp only [go_sem, ↓reduceIte, reduceCtorEq, Nat.reduceAdd, Nat.reduceMul, Nat.reduceEqDiff, Nat.reduceLT, Nat.reduceLeDiff, Nat.reduceSub, Nat.reduceDiv, Nat.reducePow, Nat.reduceBEq, Int.reduceBEq, Int.reduceBNe, Int.reduceLT, Int.reduceLE, Int.reduceEq]) | ((first | refine onG_split_t (fun hg => ?_) (fun hg => ?_) | refine onG_split_f (fun hg => ?_) (fun hg => ?_)) <;> simp only [go_sem, ↓reduceIte, reduceCtorEq, Nat.reduceAdd, Nat.reduceMul, Nat.reduceEqDiff, Nat.reduceLT, Nat.reduceLeDiff, Nat.reduceSub, Nat.reduceDiv, Nat.reducePow, Nat.reduceBEq, Int.reduceBEq, Int.reduceBNe, Int.reduceLT, Int.reduceLE, Int.reduceEq, hg]) | (refine K_condA (fun hc => ?_) (fun hc => ?_) <;> try (exact absurd hc (by decide))))
  refine K_ret ?_
  exact (hQ _ _ _ cur (resA_tmp (by simp only [go_sem, ↓reduceIte, reduceCtorEq, Nat.reduceAdd, Nat.reduceMul, Nat.reduceEqDiff, Nat.reduceLT, Nat.reduceLeDiff, Nat.reduceSub, Nat.reduceDiv, Nat.reducePow, Nat.reduceBEq, Int.reduceBEq, Int.reduceBNe, Int.reduceLT, Int.reduceLE, Int.reduceEq])) ⟨rfl, rfl, rfl⟩ rfl (Out.of_in (base := 10) hb hm (by omega) (fun _ _ h => h) hlen')).1
theorem panics_call {md : List (AV × AV)} {bl : List Blk} {cur : Nat} (hm : OkM (hsL md)) (hb : OkB bl) (hlen : bl.length ≤ 500000) {b : Blk} (hc : bl[cur]? = some b) (n : Nd) :
    LCall Try.prog 45 [n.av] (hsL md) bl cur (fun r bl' cur' => r = .bool false ∧ bl' = bl.set cur ⟨b.code, 5, 0, some []⟩ ∧ cur' = cur) (fun _ _ _ => False) := by
  refine LCall.intro Try.func45 rfl isf45 (by simp [Try.f45]) hm fun E Q hE hN hQ hQp => K_start ?_
  refine K_low (fr := [(0, .ptr 0 0), (1, n.av)]) (loc := []) (base := 2) (fun i => i) hN hb (by omega) hm (Nat.le_refl 2) (fun _ _ h => h) (by simp [go_sem, lowM, ren_clo _ _ n.av_clo, ids_clo _ _ n.av_clo]) (by simp) (by simp) ?_
  rw [Nd.av_eq]
  repeat' (first | refine K_seq ?_ | refine K_blk ?_ | refine AW_skip ?_ | refine AW_exit ?_ | refine Kq_exit_code ?_ | refine Kq_exit_lp ?_ | refine Kq_exit_blk ?_ | refine Kq_exit_ne (by decide) ?_ | refine Kq_norm_code ?_ | refine Kq_norm_blk ?_ | refine Kq_norm_lp ?_ | rw [wrap64 (by omega) (by omega)] | (refine hK _ ?_; clear hK hKp K Kp; (try clear hanc anc)) | (refine hKp _ _ ?_; clear hK hKp K Kp; (try clear hanc anc)) | ((with_reducible refine And.intro ?_ ?_); (focus (first | trivial | omega | (simp only [Fits]; omega) | (refine ⟨?_, ?_⟩ <;> (simp only [Fits]; omega)) | assumption | (rw [hanc]; rfl)))) | ((first | refine K_regA hE fun K Kp hK hKp => ?_ | refine K_drwA true mixed hE fun K Kp hK hKp anc hanc => ?_ | refine K_drwA false mixed hE fun K Kp hK hKp anc hanc => ?_); simp only [go_sem, ↓reduceIte, reduceCtorEq, Nat.reduceAdd, Nat.reduceMul, Nat.reduceEqDiff, Nat.reduceLT, Nat.reduceLeDiff, Nat.reduceSub, Nat.reduceDiv, Nat.reducePow, Nat.reduceBEq, Int.reduceBEq, Int.reduceBNe, Int.reduceLT, Int.reduceLE, Int.reduceEq]) | ((first | refine onG_split_t (fun hg => ?_) (fun hg => ?_) | refine onG_split_f (fun hg => ?_) (fun hg => ?_)) <;> simp only [go_sem, ↓reduceIte, reduceCtorEq, Nat.reduceAdd, Nat.reduceMul, Nat.reduceEqDiff, Nat.reduceLT, Nat.reduceLeDiff, Nat.reduceSub, Nat.reduceDiv, Nat.reducePow, Nat.reduceBEq, Int.reduceBEq, Int.reduceBNe, Int.reduceLT, Int.reduceLE, Int.reduceEq, hg]) | (refine K_condA (fun hc => ?_) (fun hc => ?_) <;> try (exact absurd hc (by decide))))
  refine Hold.mk (CallB.nil3 <| LCall.use (end_call hm hb hlen hc 5 (0) []) rfl hm hb (o := 10) (by omega) (LowIn.upd (fun _ _ h => h) (lowHp_none (by omega) (.inr (by omega)))) (Nat.le_of_ble_eq_true rfl) ?_ (fun _ _ _ _ h => h.elim))
  rintro r bl' cur' ⟨fr', hp', nx'⟩ ⟨rfl, rfl, rfl⟩ _ hb' hlen' hnx hfr hin hold
  simp only at hnx hfr hin hold
  subst hnx hfr
  simp only [go_sem, ↓reduceIte, reduceCtorEq, Nat.reduceAdd, Nat.reduceMul, Nat.reduceEqDiff, Nat.reduceLT, Nat.reduceLeDiff, Nat.reduceSub, Nat.reduceDiv, Nat.reducePow, Nat.reduceBEq, Int.reduceBEq, Int.reduceBNe, Int.reduceLT, Int.reduceLE, Int.reduceEq]
  refine hK _ ?_; clear hK hKp K Kp; (try clear hanc anc)
  repeat (first | refine Kq_norm_code ?_ | refine Kq_norm_blk ?_ | refine Kq_norm_lp ?_)
  refine K_low (fr := [(0, .ptr 0 0)]) (loc := []) _ (fun i => i) hN hb' hlen' hm (by omega) hin (by simp [go_sem, lowM]) (by simp [hold]) (by simp) ?_
  clear hin hold; clear hb; have hb := hb'; clear hb'
  repeat' (first | refine K_seq ?_ | refine K_blk ?_ | refine AW_skip ?_ | refine AW_exit ?_ | refine Kq_exit_code ?_ | refine Kq_exit_lp ?_ | refine Kq_exit_blk ?_ | refine Kq_exit_ne (by decide) ?_ | refine Kq_norm_code ?_ | refine Kq_norm_blk ?_ | refine Kq_norm_lp ?_ | rw [wrap64 (by omega) (by omega)] | (refine hK _ ?_; clear hK hKp K Kp; (try clear hanc anc)) | (refine hKp _ _ ?_; clear hK hKp K Kp; (try clear hanc anc)) | ((with_reducible refine And.intro ?_ ?_); (focus (first | trivial | omega | (simp only [Fits]; omega) | (refine ⟨?_, ?_⟩ <;> (simp only [Fits]; omega)) | assumption | (rw [hanc]; rfl)))) | ((first | refine K_regA hE fun K Kp hK hKp => ?_ | refine K_drwA true mixed hE fun K Kp hK hKp anc hanc => ?_ | refine K_drwA false mixed hE fun K Kp hK hKp anc hanc => ?_); simp only [go_sem, ↓reduceIte, reduceCtorEq, Nat.reduceAdd, Nat.reduceMul, Nat.reduceEqDiff, Nat.reduceLT, Nat.reduceLeDiff, Nat.reduceSub, Nat.reduceDiv, Nat.reducePow, Nat.reduceBEq, Int.reduceBEq, Int.reduceBNe, Int.reduceLT, Int.reduceLE, Int.reduceEq]) | ((first | refine onG_split_t (fun hg => ?_) (fun hg => ?_) | refine onG_split_f (fun hg => ?_) (fun hg => ?_)) <;> simp only [go_sem, ↓reduceIte, reduceCtorEq, Nat.reduceAdd, Nat.reduceMul, Nat.reduceEqDiff, Nat.reduceLT, Nat.reduceLeDiff, Nat.reduceSub, Nat.reduceDiv, Nat.reducePow, Nat.reduceBEq, Int.reduceBEq, Int.reduceBNe, Int.reduceLT, Int.reduceLE, Int.reduceEq, hg]) | (refine K_condA (fun hc => ?_) (fun hc => ?_) <;> try (exact absurd hc (by decide))))
  refine K_ret ?_
  exact (hQ _ _ _ cur (resA_tmp (by simp only [go_sem, ↓reduceIte, reduceCtorEq, Nat.reduceAdd, Nat.reduceMul, Nat.reduceEqDiff, Nat.reduceLT, Nat.reduceLeDiff, Nat.reduceSub, Nat.reduceDiv, Nat.reducePow, Nat.reduceBEq, Int.reduceBEq, Int.reduceBNe, Int.reduceLT, Int.reduceLE, Int.reduceEq])) ⟨rfl, rfl, rfl⟩ rfl (Out.of_in (base := 10) hb hm (by omega) (fun _ _ h => h) hlen')).1
end Go.Proofs.Ytdheeecpkkjfiaa

