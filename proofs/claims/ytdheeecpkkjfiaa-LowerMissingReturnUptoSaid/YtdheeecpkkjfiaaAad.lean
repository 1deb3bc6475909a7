/- A part of the proof: an abstract machine for the walks, and what the walked functions compute. -/
import Derived.Defers
import Derived.Test.YtdheeecpkkjfiaaAac
set_option linter.unusedVariables false
set_option linter.unusedSimpArgs false
/- The abstract machine: rules for code, and contracts of functions that change nothing that there was. -/
set_option linter.unusedVariables false
set_option linter.unusedSimpArgs false
namespace Go.Am

variable {P : Program} {E : En}

inductive AEx where
  | norm
  | exit (id : Nat)
  | ret
  | pan (x : AV)

def ExR (ρ : Nat → Ref) (V : Nat → Prop) (Z : Nat → Nat → Prop) (w : World) : Exit → AEx → Prop
  | .normal, .norm => True
  | .exit i, .exit j => i = j
  | .ret, .ret => True
  | .panic l, .pan x => ∃ v, l = [{ v, recovered := false }] ∧ Rel ρ V Z w v x
  | _, _ => False

/-- What is known behind a piece of code. -/
def Post (E : En) (Q : AEx → St → Prop) (e : Exit) (a : Act) (w : World) : Prop :=
  ∃ ρ V Z σ x, ExR ρ V Z w e x ∧ Q x σ ∧ Sat E ρ V Z σ a w ∧ ((∀ y, x ≠ .pan y) → ∀ id, V id → id < σ.nx)

/-- From the abstract state on, code leads to one of the exits with a state of which Q holds. -/
def AW (P : Program) (E : En) (c : Code) (Q : AEx → St → Prop) (σ : St) : Prop :=
  ∀ ρ V Z a w, Sat E ρ V Z σ a w → (∀ id, V id → id < σ.nx) → c.wp P (Post E Q) a w

theorem AW.mono {c : Code} {Q Q' : AEx → St → Prop} {σ : St} (h : AW P E c Q σ) (hq : ∀ e σ, Q e σ → Q' e σ) : AW P E c Q' σ :=
  fun ρ V Z a w hs hV => Code.wp_mono (fun e a w ⟨ρ, V, Z, σ, x, h1, h2, h3, h4⟩ => ⟨ρ, V, Z, σ, x, h1, hq _ _ h2, h3, h4⟩) (h ρ V Z a w hs hV)

def thenQ (K : St → Prop) (Q : AEx → St → Prop) : AEx → St → Prop
  | .norm, σ => K σ
  | e, σ => Q e σ

def blockQ (id : Nat) (Q : AEx → St → Prop) : AEx → St → Prop
  | .exit j, σ => if j = id then Q .norm σ else Q (.exit j) σ
  | e, σ => Q e σ

theorem AW_seq {x y : Code} {Q : AEx → St → Prop} {σ : St} (h : AW P E x (thenQ (AW P E y Q) Q) σ) : AW P E (.seq x y) Q σ := by
  intro ρ V Z a w hs hV
  refine wp_seq (Code.wp_mono ?_ (h ρ V Z a w hs hV))
  rintro e a w ⟨ρ, V, Z, σ, ex, h1, h2, h3, h4⟩
  cases e <;> cases ex <;> simp only [ExR] at h1
  · exact h2 ρ V Z a w h3 (h4 (fun y => by simp))
  · exact ⟨ρ, V, Z, σ, .exit _, h1, h2, h3, h4⟩
  · exact ⟨ρ, V, Z, σ, .ret, trivial, h2, h3, h4⟩
  · exact ⟨ρ, V, Z, σ, .pan _, h1, h2, h3, h4⟩

theorem AW_skip {Q : AEx → St → Prop} {σ : St} (h : Q .norm σ) : AW P E .skip Q σ :=
  fun ρ V Z a w hs hV => wp_skip ⟨ρ, V, Z, σ, .norm, trivial, h, hs, fun _ => hV⟩

theorem AW_ret {Q : AEx → St → Prop} {σ : St} (h : Q .ret σ) : AW P E .ret Q σ :=
  fun ρ V Z a w hs hV => wp_ret ⟨ρ, V, Z, σ, .ret, trivial, h, hs, fun _ => hV⟩

theorem AW_exit {id : Nat} {Q : AEx → St → Prop} {σ : St} (h : Q (.exit id) σ) : AW P E (.exit id) Q σ :=
  fun ρ V Z a w hs hV => wp_exit ⟨ρ, V, Z, σ, .exit id, rfl, h, hs, fun _ => hV⟩

theorem AW_block {id : Nat} {c : Code} {Q : AEx → St → Prop} {σ : St} (h : AW P E c (blockQ id Q) σ) : AW P E (.block id c) Q σ := by
  intro ρ V Z a w hs hV
  refine wp_block (Code.wp_mono ?_ (h ρ V Z a w hs hV))
  rintro e a w ⟨ρ, V, Z, σ, ex, h1, h2, h3, h4⟩
  cases e <;> cases ex <;> simp only [ExR] at h1
  · exact ⟨ρ, V, Z, σ, .norm, trivial, h2, h3, fun _ => h4 (by simp)⟩
  · rename_i i j
    subst h1
    simp only [blockQ] at h2
    simp only [Exit.inBlock]
    split
    · rename_i e; rw [if_pos e] at h2; exact ⟨ρ, V, Z, σ, .norm, trivial, h2, h3, fun _ => h4 (by simp)⟩
    · rename_i e; rw [if_neg e] at h2; exact ⟨ρ, V, Z, σ, .exit i, rfl, h2, h3, fun _ => h4 (by simp)⟩
  · exact ⟨ρ, V, Z, σ, .ret, trivial, h2, h3, fun _ => h4 (by simp)⟩
  · exact ⟨ρ, V, Z, σ, .pan _, h1, h2, h3, h4⟩

theorem AW_cond {c : Operand} {x y : Code} {b : Bool} {Q : AEx → St → Prop} {σ : St} (hc : evA σ c = some (.bool b)) (ht : b = true → AW P E x Q σ) (hf : b = false → AW P E y Q σ) : AW P E (.cond c x y) Q σ := by
  intro ρ V Z a w hs hV
  have hb := (ev_rel hs hc).bool_inv
  cases b
  · exact wp_cond_false hb (hf rfl ρ V Z a w hs hV)
  · exact wp_cond_true hb (ht rfl ρ V Z a w hs hV)

theorem wp_loop_rel {P : Program} {c : Code} {Q : Exit → Act → World → Prop} {a : Act} {w : World} (J : Nat → Act → World → Prop) {n : Nat} (h₀ : J n a w)
    (round : ∀ n a w, J n a w → c.wp P (Exit.then (fun a' w' => ∃ m, m < n ∧ J m a' w') Q) a w) : (Code.loop c).wp P Q a w := by
  intro b k cs
  have key : ∀ n a w, J n a w → ∃ e a' w', Q e a' w' ∧ Arrives P (lone (b.at a (.code c :: .inLoop c :: k)) cs w) b k cs e a' w' := by
    intro n
    induction n using Nat.strongRecOn with
    | _ n ih =>
      intro a w hJ
      obtain ⟨e, a₁, w₁, hq, harr⟩ := round n a w hJ b (.inLoop c :: k) cs
      cases e with
      | normal =>
        obtain ⟨m, hlt, hJ₁⟩ := hq
        obtain ⟨e₂, a₂, w₂, hq₂, harr₂⟩ := ih m hlt a₁ w₁ hJ₁
        exact ⟨e₂, a₂, w₂, hq₂, .of_steps (Steps.trans harr (.one step_inLoop)) harr₂⟩
      | exit id => exact ⟨_, a₁, w₁, hq, .pass (x := .inLoop c) rfl (fun _ _ => .inl (by simp)) harr⟩
      | goto l => exact ⟨_, a₁, w₁, hq, .pass (x := .inLoop c) rfl (fun _ _ => .inl (by simp)) harr⟩
      | ret => exact ⟨_, a₁, w₁, hq, .pass (x := .inLoop c) rfl (fun _ _ => .inl (by simp)) harr⟩
      | panic ch => exact ⟨_, a₁, w₁, hq, .pass (x := .inLoop c) rfl (fun _ _ => .inl (by simp)) harr⟩
      | outgrown => exact ⟨_, a₁, w₁, hq, .pass (x := .inLoop c) rfl (fun _ _ => .inl (by simp)) harr⟩
  obtain ⟨e, a', w', hq, harr⟩ := key _ a w h₀
  exact ⟨e, a', w', hq, .of_steps (.one step_loop) harr⟩

theorem AW_loop' {c : Code} {Q : AEx → St → Prop} (I : Nat → St → Prop) {n : Nat} {σ : St} (h0 : I n σ) (round : ∀ n σ, I n σ → AW P E c (thenQ (fun σ' => ∃ m, m < n ∧ I m σ') Q) σ) : AW P E (.loop c) Q σ := by
  intro ρ V Z a w hs hV
  refine wp_loop_rel (fun n a w => ∃ ρ V Z σ, I n σ ∧ Sat E ρ V Z σ a w ∧ ∀ id, V id → id < σ.nx) ⟨ρ, V, Z, σ, h0, hs, hV⟩ ?_
  rintro n a w ⟨ρ, V, Z, σ, h1, h2, h3⟩
  refine Code.wp_mono ?_ (round n σ h1 ρ V Z a w h2 h3)
  rintro e a w ⟨ρ, V, Z, σ, ex, h1, h2, h3, h4⟩
  cases e <;> cases ex <;> simp only [ExR] at h1
  · obtain ⟨m, hm, hI⟩ := h2
    exact ⟨m, hm, ρ, V, Z, σ, hI, h3, h4 (by simp)⟩
  · exact ⟨ρ, V, Z, σ, .exit _, h1, h2, h3, h4⟩
  · exact ⟨ρ, V, Z, σ, .ret, trivial, h2, h3, h4⟩
  · exact ⟨ρ, V, Z, σ, .pan _, h1, h2, h3, h4⟩

def dstOk (nt : Nat) (ops : Array Oper) : Bool := ops.toList.all fun o => match o.dst with | some d => decide (d < nt) | none => true

theorem dstOk_spec {nt : Nat} {ops : Array Oper} (h : dstOk nt ops = true) : ∀ (i : Nat) (o : Oper), ops[i]? = some o → ∀ n, o.dst = some n → n < nt := by
  intro i o ho n hn
  unfold dstOk at h
  rw [List.all_eq_true] at h
  have hm : o ∈ ops.toList := by
    rw [← Array.getElem?_toList] at ho
    exact List.mem_of_getElem? ho
  have := h o hm
  rw [hn] at this
  simpa using this

theorem Sat.nx {ρ : Nat → Ref} {V : Nat → Prop} {Z : Nat → Nat → Prop} {σ : St} {a : Act} {w : World} (h : Sat E ρ V Z σ a w) (n : Nat) : Sat E ρ V Z { σ with nx := n } a w :=
  ⟨h.nt, h.df, h.fr, h.hs, h.ext, h.ownd, h.z0, h.zn, h.pn⟩

theorem AW_region {id : Nat} {ops : Array Oper} {Q : AEx → St → Prop} {σ : St} (hd : dstOk E.nt ops = true)
    (h : goR P true none (ops.toList.map (·.dst)) ops.toList.zipIdx σ (fun σ' => Q .norm { σ' with nx := σ.nx + 1048576 * ops.size }) (fun x σ' => Q (.pan x) σ')) : AW P E (.region id ops false) Q σ := by
  intro ρ V Z a w hs hV
  refine wp_region ?_
  rw [List.range_eq_range']
  refine wpOps_goR (E := E) (nx := σ.nx) (dstOk_spec hd) ?_ ?_ _ 0 σ ρ V Z a w rfl hs rfl (by simpa using hV) (Nat.zero_le _) h
  · intro σ' a' w' ρ' V' Z' hK hnx hS hb
    exact ⟨ρ', V', Z', _, .norm, trivial, hK, hS.nx _, fun _ => hb⟩
  · intro σ1 hnx x v σ' ρ' V' Z' a' w' hK _ hr hS
    exact ⟨ρ', V', Z', σ', .pan x, ⟨v, rfl, hr⟩, hK, hS, fun hx => absurd rfl (hx x)⟩

theorem AW_draw {id : Nat} {ops : Array Oper} {Q : AEx → St → Prop} {σ : St} (bar : Bool) (hm : P.follows .mixedOrders = true) (hd : dstOk E.nt ops = true) (hok : okStatic bar ops = true)
    (h : goR P bar (some (ancL ops)) (ops.toList.map (·.dst)) ops.toList.zipIdx σ (fun σ' => Q .norm { σ' with nx := σ.nx + 1048576 * ops.size }) (fun x σ' => Q (.pan x) σ')) : AW P E (.region id ops true) Q σ := by
  intro ρ V Z a w hs hV
  refine wp_region_any hm ?_
  have hs' := hs.drew (w' := { w with drawn := w.drawn + 1 }) rfl rfl rfl
  refine wpAny_goR (E := E) (nx := σ.nx) (K := fun σ' => Q .norm { σ' with nx := σ.nx + 1048576 * ops.size }) (Kp := fun x σ' => Q (.pan x) σ') hok (dstOk_spec hd) ?_ ?_ _ _ σ ρ V Z a _ (by simp) hs' rfl (fun id hid => by have := hV id hid; omega) ?_ ?_ (by rw [rem_init]; exact h) (by rw [rem_init]; simp)
  · intro σ' a' w' ρ' V' Z' hK hnx hS hb
    exact ⟨ρ', V', Z', _, .norm, trivial, hK, hS.nx _, fun _ => hb⟩
  · intro σ1 hnx x v σ' ρ' V' Z' a' w' hK _ hr hS
    exact ⟨ρ', V', Z', σ', .pan x, ⟨v, rfl, hr⟩, hK, hS, fun hx => absurd rfl (hx x)⟩
  · intro o k _ id hid
    have := hV id hid
    omega
  · intro j o hj hl
    simp [Array.getD] at hl

/-- Known slots and objects, listed. -/
def mkFr : List (Nat × AV) → Nat → Option AV
  | [] => fun _ => none
  | (t, x) :: l => upd (mkFr l) t x

def mkHp : List (Nat × AObj) → Nat → Option AObj
  | [] => fun _ => none
  | (t, x) :: l => updo (mkHp l) t (some x)

def mkSt (fr : List (Nat × AV)) (hp : List (Nat × AObj)) (nx : Nat) : St := ⟨mkFr fr, mkHp hp, nx⟩

def rvA (P : Program) (σ : St) : ResultVar → Option AV
  | .tmp t => σ.fr t
  | .cell t ty =>
    match σ.fr t, ti P ty with
    | some (.ptr id off), some T => (match σ.hp id with | some (.cells l) => ldA T l off | _ => none)
    | _, _ => none

/-- The result of a function. -/
def resA (P : Program) (rs : List ResultVar) (σ : St) : Option AV :=
  match rs.mapM (rvA P σ) with
  | some [x] => some x
  | some l => some (.tup l)
  | none => none

end Go.Am

/- The abstract machine: weaker states; loops; contracts out of bodies. -/
set_option linter.unusedVariables false
set_option linter.unusedSimpArgs false
namespace Go.Am

variable {P : Program} {E : En} {ρ : Nat → Ref} {V : Nat → Prop} {Z : Nat → Nat → Prop} {σ : St} {a : Act} {w : World}

def AObj.ren (m : Nat → Nat) : AObj → AObj
  | .cells l => .cells (AV.renL m l)
  | .row sz l => .row sz (AV.renL m l)
  | .map es => .map (es.map fun p => (p.1.ren m, p.2.ren m))

def AObj.ids (p : Nat → Prop) : AObj → Prop
  | .cells l => AV.idsL p l
  | .row _ l => AV.idsL p l
  | .map es => ∀ q, q ∈ es → q.1.ids p ∧ q.2.ids p

theorem renL_len (m : Nat → Nat) : ∀ l : List AV, (AV.renL m l).length = l.length
  | [] => rfl
  | a :: l => by simp [AV.renL, renL_len m l]

theorem renL_getD (m : Nat → Nat) : ∀ (l : List AV) (i : Nat), i < l.length → (AV.renL m l).getD i default = (l.getD i default).ren m
  | [], i, hi => absurd hi (Nat.not_lt_zero _)
  | a :: l, 0, _ => by simp [AV.renL]
  | a :: l, i + 1, hi => by simpa [AV.renL] using renL_getD m l i (by simpa using hi)

theorem idsL_getD {p : Nat → Prop} : ∀ (l : List AV) (i : Nat), i < l.length → AV.idsL p l → (l.getD i default).ids p
  | [], i, hi, _ => absurd hi (Nat.not_lt_zero _)
  | a :: l, 0, _, hl => by simpa using hl.1
  | a :: l, i + 1, hi, hl => by simpa using idsL_getD l i (by simpa using hi) hl.2

theorem ren_one (m : Nat → Nat) (x : AV) : (x.ren m).one = x.one := by cases x <;> rfl
theorem ren_cells (m : Nat → Nat) (x : AV) : (x.ren m).cells = AV.renL m x.cells := by cases x <;> rfl
theorem ids_cells {p : Nat → Prop} {x : AV} (h : x.ids p) : AV.idsL p x.cells := by cases x <;> first | exact h | exact ⟨h, trivial⟩

theorem rel_ren_list (m : Nat → Nat) {n : Nat} {l : List AV} {f : Nat → Value} (hp : AV.idsL (· < n) l) (ih : ∀ y, y ∈ l → ∀ v, y.ids (· < n) → Rel ρ V Z w v (y.ren m) → Rel (fun i => ρ (m i)) (fun i => i < n ∧ V (m i)) Z w v y)
    (h : ∀ i, i < (AV.renL m l).length → Rel ρ V Z w (f i) ((AV.renL m l).getD i default)) : ∀ i, i < l.length → Rel (fun i => ρ (m i)) (fun i => i < n ∧ V (m i)) Z w (f i) (l.getD i default) := by
  intro i hi
  have h1 := h i (by rw [renL_len]; exact hi)
  rw [renL_getD m l i hi] at h1
  have hm : l.getD i default ∈ l := by
    have : l.getD i default = l[i] := by simp [List.getD_eq_getElem?_getD, hi]
    rw [this]; exact List.getElem_mem hi
  exact ih _ hm _ (idsL_getD l i hi hp) h1

theorem Rel.mp_inv {v : Value} {id : Nat} (h : Rel ρ V Z w v (.mp id)) : v = .map (some (ρ id).blk) ∧ V id := by
  generalize hx : AV.mp id = x at h
  cases h <;> cases hx
  exact ⟨rfl, ‹_›⟩

theorem Rel.ptr_inv {v : Value} {id o : Nat} (h : Rel ρ V Z w v (.ptr id o)) : v = .pointer (some ⟨(ρ id).blk, o, none⟩) ∧ V id := by
  generalize hx : AV.ptr id o = x at h
  cases h <;> cases hx
  exact ⟨rfl, ‹_›⟩

theorem Rel.rptr_inv {v : Value} {id sz i o : Nat} (h : Rel ρ V Z w v (.rptr id sz i o)) : v = .pointer (some ⟨(ρ id).blk, i * sz + o, none⟩) ∧ V id := by
  generalize hx : AV.rptr id sz i o = x at h
  cases h <;> cases hx
  exact ⟨rfl, ‹_›⟩

mutual
theorem rel_ren (m : Nat → Nat) {n : Nat} : ∀ (x : AV) (v : Value), x.ids (· < n) → Rel ρ V Z w v (x.ren m) → Rel (fun i => ρ (m i)) (fun i => i < n ∧ V (m i)) Z w v x
  | .ptr id o, v, hp, h => by obtain ⟨rfl, h2⟩ := h.ptr_inv; exact .ptr (ρ := fun i => ρ (m i)) id o ⟨hp, h2⟩
  | .rptr id sz i o, v, hp, h => by obtain ⟨rfl, h2⟩ := h.rptr_inv; exact .rptr (ρ := fun i => ρ (m i)) id sz i o ⟨hp, h2⟩
  | .rw id, v, hp, h => by obtain ⟨rfl, h2⟩ := h.rw_inv; exact .rw (ρ := fun i => ρ (m i)) id ⟨hp, h2⟩
  | .mp id, v, hp, h => by obtain ⟨rfl, h2⟩ := h.mp_inv; exact .mp (ρ := fun i => ρ (m i)) id ⟨hp, h2⟩
  | .fn f a b, v, hp, h => by
    obtain ⟨fs, cs, rfl, h1, h2, h3, h4⟩ := h.fn_inv
    rw [renL_len] at h1 h2
    exact .fn f fs cs a b h1 h2 (rel_ren_list m hp.1 (fun y hy v => rel_renL m a y hy v) h3) (rel_ren_list m hp.2 (fun y hy v => rel_renL m b y hy v) h4)
  | .iface t y, v, hp, h => by
    obtain ⟨u, rfl, h1⟩ := h.iface_inv
    exact .iface t u y (rel_ren m y u hp h1)
  | .agg l, v, hp, h => by
    obtain ⟨cs, rfl, h1, h2, h3⟩ := h.agg_inv
    rw [renL_len] at h1
    refine .agg cs l h1 (fun i hi => ?_) (rel_ren_list m hp (fun y hy v => rel_renL m l y hy v) h3)
    have := h2 i (by rw [renL_len]; exact hi)
    rw [renL_getD m l i hi, ren_one] at this
    exact this
  | .tup l, v, hp, h => by
    obtain ⟨cs, rfl, h1, h3⟩ := h.tup_inv
    rw [renL_len] at h1
    exact .tup cs l h1 (rel_ren_list m hp (fun y hy v => rel_renL m l y hy v) h3)
  | .bool b, v, _, h => clo_rel h rfl _ _
  | .int k i, v, _, h => clo_rel h rfl _ _
  | .str s, v, _, h => clo_rel h rfl _ _
  | .nilp, v, _, h => clo_rel h rfl _ _
  | .eptr e o, v, _, h => clo_rel h rfl _ _
  | .nilsl, v, _, h => clo_rel h rfl _ _
  | .sl l, v, _, h => clo_rel h rfl _ _
  | .nilmap, v, _, h => clo_rel h rfl _ _
  | .nilfn, v, _, h => clo_rel h rfl _ _
  | .nilif, v, _, h => clo_rel h rfl _ _
theorem rel_renL (m : Nat → Nat) {n : Nat} : ∀ (l : List AV) (y : AV), y ∈ l → ∀ (v : Value), y.ids (· < n) → Rel ρ V Z w v (y.ren m) → Rel (fun i => ρ (m i)) (fun i => i < n ∧ V (m i)) Z w v y
  | [], y, hy => absurd hy (List.not_mem_nil)
  | x :: l, y, hy => fun v hp h => by
    by_cases e : y = x
    · rw [e] at hp h ⊢; exact rel_ren m x v hp h
    · exact rel_renL m l y ((List.mem_cons.1 hy).resolve_left e) v hp h
end

theorem obj_ren (m : Nat → Nat) {n id : Nat} {o : AObj} (hp : o.ids (· < n)) (h : ObjRel ρ V Z w (m id) (o.ren m)) : ObjRel (fun i => ρ (m i)) (fun i => i < n ∧ V (m i)) Z w id o := by
  cases o with
  | cells l =>
    obtain ⟨h0, cs, ty, h1, h2, h3⟩ := h
    rw [renL_len] at h2 h3
    refine ⟨h0, cs, ty, h1, h2, fun i hi => ?_⟩
    have := h3 i hi
    rw [renL_getD m l i hi, ren_one] at this
    exact ⟨this.1, rel_ren m _ _ (idsL_getD l i hi hp) this.2⟩
  | row sz l =>
    rcases h with ⟨h0, h1⟩ | ⟨h0, cs, ty, h1, h2, h3, h4, h5, h6⟩
    · exact .inl ⟨h0, by cases l with | nil => rfl | cons _ _ => simp [AV.renL] at h1⟩
    · rw [renL_len] at h2 h3 h5 h6
      refine .inr ⟨h0, cs, ty, h1, h2, h3, h4, fun i hi => ?_, fun i j hi hj => ?_⟩
      · have := h5 i hi
        rw [renL_getD m l i hi, ren_cells, renL_len] at this
        exact this
      · have hlen := h5 i hi
        rw [renL_getD m l i hi, ren_cells, renL_len] at hlen
        have := h6 i j hi hj
        rw [renL_getD m l i hi, ren_cells, renL_getD m _ j (by omega), ren_one] at this
        exact ⟨this.1, rel_ren m _ _ (idsL_getD _ j (by omega) (ids_cells (idsL_getD l i hi hp))) this.2⟩
  | map es =>
    obtain ⟨h0, ents, clock, h1, h2, h3⟩ := h
    simp only [List.length_map] at h2 h3
    refine ⟨h0, ents, clock, h1, h2, fun i hi => ?_⟩
    have := h3 i hi
    have e : (es.map fun p => (p.1.ren m, p.2.ren m)).getD i default = ((es.getD i default).1.ren m, (es.getD i default).2.ren m) := by
      simp [List.getD_eq_getElem?_getD, hi]
    rw [e] at this
    have hm : es.getD i default ∈ es := by
      have : es.getD i default = es[i] := by simp [List.getD_eq_getElem?_getD, hi]
      rw [this]; exact List.getElem_mem hi
    exact ⟨rel_ren m _ _ (hp _ hm).1 this.1, rel_ren m _ _ (hp _ hm).2 this.2⟩

/-- What is known in the second state is known in the first one, its objects under other numbers. -/
def Ent (np : Nat) (m : Nat → Nat) (σ σ' : St) : Prop :=
  (∀ t x, σ'.fr t = some x → σ.fr t = some (x.ren m) ∧ x.ids (· < σ'.nx)) ∧
  (∀ id o, σ'.hp id = some o → σ.hp (m id) = some (o.ren m) ∧ id < σ'.nx ∧ o.ids (· < σ'.nx)) ∧
  (∀ id id' o o', σ'.hp id = some o → σ'.hp id' = some o' → m id = m id' → id = id') ∧
  (∀ id, id < np → m id = id ∧ id < σ'.nx)

theorem Sat.ent {m : Nat → Nat} {σ' : St} (h : Sat E ρ V Z σ a w) (he : Ent E.np m σ σ') : Sat E (fun i => ρ (m i)) (fun i => i < σ'.nx ∧ V (m i)) Z σ' a w := by
  obtain ⟨h1, h2, h3, h4⟩ := he
  refine ⟨h.nt, h.df, fun t x hx => rel_ren m x _ (h1 t x hx).2 (h.fr t _ (h1 t x hx).1), ⟨?_, ?_, ?_, h.hs.lt⟩, h.ext, ?_, h.z0, h.zn, fun id hid => ?_⟩
  · intro id o ho
    obtain ⟨g1, g2, g3⟩ := h2 id o ho
    obtain ⟨g4, g5⟩ := h.hs.obj _ _ g1
    exact ⟨⟨g2, g4⟩, obj_ren m g3 g5⟩
  · intro id id' o o' b ho ho' hb hb'
    exact h3 id id' o o' ho ho' (h.hs.inj _ _ _ _ b (h2 id o ho).1 (h2 id' o' ho').1 hb hb')
  · intro id o b ho hb
    exact h.hs.sep _ _ b (h2 id o ho).1 hb
  · intro id o b ho hb hlt
    exact h.ownd _ _ b (h2 id o ho).1 hb hlt
  · have := h4 id hid
    have h5 := h.pn id hid
    simp only [this.1]
    exact ⟨⟨this.2, h5.1⟩, h5.2⟩

theorem AW.ent {c : Code} {Q : AEx → St → Prop} {σ' : St} (m : Nat → Nat) (he : Ent E.np m σ σ') (h : AW P E c Q σ') : AW P E c Q σ :=
  fun ρ V Z a w hs hV => h _ _ Z a w (hs.ent he) (fun id hid => hid.1)

/-- A loop: its states are those of some data, of which something holds and that become less. -/
theorem AW_loop {c : Code} {Q : AEx → St → Prop} {X : Type} (R : X → Prop) (mk : X → St) (μ : X → Nat) (x0 : X) (h0 : R x0) (m0 : Nat → Nat) (e0 : Ent E.np m0 σ (mk x0))
    (round : ∀ x, R x → AW P E c (thenQ (fun σ' => ∃ x', R x' ∧ μ x' < μ x ∧ ∃ m, Ent E.np m σ' (mk x')) Q) (mk x)) : AW P E (.loop c) Q σ := by
  refine AW_loop' (fun n σ => ∃ x, R x ∧ μ x = n ∧ ∃ m, Ent E.np m σ (mk x)) ⟨x0, h0, rfl, m0, e0⟩ ?_
  rintro n σ ⟨x, hR, rfl, m, he⟩
  refine AW.ent m he ((round x hR).mono ?_)
  intro e σ' h
  cases e with
  | norm => obtain ⟨x', h1, h2, m', h3⟩ := h; exact ⟨μ x', h2, x', h1, rfl, m', h3⟩
  | exit id => exact h
  | ret => exact h
  | pan y => exact h

/-- The entailment of a listed state. -/
theorem ent_mk {np : Nat} {m : Nat → Nat} {fr : List (Nat × AV)} {hp : List (Nat × AObj)} {nx : Nat} (h1 : ∀ p, p ∈ fr → σ.fr p.1 = some (p.2.ren m) ∧ p.2.ids (· < nx)) (h2 : ∀ p, p ∈ hp → σ.hp (m p.1) = some (p.2.ren m) ∧ p.1 < nx ∧ p.2.ids (· < nx))
    (h3 : hp.Pairwise fun p q => m p.1 ≠ m q.1) (h4 : ∀ id, id < np → m id = id ∧ id < nx) : Ent np m σ (mkSt fr hp nx) := by
  have k1 : ∀ t x, mkFr fr t = some x → (t, x) ∈ fr := by
    intro t x
    induction fr with
    | nil => intro h; cases h
    | cons p fr ih =>
      obtain ⟨t', x'⟩ := p
      intro h
      simp only [mkFr, upd] at h
      split at h
      · rename_i e; cases h; simp [e]
      · exact List.mem_cons_of_mem _ (ih (fun p hp => h1 p (List.mem_cons_of_mem _ hp)) h)
  have k2 : ∀ t x, mkHp hp t = some x → (t, x) ∈ hp := by
    clear h1 h2 h3 k1
    intro t x
    induction hp with
    | nil => intro h; cases h
    | cons p fr ih =>
      obtain ⟨t', x'⟩ := p
      intro h
      simp only [mkHp, updo] at h
      split at h
      · rename_i e; cases h; simp [e]
      · exact List.mem_cons_of_mem _ (ih h)
  refine ⟨fun t x hx => h1 _ (k1 t x hx), fun id o ho => h2 _ (k2 id o ho), ?_, h4⟩
  intro id id' o o' ho ho' hm
  by_cases e : id = id'
  · exact e
  · exfalso
    have m1 := k2 _ _ ho
    have m2 := k2 _ _ ho'
    replace ho : mkHp hp id = some o := ho
    replace ho' : mkHp hp id' = some o' := ho'
    clear k1 k2 h1 h2
    induction hp with
    | nil => cases m1
    | cons p hp ih =>
      rw [List.pairwise_cons] at h3
      rcases List.mem_cons.1 m1 with e1 | m1'
      · rcases List.mem_cons.1 m2 with e2 | m2'
        · rw [← e1] at e2; exact e (congrArg Prod.fst e2).symm
        · have := h3.1 _ m2'; rw [← e1] at this; exact this hm
      · rcases List.mem_cons.1 m2 with e2 | m2'
        · have := h3.1 _ m1'; rw [← e2] at this; exact this hm.symm
        · have h4 : mkHp hp id = some o := by
            simp only [mkHp, updo] at ho
            split at ho
            · rename_i e5
              exfalso
              exact h3.1 _ m1' (by rw [e5])
            · exact ho
          have h5 : mkHp hp id' = some o' := by
            simp only [mkHp, updo] at ho'
            split at ho'
            · rename_i e5
              exfalso
              exact h3.1 _ m2' (by rw [e5])
            · exact ho'
          exact ih h3.2 m1' m2' h4 h5

/-- A nil slice may be taken for an owned row without elements. -/
theorem AW_nil {c : Code} {Q : AEx → St → Prop} (t sz : Nat) (ht : t < E.nt) (hx : σ.fr t = some .nilsl) (h : AW P E c Q { fr := upd σ.fr t (.rw σ.nx), hp := updo σ.hp σ.nx (some (.row sz [])), nx := σ.nx + 1 }) : AW P E c Q σ := by
  intro ρ V Z a w hs hV
  have hnv : ¬ V σ.nx := fun hv => by have := hV _ hv; omega
  have h1 := hs.newnil (d := some t) (fun n hn => by cases hn; exact ht) hnv sz
  have h2 : a.put (some t) (.slice none 0 0) = a := by
    have hr := (hs.fr t _ hx).nilsl_inv
    have hlt : t < a.tmps.size := by rw [hs.nt]; exact ht
    have he : a.tmps[t] = .slice none 0 0 := by simpa [Array.getD, hlt] using hr
    cases a with
    | mk tmps df =>
      simp only [Act.put]
      congr 1
      apply Array.ext
      · simp
      · intro i h1 h2
        by_cases e : t = i
        · subst e; simp [he]
        · rw [Array.getElem_setIfInBounds_ne (by simpa using h2) e]
  rw [h2] at h1
  refine h _ _ Z a w (h1.nx _) (fun id hid => ?_)
  rcases hid with hid | hid
  · have := hV _ hid; show id < σ.nx + 1; omega
  · show id < σ.nx + 1; omega

def rvS (tmps : Array Value) : ResultVar → Sem Value
  | .tmp t => pure (tmps.getD t undef)
  | .cell u t => do loadVar t (← asAddr (tmps.getD u undef))

theorem results_eq (fn : Func) (tmps : Array Value) : results fn tmps = (do let vs ← fn.results.mapM (rvS tmps); pure (if h : vs.size = 1 then vs[0] else .tuple vs)) := rfl

theorem results_run (h : Sat E ρ V Z σ a w) {fn : Func} {r : AV} (hr : resA P fn.results.toList σ = some r) : ∃ v, (results fn a.tmps).run P w = .ok v w ∧ Rel ρ V Z w v r := by
  have key : ∀ (l : List ResultVar) (xs : List AV), l.mapM (rvA P σ) = some xs → ∃ vs : List Value, (l.mapM (rvS a.tmps)).run P w = .ok vs w ∧
      vs.length = xs.length ∧ ∀ i, i < xs.length → Rel ρ V Z w (vs.getD i undef) (xs.getD i default) := by
    intro l
    induction l with
    | nil => intro xs hx; simp at hx; subst hx; exact ⟨[], rfl, rfl, fun i hi => absurd hi (Nat.not_lt_zero _)⟩
    | cons x l ih =>
      intro xs hx
      simp only [List.mapM_cons] at hx
      cases h1 : rvA P σ x with
      | none => simp [h1] at hx
      | some y =>
        cases h2 : l.mapM (rvA P σ) with
        | none => simp [h1, h2] at hx
        | some ys =>
          simp [h1, h2] at hx
          subst hx
          obtain ⟨vs, g1, g2, g3⟩ := ih ys h2
          have hv : ∃ v, (rvS a.tmps x).run P w = .ok v w ∧ Rel ρ V Z w v y := by
            cases x with
            | tmp t => exact ⟨_, rfl, h.fr t y h1⟩
            | cell u ty =>
              simp only [rvA] at h1
              cases hu : σ.fr u with
              | none => simp [hu] at h1
              | some p =>
                cases hT : ti P ty with
                | none => simp [hu, hT] at h1
                | some T =>
                  simp only [hu, hT] at h1
                  cases p <;> try (simp at h1; done)
                  rename_i id off
                  simp only at h1
                  cases ho : σ.hp id with
                  | none => simp [ho] at h1
                  | some o =>
                    simp only [ho] at h1
                    cases o <;> try (simp at h1; done)
                    rename_i cl
                    simp only at h1
                    obtain ⟨e1, _⟩ := (h.fr u _ hu).ptr_inv
                    obtain ⟨hV, h0, cs, ty', k1, k2, k3⟩ := h.hs.obj _ _ ho
                    have hc : ∀ j, j < cl.length → w.cell? ⟨(ρ id).blk, 0 + j, none⟩ = some (cs.getD j undef) := by
                      intro j hj
                      have : j < cs.size := by omega
                      simp [World.cell?, k1, Array.getD, this]
                    obtain ⟨v', hr, hrel⟩ := ld_run (P := P) hT hc (fun j hj => (k3 j hj).1) (fun j hj => (k3 j hj).2) h1
                    rw [Nat.zero_add] at hr
                    refine ⟨v', ?_, hrel⟩
                    simp only [rvS, e1]
                    simpa [asAddr, Instr.loadAt, Instr.sureAddr] using hr
          obtain ⟨v, hv1, hv2⟩ := hv
          refine ⟨v :: vs, ?_, by simp [g2], fun i hi => ?_⟩
          · rw [List.mapM_cons]
            simp only [Sem.run_bind, Sem.run_pure]
            rw [hv1]
            simp only [Result.andThen_ok]
            rw [g1]
            rfl
          · cases i with
            | zero => simpa using hv2
            | succ i => simpa using g3 i (by simpa using hi)
  unfold resA at hr
  cases hm : fn.results.toList.mapM (rvA P σ) with
  | none => simp [hm] at hr
  | some xs =>
    obtain ⟨vs, g1, g2, g3⟩ := key _ _ hm
    have hrun : (results fn a.tmps).run P w = .ok (if h : vs.toArray.size = 1 then vs.toArray[0] else .tuple vs.toArray) w := by
      rw [results_eq]
      have e := List.mapM_toArray (m := Sem) (l := fn.results.toList) (f := rvS a.tmps)
      simp only [Array.toArray_toList] at e
      rw [e]
      simp only [Sem.run_bind, Sem.run_map]
      rw [g1]
      simp only [Result.andThen_ok, Sem.run_pure]
    rw [hm] at hr
    match xs, hr, g2, g3 with
    | [x], hr, g2, g3 =>
      simp only [Option.some.injEq] at hr
      subst hr
      obtain ⟨v, rfl⟩ := List.length_eq_one_iff.1 g2
      exact ⟨v, by simpa using hrun, by simpa using g3 0 (by simp)⟩
    | [], hr, g2, g3 =>
      simp only [Option.some.injEq] at hr
      subst hr
      have : vs = [] := List.length_eq_zero_iff.1 g2
      subst this
      exact ⟨.tuple #[], by simpa using hrun, .tup _ _ rfl (fun i hi => absurd hi (Nat.not_lt_zero _))⟩
    | x :: y :: xs, hr, g2, g3 =>
      simp only [Option.some.injEq] at hr
      subst hr
      refine ⟨.tuple vs.toArray, ?_, .tup _ _ (by simpa using g2) (fun i hi => ?_)⟩
      · rw [hrun, dif_neg (by simp at g2 ⊢; omega)]
      · have := g3 i hi
        simpa [List.getD_eq_getElem?_getD, Array.getD_eq_getD_getElem?] using this

/-- The contract of a function that changes nothing that there was, out of its body. -/
theorem PCall.of_body {f : FuncId} {fn : Func} {c : Code} {vs : List AV} {r : AV} (hf : P.funcs[f]? = some fn) (hb : fn.body = some c) (hfn : isFn P f = true) (hn : vs.length ≤ fn.ntmps) (hclo : AV.cloL vs = true)
    (h : ∀ E : En, E.nt = fn.ntmps → E.np = 0 → AW P E c (fun e σ => (e = .ret ∨ e = .norm) ∧ ∃ r', resA P fn.results.toList σ = some r' ∧ r'.snapOk σ.hp ∧ r'.snap σ.hp = r ∧ r.clo = true) ⟨fun t => vs[t]?, fun _ => none, 0⟩) : PCall P f vs r := by
  refine ⟨hfn, fun ρ V Z w args hZ hsz hrel => ?_⟩
  have hlen : args.size ≤ fn.ntmps := by omega
  have hs : Sat ⟨fn.ntmps, [], w, fun _ => False, Z, 0, ρ⟩ ρ (fun _ => False) Z ⟨fun t => vs[t]?, fun _ => none, 0⟩ { tmps := args ++ Array.replicate (fn.ntmps - args.size) undef, defers := [] } w → Calls P f args w fun e w' => ∃ v Z', e = .returned v ∧ Rel ρ V Z' w' v r ∧ Ext w w' (fun _ => False) ∧ (∀ b o, Z b o → Z' b o) ∧ (∀ b o, Z' b o → Z b o ∨ (w.heap.size ≤ b ∧ b < w'.heap.size)) := by
    intro hsat
    refine calls_of_wp hf hb (Code.wp_mono ?_ (h _ rfl rfl ρ _ Z _ w hsat (fun _ h => h.elim)))
    rintro e a w' ⟨ρ', V', Z', σ, x, h1, ⟨h2, r', h3, h4, h5, h6⟩, h7, h8⟩
    obtain ⟨v, hv1, hv2⟩ := results_run h7 h3
    have hv3 := snap_rel h7.hs hv2 h4
    rw [h5] at hv3
    have hv4 := clo_rel hv3 h6 ρ V
    have hz1 : ∀ b o, ZR ρ' Z' σ b o → Z b o ∨ (w.heap.size ≤ b ∧ b < w'.heap.size) := by
      intro b o hz
      rcases hz with hz | ⟨id, ob, g1, g2⟩
      · rcases h7.zn b o hz with g | g | g
        · exact .inl g
        · exact .inr ⟨g, h7.hs.lt b o hz⟩
        · exact g.elim
      · have g3 := (h7.hs.obj id ob g1).2.lt b g2
        refine .inr ⟨?_, g3⟩
        rcases Nat.lt_or_ge b w.heap.size with g4 | g4
        · exact (h7.ownd id ob b g1 g2 g4).elim
        · exact g4
    have hfin : ∃ v Z', Ending.returned v = .returned v ∧ Rel ρ V Z' w' v r ∧ Ext w w' (fun _ => False) ∧ (∀ b o, Z b o → Z' b o) ∧ (∀ b o, Z' b o → Z b o ∨ (w.heap.size ≤ b ∧ b < w'.heap.size)) :=
      ⟨v, ZR ρ' Z' σ, rfl, hv4, h7.ext, fun b o hz => .inl (h7.z0 b o hz), hz1⟩
    have hpost : ∃ v0, (results fn a.tmps).run P w' = .ok v0 w' ∧ ∃ v Z', Ending.returned v0 = .returned v ∧ Rel ρ V Z' w' v r ∧ Ext w w' (fun _ => False) ∧ (∀ b o, Z b o → Z' b o) ∧ (∀ b o, Z' b o → Z b o ∨ (w.heap.size ≤ b ∧ b < w'.heap.size)) :=
      ⟨v, hv1, v, ZR ρ' Z' σ, rfl, hv4, h7.ext, fun b o hz => .inl (h7.z0 b o hz), hz1⟩
    rcases h2 with rfl | rfl
    · cases e <;> simp only [ExR] at h1
      exact ⟨h7.df, hpost⟩
    · cases e <;> simp only [ExR] at h1
      exact ⟨h7.df, hpost⟩
  refine hs ⟨?_, rfl, fun t x hx => ?_, ⟨fun id o ho => (by cases ho), fun id id' o o' b ho => (by cases ho), fun id o b ho => (by cases ho), hZ⟩, ⟨fun _ _ _ => rfl, Nat.le_refl _, rfl, rfl, ?_⟩, fun id o b ho => (by cases ho), fun _ _ h => h, fun _ _ h => .inl h, fun id hid => absurd hid (Nat.not_lt_zero _)⟩
  · simp; omega
  · have hlt : t < vs.length := by
      rcases Nat.lt_or_ge t vs.length with h' | h'
      · exact h'
      · simp only [List.getElem?_eq_none h'] at hx; cases hx
    have h1 := hrel t hlt
    have e1 : vs.getD t default = x := by simp only at hx; simp [List.getD_eq_getElem?_getD, hx]
    have e2 : (args ++ Array.replicate (fn.ntmps - args.size) undef).getD t undef = args.getD t undef := by
      simp only [Array.getD_eq_getD_getElem?]; rw [Array.getElem?_append_left (by omega)]
    have hc : ∀ (l : List AV), AV.cloL l = true → ∀ i, i < l.length → (l.getD i default).clo = true := by
      intro l
      induction l with
      | nil => intro _ i hi; exact absurd hi (Nat.not_lt_zero _)
      | cons y l ih =>
        intro hl i hi
        simp only [AV.cloL, Bool.and_eq_true] at hl
        cases i with
        | zero => simpa using hl.1
        | succ i => simpa using ih hl.2 i (by simpa using hi)
    have h2 := hc vs hclo t hlt
    rw [e1] at h1 h2
    show Rel ρ (fun _ => False) Z w ((args ++ Array.replicate (fn.ntmps - args.size) undef).getD t undef) x
    rw [e2]
    exact clo_rel h1 h2 _ _
  · intro b hb c t f hcf
    rcases hb with hb | hb
    · rw [Array.getElem?_eq_none hb] at hcf; cases hcf
    · exact hb.elim

end Go.Am

/- The abstract machine: how it is reckoned (equations for simp). -/
set_option linter.unusedVariables false
set_option linter.unusedSimpArgs false
namespace Go.Am

section
variable {P : Program} {bar : Bool} {bs : Option (List Nat)} {ds : List (Option Nat)} {k : Nat} {σ : St} {K : St → Prop} {Kp : AV → St → Prop} {d : Option Nat} {ty : TypeId} {pos : String} {aft : Array Edge} {g : Option (Nat × Bool)}

@[go_sem] theorem goR_nil : goR P bar bs ds [] σ K Kp = K σ := _root_.id rfl
@[go_sem] theorem goR_cons {o : Oper} {r : List (Oper × Nat)} : goR P bar bs ds ((o, k) :: r) σ K Kp = goG P bar bs ds k o σ (fun σ' => goR P bar bs ds r σ' K Kp) Kp := _root_.id rfl
@[go_sem ↓] theorem goG_none {op : Op} : goG P bar none ds k ⟨d, op, ty, pos, aft, none⟩ σ K Kp = goX P bar k ⟨d, op, ty, pos, aft, none⟩ σ K Kp := by simp [goG, gdA, idsChk]
@[go_sem ↓] theorem goG_none' {op : Op} {bl : List Nat} : goG P bar (some bl) ds k ⟨d, op, ty, pos, aft, none⟩ σ K Kp = (idsChk (some bl) k op σ ∧ goX P bar k ⟨d, op, ty, pos, aft, none⟩ σ K Kp) := _root_.id rfl
theorem goG_some {op : Op} {j : Nat} {b : Bool} : goG P bar none ds k ⟨d, op, ty, pos, aft, some (j, b)⟩ σ K Kp = (match gdA ds (some (j, b)) σ.fr with | some true => goX P bar k ⟨d, op, ty, pos, aft, some (j, b)⟩ σ K Kp | some false => K (σ.put d (.tup [])) | none => False) := by
  simp only [goG, idsChk, true_and]
  rfl
theorem goG_some' {op : Op} {j : Nat} {b : Bool} {bl : List Nat} : goG P bar (some bl) ds k ⟨d, op, ty, pos, aft, some (j, b)⟩ σ K Kp = (match gdA ds (some (j, b)) σ.fr with | some true => idsChk (some bl) k op σ ∧ goX P bar k ⟨d, op, ty, pos, aft, some (j, b)⟩ σ K Kp | some false => K (σ.put d (.tup [])) | none => False) := _root_.id rfl
theorem gdA_some {j : Nat} {b : Bool} {fr : Nat → Option AV} : gdA ds (some (j, b)) fr = (match ds[j]? with | some (some s) => (match fr s with | some (.bool c) => some (c == b) | some (.tup []) => some false | _ => none) | _ => none) := _root_.id rfl

/-- A step of an operation with one operand. -/
def on1 (x : Option AV) (f : AV → Prop) : Prop := match x with | some v => f v | none => False
def on2 (x y : Option AV) (f : AV → AV → Prop) : Prop := match x, y with | some v, some u => f v u | _, _ => False
@[go_sem] theorem on1_some {v : AV} {f : AV → Prop} : on1 (some v) f = f v := _root_.id rfl
@[go_sem] theorem on2_some {v u : AV} {f : AV → AV → Prop} : on2 (some v) (some u) f = f v u := _root_.id rfl

/-- What an effect leads to. -/
def runE (e : Option (Prop × Ef)) (σ : St) (d : Option Nat) (id : Nat) (K : St → Prop) : Prop := match e with | some (ob, e) => ob ∧ K (e.app σ d id) | none => False
@[go_sem] theorem runE_some {ob : Prop} {e : Ef} {id : Nat} : runE (some (ob, e)) σ d id K = (ob ∧ K (e.app σ d id)) := _root_.id rfl

theorem eff1 {op : Op} {x : Operand} (h : opnds op = [x]) : (match eff P σ op with | some (ob, e) => ob ∧ K (e.app σ d (σ.nx + 1048576 * k)) | none => False) = on1 (evA σ x) fun v => runE (effA P op [v] [v.id?.bind σ.hp]) σ d (σ.nx + 1048576 * k) K := by
  unfold eff
  rw [h]
  cases hx : evA σ x with
  | none => simp [hx, on1]
  | some v => simp [hx, on1, runE]

theorem eff2 {op : Op} {x y : Operand} (h : opnds op = [x, y]) : (match eff P σ op with | some (ob, e) => ob ∧ K (e.app σ d (σ.nx + 1048576 * k)) | none => False) = on2 (evA σ x) (evA σ y) fun v u => runE (effA P op [v, u] [v.id?.bind σ.hp, u.id?.bind σ.hp]) σ d (σ.nx + 1048576 * k) K := by
  unfold eff
  rw [h]
  cases hx : evA σ x with
  | none => simp [hx, on2]
  | some v =>
    cases hy : evA σ y with
    | none => simp [hx, hy, on2]
    | some u => simp [hx, hy, on2, runE]

@[go_sem ↓, go_sem] theorem goX_move {fr : Nat → Option AV} {hp : Nat → Option AObj} {nx : Nat} {x : Operand} : goX P bar k ⟨d, .move x, ty, pos, aft, g⟩ ⟨fr, hp, nx⟩ K Kp = on1 (evA ⟨fr, hp, nx⟩ x) fun v => K (St.put ⟨fr, hp, nx⟩ d v) := by
  show (match eff P ⟨fr, hp, nx⟩ (.move x) with | some (ob, e) => ob ∧ K (e.app ⟨fr, hp, nx⟩ d (nx + 1048576 * k)) | none => False) = _
  rw [eff1 rfl]; simp [effA, runE, Ef.app]
@[go_sem ↓, go_sem] theorem goX_assign {fr : Nat → Option AV} {hp : Nat → Option AObj} {nx : Nat} {x : Operand} : goX P bar k ⟨d, .assign x, ty, pos, aft, g⟩ ⟨fr, hp, nx⟩ K Kp = on1 (evA ⟨fr, hp, nx⟩ x) fun v => K (St.put ⟨fr, hp, nx⟩ d v) := by
  show (match eff P ⟨fr, hp, nx⟩ (.assign x) with | some (ob, e) => ob ∧ K (e.app ⟨fr, hp, nx⟩ d (nx + 1048576 * k)) | none => False) = _
  rw [eff1 rfl]; simp [effA, runE, Ef.app]
@[go_sem ↓, go_sem] theorem goX_box {fr : Nat → Option AV} {hp : Nat → Option AObj} {nx : Nat} {t : TypeId} {x : Operand} : goX P bar k ⟨d, .box t x, ty, pos, aft, g⟩ ⟨fr, hp, nx⟩ K Kp = on1 (evA ⟨fr, hp, nx⟩ x) fun v => runE (effA P (.box t x) [v] [v.id?.bind hp]) ⟨fr, hp, nx⟩ d (nx + 1048576 * k) K := eff1 rfl
@[go_sem ↓, go_sem] theorem goX_load {fr : Nat → Option AV} {hp : Nat → Option AObj} {nx : Nat} {t : TypeId} {x : Operand} : goX P bar k ⟨d, .load t x, ty, pos, aft, g⟩ ⟨fr, hp, nx⟩ K Kp = on1 (evA ⟨fr, hp, nx⟩ x) fun v => runE (effA P (.load t x) [v] [v.id?.bind hp]) ⟨fr, hp, nx⟩ d (nx + 1048576 * k) K := eff1 rfl
@[go_sem ↓, go_sem] theorem goX_nilCheck {fr : Nat → Option AV} {hp : Nat → Option AObj} {nx : Nat} {x : Operand} : goX P bar k ⟨d, .nilCheck x, ty, pos, aft, g⟩ ⟨fr, hp, nx⟩ K Kp = on1 (evA ⟨fr, hp, nx⟩ x) fun v => runE (effA P (.nilCheck x) [v] [v.id?.bind hp]) ⟨fr, hp, nx⟩ d (nx + 1048576 * k) K := eff1 rfl
@[go_sem ↓, go_sem] theorem goX_unOp {fr : Nat → Option AV} {hp : Nat → Option AObj} {nx : Nat} {op : UnOp} {t : TypeId} {x : Operand} : goX P bar k ⟨d, .unOp op t x, ty, pos, aft, g⟩ ⟨fr, hp, nx⟩ K Kp = on1 (evA ⟨fr, hp, nx⟩ x) fun v => runE (effA P (.unOp op t x) [v] [v.id?.bind hp]) ⟨fr, hp, nx⟩ d (nx + 1048576 * k) K := eff1 rfl
@[go_sem ↓, go_sem] theorem goX_convert {fr : Nat → Option AV} {hp : Nat → Option AObj} {nx : Nat} {s t : TypeId} {x : Operand} : goX P bar k ⟨d, .convert s t x, ty, pos, aft, g⟩ ⟨fr, hp, nx⟩ K Kp = on1 (evA ⟨fr, hp, nx⟩ x) fun v => runE (effA P (.convert s t x) [v] [v.id?.bind hp]) ⟨fr, hp, nx⟩ d (nx + 1048576 * k) K := eff1 rfl
@[go_sem ↓, go_sem] theorem goX_makeInterface {fr : Nat → Option AV} {hp : Nat → Option AObj} {nx : Nat} {t : TypeId} {x : Operand} : goX P bar k ⟨d, .makeInterface t x, ty, pos, aft, g⟩ ⟨fr, hp, nx⟩ K Kp = on1 (evA ⟨fr, hp, nx⟩ x) fun v => runE (effA P (.makeInterface t x) [v] [v.id?.bind hp]) ⟨fr, hp, nx⟩ d (nx + 1048576 * k) K := eff1 rfl
@[go_sem ↓, go_sem] theorem goX_fieldAddr {fr : Nat → Option AV} {hp : Nat → Option AObj} {nx : Nat} {t : TypeId} {x : Operand} {f : Nat} : goX P bar k ⟨d, .fieldAddr t x f, ty, pos, aft, g⟩ ⟨fr, hp, nx⟩ K Kp = on1 (evA ⟨fr, hp, nx⟩ x) fun v => runE (effA P (.fieldAddr t x f) [v] [v.id?.bind hp]) ⟨fr, hp, nx⟩ d (nx + 1048576 * k) K := eff1 rfl
@[go_sem ↓, go_sem] theorem goX_field {fr : Nat → Option AV} {hp : Nat → Option AObj} {nx : Nat} {t : TypeId} {x : Operand} {f : Nat} : goX P bar k ⟨d, .field t x f, ty, pos, aft, g⟩ ⟨fr, hp, nx⟩ K Kp = on1 (evA ⟨fr, hp, nx⟩ x) fun v => runE (effA P (.field t x f) [v] [v.id?.bind hp]) ⟨fr, hp, nx⟩ d (nx + 1048576 * k) K := eff1 rfl
@[go_sem ↓, go_sem] theorem goX_extract {fr : Nat → Option AV} {hp : Nat → Option AObj} {nx : Nat} {x : Operand} {f : Nat} : goX P bar k ⟨d, .extract x f, ty, pos, aft, g⟩ ⟨fr, hp, nx⟩ K Kp = on1 (evA ⟨fr, hp, nx⟩ x) fun v => runE (effA P (.extract x f) [v] [v.id?.bind hp]) ⟨fr, hp, nx⟩ d (nx + 1048576 * k) K := eff1 rfl
@[go_sem ↓, go_sem] theorem goX_typeAssert {fr : Nat → Option AV} {hp : Nat → Option AObj} {nx : Nat} {x : Operand} {s t : TypeId} {ok : Bool} : goX P bar k ⟨d, .typeAssert x s t ok, ty, pos, aft, g⟩ ⟨fr, hp, nx⟩ K Kp = on1 (evA ⟨fr, hp, nx⟩ x) fun v => runE (effA P (.typeAssert x s t ok) [v] [v.id?.bind hp]) ⟨fr, hp, nx⟩ d (nx + 1048576 * k) K := eff1 rfl
@[go_sem ↓, go_sem] theorem goX_store {fr : Nat → Option AV} {hp : Nat → Option AObj} {nx : Nat} {t : TypeId} {x y : Operand} : goX P bar k ⟨d, .store t x y, ty, pos, aft, g⟩ ⟨fr, hp, nx⟩ K Kp = on2 (evA ⟨fr, hp, nx⟩ x) (evA ⟨fr, hp, nx⟩ y) fun v u => runE (effA P (.store t x y) [v, u] [v.id?.bind hp, u.id?.bind hp]) ⟨fr, hp, nx⟩ d (nx + 1048576 * k) K := eff2 rfl
@[go_sem ↓, go_sem] theorem goX_binOp {fr : Nat → Option AV} {hp : Nat → Option AObj} {nx : Nat} {op : BinOp} {t u : TypeId} {x y : Operand} : goX P bar k ⟨d, .binOp op t x y u, ty, pos, aft, g⟩ ⟨fr, hp, nx⟩ K Kp = on2 (evA ⟨fr, hp, nx⟩ x) (evA ⟨fr, hp, nx⟩ y) fun v z => runE (effA P (.binOp op t x y u) [v, z] [v.id?.bind hp, z.id?.bind hp]) ⟨fr, hp, nx⟩ d (nx + 1048576 * k) K := eff2 rfl
@[go_sem ↓, go_sem] theorem goX_makeSlice {fr : Nat → Option AV} {hp : Nat → Option AObj} {nx : Nat} {t : TypeId} {x y : Operand} : goX P bar k ⟨d, .makeSlice t x y, ty, pos, aft, g⟩ ⟨fr, hp, nx⟩ K Kp = on2 (evA ⟨fr, hp, nx⟩ x) (evA ⟨fr, hp, nx⟩ y) fun v u => runE (effA P (.makeSlice t x y) [v, u] [v.id?.bind hp, u.id?.bind hp]) ⟨fr, hp, nx⟩ d (nx + 1048576 * k) K := eff2 rfl
@[go_sem ↓, go_sem] theorem goX_indexAddr {fr : Nat → Option AV} {hp : Nat → Option AObj} {nx : Nat} {t : TypeId} {x y : Operand} : goX P bar k ⟨d, .indexAddr t x y, ty, pos, aft, g⟩ ⟨fr, hp, nx⟩ K Kp = on2 (evA ⟨fr, hp, nx⟩ x) (evA ⟨fr, hp, nx⟩ y) fun v u => runE (effA P (.indexAddr t x y) [v, u] [v.id?.bind hp, u.id?.bind hp]) ⟨fr, hp, nx⟩ d (nx + 1048576 * k) K := eff2 rfl
@[go_sem ↓, go_sem] theorem goX_alloc {fr : Nat → Option AV} {hp : Nat → Option AObj} {nx : Nat} {t : TypeId} : goX P bar k ⟨d, .alloc t, ty, pos, aft, g⟩ ⟨fr, hp, nx⟩ K Kp = runE (effA P (.alloc t) [] []) ⟨fr, hp, nx⟩ d (nx + 1048576 * k) K := by
  show (match eff P ⟨fr, hp, nx⟩ (.alloc t) with | some (ob, e) => ob ∧ K (e.app ⟨fr, hp, nx⟩ d (nx + 1048576 * k)) | none => False) = _
  simp [eff, opnds, runE]
@[go_sem ↓, go_sem] theorem goX_len {fr : Nat → Option AV} {hp : Nat → Option AObj} {nx : Nat} {x : Operand} {ts : Array TypeId} : goX P bar k ⟨d, .call ⟨.builtin .len, #[x], ts⟩, ty, pos, aft, g⟩ ⟨fr, hp, nx⟩ K Kp = on1 (evA ⟨fr, hp, nx⟩ x) fun v => runE (effA P (.call ⟨.builtin .len, #[x], ts⟩) [v] [v.id?.bind hp]) ⟨fr, hp, nx⟩ d (nx + 1048576 * k) K := eff1 rfl
@[go_sem ↓, go_sem] theorem goX_append {fr : Nat → Option AV} {hp : Nat → Option AObj} {nx : Nat} {x y : Operand} {ts : Array TypeId} : goX P bar k ⟨d, .call ⟨.builtin .append, #[x, y], ts⟩, ty, pos, aft, g⟩ ⟨fr, hp, nx⟩ K Kp = on2 (evA ⟨fr, hp, nx⟩ x) (evA ⟨fr, hp, nx⟩ y) fun v u => runE (effA P (.call ⟨.builtin .append, #[x, y], ts⟩) [v, u] [v.id?.bind hp, u.id?.bind hp]) ⟨fr, hp, nx⟩ d (nx + 1048576 * k) K := eff2 rfl

@[go_sem ↓, go_sem] theorem goX_lookup {fr : Nat → Option AV} {hp : Nat → Option AObj} {nx : Nat} {t : TypeId} {x y : Operand} {ok : Bool} : goX P bar k ⟨d, .lookup t x y ok, ty, pos, aft, g⟩ ⟨fr, hp, nx⟩ K Kp = on2 (evA ⟨fr, hp, nx⟩ x) (evA ⟨fr, hp, nx⟩ y) fun v u => runE (effA P (.lookup t x y ok) [v, u] [v.id?.bind hp, u.id?.bind hp]) ⟨fr, hp, nx⟩ d (nx + 1048576 * k) K := eff2 rfl
@[go_sem ↓, go_sem] theorem goX_makeMap {fr : Nat → Option AV} {hp : Nat → Option AObj} {nx : Nat} {t : TypeId} : goX P bar k ⟨d, .makeMap t none, ty, pos, aft, g⟩ ⟨fr, hp, nx⟩ K Kp = runE (effA P (.makeMap t none) [] []) ⟨fr, hp, nx⟩ d (nx + 1048576 * k) K := by
  show (match eff P ⟨fr, hp, nx⟩ (.makeMap t none) with | some (ob, e) => ob ∧ K (e.app ⟨fr, hp, nx⟩ d (nx + 1048576 * k)) | none => False) = _
  simp [eff, opnds, runE]

/-- A step of an operation with listed operands. -/
def onL (xs : Option (List AV)) (f : List AV → Prop) : Prop := match xs with | some l => f l | none => False
@[go_sem] theorem onL_some {l : List AV} {f : List AV → Prop} : onL (some l) f = f l := _root_.id rfl
theorem effL {op : Op} : (match eff P σ op with | some (ob, e) => ob ∧ K (e.app σ d (σ.nx + 1048576 * k)) | none => False) = onL ((opnds op).mapM (evA σ)) fun l => runE (effA P op l (l.map fun v => v.id?.bind σ.hp)) σ d (σ.nx + 1048576 * k) K := by
  unfold eff
  cases (opnds op).mapM (evA σ) with
  | none => rfl
  | some v => rfl
@[go_sem ↓, go_sem] theorem goX_build {fr : Nat → Option AV} {hp : Nat → Option AObj} {nx : Nat} {t : TypeId} {ps : Array (Nat × Operand)} : goX P bar k ⟨d, .build t ps, ty, pos, aft, g⟩ ⟨fr, hp, nx⟩ K Kp = onL ((ps.toList.map (·.2)).mapM (evA ⟨fr, hp, nx⟩)) fun l => runE (effA P (.build t ps) l (l.map fun v => v.id?.bind hp)) ⟨fr, hp, nx⟩ d (nx + 1048576 * k) K := effL
@[go_sem ↓, go_sem] theorem goX_buildSlice {fr : Nat → Option AV} {hp : Nat → Option AObj} {nx : Nat} {t : TypeId} {n : Nat} {ps : Array (Nat × Operand)} : goX P bar k ⟨d, .buildSlice t n ps, ty, pos, aft, g⟩ ⟨fr, hp, nx⟩ K Kp = onL ((ps.toList.map (·.2)).mapM (evA ⟨fr, hp, nx⟩)) fun l => runE (effA P (.buildSlice t n ps) l (l.map fun v => v.id?.bind hp)) ⟨fr, hp, nx⟩ d (nx + 1048576 * k) K := effL
@[go_sem ↓, go_sem] theorem goX_slice {fr : Nat → Option AV} {hp : Nat → Option AObj} {nx : Nat} {t : TypeId} {x : Operand} {lo hi : Option Operand} : goX P bar k ⟨d, .slice t x lo hi none, ty, pos, aft, g⟩ ⟨fr, hp, nx⟩ K Kp = onL ((x :: (lo.toList ++ hi.toList)).mapM (evA ⟨fr, hp, nx⟩)) fun l => runE (effA P (.slice t x lo hi none) l (l.map fun v => v.id?.bind hp)) ⟨fr, hp, nx⟩ d (nx + 1048576 * k) K := effL
@[go_sem ↓, go_sem] theorem goX_makeFunc {fr : Nat → Option AV} {hp : Nat → Option AObj} {nx : Nat} {fn : Fn} {f c : Array Operand} : goX P bar k ⟨d, .makeFunc fn f c, ty, pos, aft, g⟩ ⟨fr, hp, nx⟩ K Kp = onL ((f.toList ++ c.toList).mapM (evA ⟨fr, hp, nx⟩)) fun l => runE (effA P (.makeFunc fn f c) l (l.map fun v => v.id?.bind hp)) ⟨fr, hp, nx⟩ d (nx + 1048576 * k) K := effL

@[go_sem ↓, go_sem] theorem goX_pick {fr : Nat → Option AV} {hp : Nat → Option AObj} {nx : Nat} {x y z : Operand} : goX P bar k ⟨d, .pick x y z, ty, pos, aft, g⟩ ⟨fr, hp, nx⟩ K Kp = onL ([x, y, z].mapM (evA ⟨fr, hp, nx⟩)) fun l => runE (effA P (.pick x y z) l (l.map fun v => v.id?.bind hp)) ⟨fr, hp, nx⟩ d (nx + 1048576 * k) K := effL
@[go_sem ↓, go_sem] theorem goX_insert {fr : Nat → Option AV} {hp : Nat → Option AObj} {nx : Nat} {t : TypeId} {x y z : Operand} : goX P bar k ⟨d, .insert t x y z, ty, pos, aft, g⟩ ⟨fr, hp, nx⟩ K Kp = onL ([x, y, z].mapM (evA ⟨fr, hp, nx⟩)) fun l => runE (effA P (.insert t x y z) l (l.map fun v => v.id?.bind hp)) ⟨fr, hp, nx⟩ d (nx + 1048576 * k) K := effL

/-- Keeps simp out of what depends on it. -/
structure Tg (A : Prop) : Type where
/-- Keeps simp out of A. -/
def Hold (A : Prop) (_ : Tg A) : Prop := A
theorem Hold.mk {A : Prop} {g : Tg A} (h : A) : Hold A g := h

/-- A call of a function that changes nothing that there was. -/
def CallP (P : Program) (g : FuncId) (vs : List AV) (σ : St) (d : Option Nat) (K : St → Prop) : Prop :=
  AV.snapOkL σ.hp vs ∧ ∃ r, PCall P g (AV.snapL σ.hp vs) r ∧ (r.flatR = true ∨ vs.all AV.noRw = true) ∧ K (σ.put d r)

def onF (f : Option AV) (xs : Option (List AV)) (F : FuncId → List AV → Prop) : Prop :=
  match f, xs with
  | some (.fn (.func g) first cap), some vs => F g (first ++ vs ++ cap)
  | _, _ => False
@[go_sem] theorem onF_nil {g : FuncId} {vs : List AV} {F : FuncId → List AV → Prop} : onF (some (.fn (.func g) [] [])) (some vs) F = F g vs := by simp [onF]
@[go_sem] theorem onF_some {g : FuncId} {first cap vs : List AV} {F : FuncId → List AV → Prop} : onF (some (.fn (.func g) first cap)) (some vs) F = F g (first ++ vs ++ cap) := _root_.id rfl

@[go_sem ↓, go_sem] theorem goX_call {fr : Nat → Option AV} {hp : Nat → Option AObj} {nx : Nat} {f : Operand} {args : Array Operand} {ts : Array TypeId} : goX P false k ⟨d, .call ⟨.value f, args, ts⟩, ty, pos, aft, g⟩ ⟨fr, hp, nx⟩ K Kp = onF (evA ⟨fr, hp, nx⟩ f) (args.toList.mapM (evA ⟨fr, hp, nx⟩)) fun g vs => Hold (CallP P g vs ⟨fr, hp, nx⟩ d K) ⟨⟩ := by
  simp only [goX, onF, Bool.false_eq_true, if_false, CallP, Hold]
  rfl
@[go_sem ↓, go_sem] theorem goX_callB {fr : Nat → Option AV} {hp : Nat → Option AObj} {nx : Nat} {f : Operand} {args : Array Operand} {ts : Array TypeId} : goX P true k ⟨d, .call ⟨.value f, args, ts⟩, ty, pos, aft, g⟩ ⟨fr, hp, nx⟩ K Kp = onF (evA ⟨fr, hp, nx⟩ f) (args.toList.mapM (evA ⟨fr, hp, nx⟩)) fun g vs => Hold (CallB P g vs ⟨fr, hp, nx⟩ k d K Kp) ⟨⟩ := by
  simp only [goX, onF, if_true, Hold]
  rfl

end

@[go_sem] theorem evA_tmp {σ : St} {t : Nat} : evA σ (.tmp t) = σ.fr t := _root_.id rfl
@[go_sem] theorem evA_func {σ : St} {f : FuncId} : evA σ (.func f) = some (.fn (.func f) [] []) := _root_.id rfl
@[go_sem] theorem evA_int {σ : St} {k : IntKind} {n : Int} : evA σ (.const (.int k n)) = some (.int k n) := _root_.id rfl
@[go_sem] theorem evA_bool {σ : St} {b : Bool} : evA σ (.const (.bool b)) = some (.bool b) := _root_.id rfl
@[go_sem] theorem evA_string {σ : St} {b : ByteArray} : evA σ (.const (.string b)) = some (.str b) := _root_.id rfl
@[go_sem] theorem evA_nilp {σ : St} : evA σ (.const (.pointer none)) = some .nilp := _root_.id rfl
@[go_sem] theorem evA_nilsl {σ : St} : evA σ (.const (.slice none 0 0)) = some .nilsl := _root_.id rfl
@[go_sem] theorem evA_nilmap {σ : St} : evA σ (.const (.map none)) = some .nilmap := _root_.id rfl
@[go_sem] theorem evA_nilfn {σ : St} : evA σ (.const .nilFunc) = some .nilfn := _root_.id rfl
@[go_sem] theorem evA_nilif {σ : St} : evA σ (.const .nilIface) = some .nilif := _root_.id rfl

@[go_sem] theorem put_some {fr : Nat → Option AV} {hp : Nat → Option AObj} {nx d : Nat} {x : AV} : St.put ⟨fr, hp, nx⟩ (some d) x = ⟨upd fr d x, hp, nx⟩ := _root_.id rfl
@[go_sem] theorem put_none {σ : St} {x : AV} : St.put σ none x = σ := _root_.id rfl
@[go_sem] theorem upd_at {f : Nat → Option AV} {d t : Nat} {x : AV} : upd f d x t = if t = d then some x else f t := _root_.id rfl
@[go_sem] theorem updo_at {f : Nat → Option AObj} {d t : Nat} {x : Option AObj} : updo f d x t = if t = d then x else f t := _root_.id rfl
@[go_sem] theorem app_val {fr : Nat → Option AV} {hp : Nat → Option AObj} {nx : Nat} {d : Option Nat} {id : Nat} {x : AV} : (Ef.val x).app ⟨fr, hp, nx⟩ d id = St.put ⟨fr, hp, nx⟩ d x := _root_.id rfl
@[go_sem] theorem app_new {fr : Nat → Option AV} {hp : Nat → Option AObj} {nx : Nat} {d : Option Nat} {id : Nat} {o : AObj} {x : Nat → AV} : (Ef.new o x).app ⟨fr, hp, nx⟩ d id = St.put ⟨fr, updo hp id (some o), nx⟩ d (x id) := _root_.id rfl
@[go_sem] theorem app_set {fr : Nat → Option AV} {hp : Nat → Option AObj} {nx : Nat} {d : Option Nat} {id i : Nat} {o : AObj} {x : AV} : (Ef.set i o x).app ⟨fr, hp, nx⟩ d id = St.put ⟨fr, updo hp i (some o), nx⟩ d x := _root_.id rfl
@[go_sem] theorem app_swap {fr : Nat → Option AV} {hp : Nat → Option AObj} {nx : Nat} {d : Option Nat} {id i : Nat} {o : AObj} {x : Nat → AV} : (Ef.swap i o x).app ⟨fr, hp, nx⟩ d id = St.put ⟨fr, updo (updo hp i none) id (some o), nx⟩ d (x id) := _root_.id rfl
@[go_sem] theorem mkSt_eq {fr : List (Nat × AV)} {hp : List (Nat × AObj)} {nx : Nat} : mkSt fr hp nx = ⟨mkFr fr, mkHp hp, nx⟩ := _root_.id rfl
@[go_sem] theorem mkFr_cons {t : Nat} {x : AV} {l : List (Nat × AV)} : mkFr ((t, x) :: l) = upd (mkFr l) t x := _root_.id rfl
@[go_sem] theorem mkHp_cons {t : Nat} {x : AObj} {l : List (Nat × AObj)} : mkHp ((t, x) :: l) = updo (mkHp l) t (some x) := _root_.id rfl
@[go_sem] theorem mkFr_nil {t : Nat} : mkFr [] t = none := _root_.id rfl
@[go_sem] theorem mkHp_nil {t : Nat} : mkHp [] t = none := _root_.id rfl

attribute [go_sem] stA spl mkElem cutA TK.isAgg thenQ blockQ AObj.ren AObj.ids 

@[go_sem] theorem idsChk_none {k : Nat} {op : Op} {σ : St} : idsChk none k op σ = True := _root_.id rfl
theorem idsChk_some {bl : List Nat} {k : Nat} {op : Op} {fr : Nat → Option AV} {hp : Nat → Option AObj} {nx : Nat} : idsChk (some bl) k op ⟨fr, hp, nx⟩ = onL (op.operands.toList.mapM (evA ⟨fr, hp, nx⟩)) fun vs => idOk nx (bl.getD k 0) vs = true ∧ ldOk (bl.getD k 0) k op vs := _root_.id rfl

/-- The operations of a region, one after the other. -/
def goL (P : Program) (bar : Bool) (bs : Option (List Nat)) (ds : List (Option Nat)) : List Oper → Nat → St → (St → Prop) → (AV → St → Prop) → Prop
  | [], _, σ, K, _ => K σ
  | o :: r, k, σ, K, Kp => goG P bar bs ds k o σ (fun σ' => goL P bar bs ds r (k + 1) σ' K Kp) Kp

theorem goL_eq {P : Program} {bar : Bool} {bs : Option (List Nat)} {ds : List (Option Nat)} {K : St → Prop} {Kp : AV → St → Prop} : ∀ (l : List Oper) (k : Nat) (σ : St), goL P bar bs ds l k σ K Kp = goR P bar bs ds (l.zipIdx k) σ K Kp
  | [], _, _ => rfl
  | o :: r, k, σ => by
    simp only [goL, List.zipIdx_cons, goR]
    congr 1
    funext σ'
    exact goL_eq r (k + 1) σ'

@[go_sem ↓] theorem goL_nil {P : Program} {bar : Bool} {bs : Option (List Nat)} {ds : List (Option Nat)} {k : Nat} {σ : St} {K : St → Prop} {Kp : AV → St → Prop} : goL P bar bs ds [] k σ K Kp = K σ := _root_.id rfl
@[go_sem ↓] theorem goL_cons {P : Program} {bar : Bool} {bs : Option (List Nat)} {ds : List (Option Nat)} {k : Nat} {o : Oper} {r : List Oper} {σ : St} {K : St → Prop} {Kp : AV → St → Prop} :
    goL P bar bs ds (o :: r) k σ K Kp = goG P bar bs ds k o σ (fun σ' => goL P bar bs ds r (k + 1) σ' K Kp) Kp := rfl

section
variable {P : Program} {E : En} {Q : AEx → St → Prop} {σ : St}

theorem AW_seq_k {x y : Code} (h : ∀ K : St → Prop, (∀ σ, AW P E y Q σ → K σ) → AW P E x (thenQ K Q) σ) : AW P E (.seq x y) Q σ := AW_seq (h _ fun _ h => h)

theorem AW_reg {id : Nat} {l : List Oper} (hd : dstOk E.nt l.toArray = true)
    (h : ∀ (K : St → Prop) (Kp : AV → St → Prop), (∀ σ', Q .norm σ' → K σ') → (∀ x σ', Q (.pan x) σ' → Kp x σ') → goL P true none (l.map (·.dst)) l 0 σ (fun σ' => K { σ' with nx := σ.nx + 1048576 * l.length }) Kp) : AW P E (.region id l.toArray false) Q σ := by
  refine AW_region hd ?_
  have := h (fun σ' => Q .norm σ') (fun x σ' => Q (.pan x) σ') (fun _ h => h) (fun _ _ h => h)
  rw [goL_eq] at this
  simpa using this

theorem AW_drw {id : Nat} {l : List Oper} (bar : Bool) (hm : P.follows .mixedOrders = true) (hd : dstOk E.nt l.toArray = true) (hok : okStatic bar l.toArray = true)
    (h : ∀ (K : St → Prop) (Kp : AV → St → Prop), (∀ σ', Q .norm σ' → K σ') → (∀ x σ', Q (.pan x) σ' → Kp x σ') → ∀ bl, bl = ancL l.toArray → goL P bar (some bl) (l.map (·.dst)) l 0 σ (fun σ' => K { σ' with nx := σ.nx + 1048576 * l.length }) Kp) : AW P E (.region id l.toArray true) Q σ := by
  refine AW_draw bar hm hd hok ?_
  have := h (fun σ' => Q .norm σ') (fun x σ' => Q (.pan x) σ') (fun _ h => h) (fun _ _ h => h) _ rfl
  rw [goL_eq] at this
  simpa using this

/-- A region and what follows. -/
theorem AW_sreg {id : Nat} {l : List Oper} {y : Code} (hd : dstOk E.nt l.toArray = true)
    (h : ∀ (K : St → Prop) (Kp : AV → St → Prop), (∀ σ', AW P E y Q σ' → K σ') → (∀ x σ', Q (.pan x) σ' → Kp x σ') → goL P true none (l.map (·.dst)) l 0 σ (fun σ' => K { σ' with nx := σ.nx + 1048576 * l.length }) Kp) : AW P E (.seq (.region id l.toArray false) y) Q σ :=
  AW_seq_k fun K hK => AW_reg hd fun K' Kp' h1 h2 => h K' Kp' (fun σ' h => h1 _ (hK _ h)) (fun x σ' h => h2 x σ' h)

theorem AW_sdrw {id : Nat} {l : List Oper} {y : Code} (bar : Bool) (hm : P.follows .mixedOrders = true) (hd : dstOk E.nt l.toArray = true) (hok : okStatic bar l.toArray = true)
    (h : ∀ (K : St → Prop) (Kp : AV → St → Prop), (∀ σ', AW P E y Q σ' → K σ') → (∀ x σ', Q (.pan x) σ' → Kp x σ') → ∀ bl, bl = ancL l.toArray → goL P bar (some bl) (l.map (·.dst)) l 0 σ (fun σ' => K { σ' with nx := σ.nx + 1048576 * l.length }) Kp) : AW P E (.seq (.region id l.toArray true) y) Q σ :=
  AW_seq_k fun K hK => AW_drw bar hm hd hok fun K' Kp' h1 h2 => h K' Kp' (fun σ' h => h1 _ (hK _ h)) (fun x σ' h => h2 x σ' h)

theorem AW_cond_k {c : Operand} {x y : Code} {b : Bool} (hc : evA σ c = some (.bool b)) (ht : b = true → AW P E x Q σ) (hf : b = false → AW P E y Q σ) : AW P E (.cond c x y) Q σ := AW_cond hc ht hf
end

/-- Parameters in their slots. -/
def mkPar : Nat → List AV → Nat → Option AV
  | _, [] => fun _ => none
  | i, x :: l => upd (mkPar (i + 1) l) i x
@[go_sem] theorem mkPar_nil {i t : Nat} : mkPar i [] t = none := _root_.id rfl
@[go_sem] theorem mkPar_cons {i : Nat} {x : AV} {l : List AV} : mkPar i (x :: l) = upd (mkPar (i + 1) l) i x := _root_.id rfl

theorem mkPar_eq : ∀ (l : List AV) (i t : Nat), mkPar i l t = if i ≤ t then l[t - i]? else none
  | [], i, t => by simp [mkPar]
  | x :: l, i, t => by
    simp only [mkPar, upd]
    by_cases h : t = i
    · subst h; simp
    · rw [if_neg h, mkPar_eq l (i + 1) t]
      by_cases h2 : i ≤ t
      · rw [if_pos (by omega), if_pos h2, show t - i = (t - (i + 1)) + 1 by omega]
        simp
      · rw [if_neg (by omega), if_neg h2]

@[go_sem] theorem hp_none {i : Nat} : (fun _ => none : Nat → Option AObj) i = none := _root_.id rfl

theorem PCall.intro {P : Program} {f : FuncId} {fn : Func} {c : Code} {vs : List AV} {r : AV} (hf : P.funcs[f]? = some fn) (hb : fn.body = some c) (hfn : isFn P f = true) (hn : vs.length ≤ fn.ntmps) (hclo : AV.cloL vs = true)
    (h : ∀ (E : En) (Q : AEx → St → Prop), E.nt = fn.ntmps → E.np = 0 → (∀ σ, (∃ r', resA P fn.results.toList σ = some r' ∧ r'.snapOk σ.hp ∧ r'.snap σ.hp = r ∧ r.clo = true) → Q .ret σ ∧ Q .norm σ) → AW P E c Q ⟨mkPar 0 vs, mkHp [], 0⟩) : PCall P f vs r := by
  refine PCall.of_body hf hb hfn hn hclo fun E hE hN => ?_
  have := h E (fun e σ => (e = .ret ∨ e = .norm) ∧ ∃ r', resA P fn.results.toList σ = some r' ∧ r'.snapOk σ.hp ∧ r'.snap σ.hp = r ∧ r.clo = true) hE hN (fun σ hσ => ⟨⟨.inl rfl, hσ⟩, ⟨.inr rfl, hσ⟩⟩)
  have e : (fun t => vs[t]?) = mkPar 0 vs := by
    funext t
    rw [mkPar_eq]
    simp
  rw [e]
  exact this

end Go.Am
