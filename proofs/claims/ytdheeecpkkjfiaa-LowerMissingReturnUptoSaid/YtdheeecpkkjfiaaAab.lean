/- A part of the proof: an abstract machine for the walks, and what the walked functions compute. -/
import Derived.WalkLawsBesides
import Derived.MapKept
import Derived.Test.YtdheeecpkkjfiaaAaa
set_option linter.unusedVariables false
set_option linter.unusedSimpArgs false
/- The abstract machine: every operation does to a state what the abstract machine says. -/
set_option linter.unusedVariables false
set_option linter.unusedSimpArgs false
namespace Go.Am

variable {P : Program} {E : En} {ρ : Nat → Ref} {V : Nat → Prop} {Z : Nat → Nat → Prop} {σ : St} {a : Act} {w : World}

theorem ok_fieldAddr (h : Sat E ρ V Z σ a w) {o : Oper} (hd : ∀ n, o.dst = some n → n < E.nt) {id : Nat} {t : TypeId} {T Tf : TI} {fs : List (TypeId × Nat)} {f ft off : Nat} (hT : ti P t = some T) (hk : T.k = .struct fs)
    (hf : fs[f]? = some (ft, off)) (hTf : ti P ft = some Tf) (hsz : Tf.size ≠ 0) {v : Value} {x y : AV} (hv : Rel ρ V Z w v x) (hy : ∀ b o, v = .pointer (some ⟨b, o, none⟩) → Rel ρ V Z w (.pointer (some ⟨b, o + off, none⟩)) y)
    (hp : ∃ b o, v = .pointer (some ⟨b, o, none⟩))
    (hrun : execOp a.eval o = (do pure (Next.value (← Instr.fieldAt t v f)))) : OpOk P E o σ a w V Z id (.val y) := by
  obtain ⟨u, hu1, hu2⟩ := run_underlying (w := w) hT
  rw [hk] at hu2
  obtain ⟨gs, rfl, hfs⟩ := tk_struct hu2
  obtain ⟨b, o', rfl⟩ := hp
  rw [hfs, List.getElem?_map] at hf
  cases hg : gs.toList[f]? with
  | none => simp [hg] at hf
  | some g =>
    simp only [hg, Option.map_some, Option.some.injEq, Prod.mk.injEq] at hf
    obtain ⟨rfl, rfl⟩ := hf
    have hg' : gs[f]? = some g := by rw [← Array.getElem?_toList]; exact hg
    have hr : (Instr.fieldAt t (.pointer (some ⟨b, o', none⟩)) f).run P w = .ok (.pointer (some ⟨b, o' + g.offset, none⟩)) w := by
      unfold Instr.fieldAt Instr.sureAddr fieldPlace
      simp only [Sem.run_bind, hu1, Result.andThen_ok, hg', Sem.run_pure, run_sizeOf hTf, Sem.run_ite]
      rw [if_neg hsz, addr_add]
      simp
    exact ok_val h hd (by rw [hrun, run_value hr]) (hy b o' rfl)

theorem ok_field (h : Sat E ρ V Z σ a w) {o : Oper} (hd : ∀ n, o.dst = some n → n < E.nt) {id : Nat} {t : TypeId} {T Tf : TI} {fs : List (TypeId × Nat)} {f ft off : Nat} (hT : ti P t = some T) (hk : T.k = .struct fs)
    (hf : fs[f]? = some (ft, off)) (hTf : ti P ft = some Tf) {v : Value} {l : List AV} {x : AV} (hv : Rel ρ V Z w v (.agg l)) (hx : ldA Tf l off = some x)
    (hrun : execOp a.eval o = (do pure (Next.value (← Instr.field t v f)))) : OpOk P E o σ a w V Z id (.val x) := by
  obtain ⟨u, hu1, hu2⟩ := run_underlying (w := w) hT
  rw [hk] at hu2
  obtain ⟨gs, rfl, hfs⟩ := tk_struct hu2
  obtain ⟨cs, rfl, h1, h2, h3⟩ := hv.agg_inv
  rw [hfs, List.getElem?_map] at hf
  cases hg : gs.toList[f]? with
  | none => simp [hg] at hf
  | some g =>
    simp only [hg, Option.map_some, Option.some.injEq, Prod.mk.injEq] at hf
    obtain ⟨rfl, rfl⟩ := hf
    have hg' : gs[f]? = some g := by rw [← Array.getElem?_toList]; exact hg
    unfold ldA at hx
    cases hk2 : Tf.k.isAgg with
    | true =>
      rw [hk2] at hx
      simp only [if_true] at hx
      split at hx
      · rename_i hle
        cases hx
        have hr : (Instr.field t (.agg cs) f).run P w = .ok (.agg (cs.extract g.offset (g.offset + Tf.size))) w := by
          unfold Instr.field part
          simp only [Sem.run_bind, hu1, Result.andThen_ok, hg', asAgg, Sem.run_pure, run_isAgg hTf, hk2, if_true, run_sizeOf hTf, Sem.run_ite]
        have hlen : ((l.drop g.offset).take Tf.size).length = Tf.size := by simp; omega
        have hgd : ∀ i, i < Tf.size → ((l.drop g.offset).take Tf.size).getD i default = l.getD (g.offset + i) default := by
          intro i hi
          simp [List.getD_eq_getElem?_getD, List.getElem?_take, hi, List.getElem?_drop]
        refine ok_val h hd (by rw [hrun, run_value hr]) (.agg _ _ (by simp only [Array.size_extract, hlen]; omega) ?_ ?_)
        · intro i hi; rw [hlen] at hi; rw [hgd i hi]; exact h2 _ (by omega)
        · intro i hi
          rw [hlen] at hi
          rw [hgd i hi]
          have := h3 (g.offset + i) (by omega)
          have e1 : (cs.extract g.offset (g.offset + Tf.size)).getD i undef = cs.getD (g.offset + i) undef := by
            simp only [Array.getD_eq_getD_getElem?, Array.getElem?_extract]
            rw [if_pos (by omega)]
          rw [e1]; exact this
      · cases hx
    | false =>
      rw [hk2] at hx
      simp only [Bool.false_eq_true, if_false] at hx
      have hlt : g.offset < l.length := by
        rcases Nat.lt_or_ge g.offset l.length with h | h
        · exact h
        · rw [List.getElem?_eq_none h] at hx; cases hx
      have hc : cs[g.offset]? = some (cs.getD g.offset undef) := by
        have : g.offset < cs.size := by omega
        simp [Array.getD, this]
      have hr : (Instr.field t (.agg cs) f).run P w = .ok (cs.getD g.offset undef) w := by
        unfold Instr.field part
        simp only [Sem.run_bind, hu1, Result.andThen_ok, hg', asAgg, Sem.run_pure, run_isAgg hTf, hk2, if_false, Sem.run_ite, Bool.false_eq_true, hc]
      have := h3 g.offset hlt
      have e2 : l.getD g.offset default = x := by simp [List.getD_eq_getElem?_getD, hx]
      rw [e2] at this
      exact ok_val h hd (by rw [hrun, run_value hr]) this

theorem idx_sl {l : List AV} {v : Value} (hv : Rel ρ V Z w v (.sl l)) {i sz : Nat} {y : AV} (hi : l[i]? = some y) (hy : y.cells.length = sz) :
    ∃ b o cap, v = .slice (some ⟨b, o, none⟩) l.length cap ∧ i < l.length ∧ Rel ρ V Z w (.pointer (some ⟨b, o + i * sz, none⟩)) (.eptr y 0) := by
  have hil : i < l.length := by
    rcases Nat.lt_or_ge i l.length with h | h
    · exact h
    · rw [List.getElem?_eq_none h] at hi; cases hi
  have he : l.getD i default = y := by simp [List.getD_eq_getElem?_getD, hi]
  obtain ⟨a', cap, rfl, hcap, h1⟩ := hv.sl_inv
  rcases h1 with rfl | ⟨b, o, sz', cs, rfl, h1, h2, h3⟩
  · simp at hil
  · have hsz : sz' = sz := by have := h1 i hil; rw [he, hy] at this; exact this.symm
    subst hsz
    refine ⟨b, o, cap, rfl, hil, ?_⟩
    have := Rel.eptr (ρ := ρ) (V := V) (Z := Z) (w := w) b (o + i * sz') y 0 (cs i) (fun j hj => by have := h2 i j hil (by omega); rw [he] at this; exact this) (fun j hj => by have := h3 i j hil (by omega); rw [he] at this; exact this)
    simpa using this

theorem ok_index (h : Sat E ρ V Z σ a w) {o : Oper} (hd : ∀ n, o.dst = some n → n < E.nt) {id : Nat} {t : TypeId} {x i y : AV} {ob : Prop} {v vi : Value} {ox : Option AObj} (hx : idxA P t x i ox = some (ob, y)) (hob : ob)
    (hv : Rel ρ V Z w v x) (hvi : Rel ρ V Z w vi i) (hox : ∀ o, ox = some o → ∀ id, x.id? = some id → σ.hp id = some o)
    (hrun : execOp a.eval o = (do pure (Next.value (← Instr.indexAt t v vi)))) : OpOk P E o σ a w V Z id (.val y) := by
  unfold idxA at hx
  cases hT : ti P t with
  | none => simp [hT] at hx
  | some T =>
    obtain ⟨k, s1, b1, z1⟩ := T
    rw [hT] at hx
    cases k <;> try (simp at hx; done)
    rename_i e
    simp only at hx
    cases hTe : ti P e with
    | none => simp [hTe] at hx
    | some Te =>
      simp only [hTe] at hx
      have hus := run_underlying_slice (w := w) hT rfl
      split at hx
      · rename_i l k n
        split at hx
        · rename_i y' hy'
          split at hx
          · rename_i hsz
            cases hx
            obtain ⟨b, o', cap, rfl, hil, hrel⟩ := idx_sl hv hy' hsz
            rw [hvi.int_inv] at hrun
            have hr : (Instr.indexAt t (.slice (some ⟨b, o', none⟩) l.length cap) (.int k n)).run P w = .ok (.pointer (some ⟨b, o' + n.toNat * Te.size, none⟩)) w := by
              unfold Instr.indexAt
              simp only [asIntOf, Sem.run_bind, Sem.run_pure, Result.andThen_ok, hus]
              have : 0 ≤ n ∧ n < (l.length : Int) := ⟨hob, by omega⟩
              rw [if_pos this]
              simp [run_sizeOf hTe, addr_add]
            exact ok_val h hd (by rw [hrun, run_value hr]) hrel
          · cases hx
        · cases hx
      · rename_i rid k n sz l
        split at hx
        · rename_i hsz
          subst hsz
          cases hx
          obtain ⟨h0, h1⟩ := hob
          obtain ⟨hV, hobj⟩ := h.hs.obj _ _ (hox _ rfl rid rfl)
          obtain ⟨rfl, _⟩ := hv.rw_inv
          rw [hvi.int_inv] at hrun
          rcases hobj.row_cells' with ⟨_, rfl⟩ | ⟨hn, cs, ty, g1, g2, g3, g4, g5⟩
          · simp at h1
          · have hr : (Instr.indexAt t (ρ rid).slice (.int k n)).run P w = .ok (.pointer (some ⟨(ρ rid).blk, n.toNat * Te.size + 0, none⟩)) w := by
              unfold Instr.indexAt Ref.slice
              simp only [hn, Bool.false_eq_true, if_false]
              simp only [asIntOf, Sem.run_bind, Sem.run_pure, Result.andThen_ok, hus]
              have : 0 ≤ n ∧ n < ((ρ rid).len : Int) := ⟨h0, by omega⟩
              rw [if_pos this]
              simp [run_sizeOf hTe, addr_add]
            exact ok_val h hd (by rw [hrun, run_value hr]) (.rptr _ _ _ _ hV)
        · cases hx
      · cases hx

theorem cut_rel {l : List AV} {a' : Option Addr} {n cap lo hi sz : Nat} (hv : Rel ρ V Z w (.slice a' n cap) (.sl l)) (h1 : lo ≤ hi) (h2 : hi ≤ l.length) (hsz : SzOk l sz) :
    Rel ρ V Z w (.slice (if cap = lo then a' else a'.map (·.add (lo * sz))) (hi - lo) (cap - lo)) (.sl (cutA l lo hi)) := by
  have hlen : (cutA l lo hi).length = hi - lo := by simp [cutA]; omega
  by_cases he : hi - lo = 0
  · have : cutA l lo hi = [] := List.length_eq_zero_iff.1 (by omega)
    rw [this, he]
    exact .sl0 _ _
  · obtain ⟨a2, cap2, e, hcap, h3⟩ := hv.sl_inv
    cases e
    rcases h3 with rfl | ⟨b, o, sz', cs, rfl, g1, g2, g3⟩
    · simp at h2; omega
    · have hs : sz' = sz := by have := g1 0 (by omega); rw [hsz.getD (by omega)] at this; exact this.symm
      subst hs
      rw [if_neg (by omega)]
      have hgd : ∀ i, i < hi - lo → (cutA l lo hi).getD i default = l.getD (lo + i) default := by
        intro i hi'
        simp only [cutA, List.getD_eq_getElem?_getD, List.getElem?_drop]
        rw [List.getElem?_take, if_pos (by omega)]
      have hidx : ∀ i j, o + lo * sz' + i * sz' + j = o + (lo + i) * sz' + j := by intro i j; rw [Nat.add_mul]; omega
      have := Rel.sl (ρ := ρ) (V := V) (Z := Z) (w := w) b (o + lo * sz') (cap - lo) sz' (cutA l lo hi) (fun i j => cs (lo + i) j) (by omega) (fun i hi' => by rw [hlen] at hi'; rw [hgd i hi']; exact g1 _ (by omega))
        (fun i j hi' hj => by rw [hlen] at hi'; rw [hgd i hi', hidx]; exact g2 (lo + i) j (by omega) hj) (fun i j hi' hj => by rw [hlen] at hi'; rw [hgd i hi']; exact g3 (lo + i) j (by omega) hj)
      rw [hlen] at this
      simpa [addr_add] using this

theorem ok_slice (h : Sat E ρ V Z σ a w) {o : Oper} (hd : ∀ n, o.dst = some n → n < E.nt) {id : Nat} {t e : TypeId} {T Te : TI} (hT : ti P t = some T) (hk : T.k = .slice e) (hTe : ti P e = some Te) {l : List AV} {v : Value} (hv : Rel ρ V Z w v (.sl l))
    (hsz : SzOk l Te.size) {lo hi : Option AV} {vlo vhi : Option Value} (hlo : ∀ x, lo = some x → ∃ u, vlo = some u ∧ Rel ρ V Z w u x) (hlo' : lo = none → vlo = none) (hhi : ∀ x, hi = some x → ∃ u, vhi = some u ∧ Rel ρ V Z w u x) (hhi' : hi = none → vhi = none)
    {ob : Prop} {y : AV} (hs : sliceA l lo hi = some (ob, y)) (hob : ob) (hrun : execOp a.eval o = (do pure (Next.value (← Instr.sliceAt t v vlo vhi none)))) : OpOk P E o σ a w V Z id (.val y) := by
  have hus := run_underlying_slice (w := w) hT hk
  obtain ⟨a', cap, rfl, hcap, _⟩ := hv.sl_inv
  have hb : ∀ (k : IntKind) (n : Int) (m : Nat) (code : BoundsCode), 0 ≤ n → n ≤ m → (Instr.sliceBound (.int k n) m code).run P w = .ok n.toNat w := by
    intro k n m code h1 h2
    unfold Instr.sliceBound
    simp only [asIntOf, Sem.run_bind, Sem.run_pure, Result.andThen_ok]
    rw [if_pos ⟨h1, h2⟩]
    rfl
  have key : ∀ (lo' hi' : Nat) (y : AV), lo' ≤ hi' → hi' ≤ l.length → y = .sl (cutA l lo' hi') →
      (Instr.sliceBounds true l.length cap vlo vhi none).run P w = .ok (lo', hi', cap) w → OpOk P E o σ a w V Z id (.val y) := by
    intro lo' hi' y h1 h2 hy hsb
    subst hy
    have hr : (Instr.sliceAt t (.slice a' l.length cap) vlo vhi none).run P w = .ok (.slice (if cap = lo' then a' else a'.map (·.add (lo' * Te.size))) (hi' - lo') (cap - lo')) w := by
      unfold Instr.sliceAt Instr.slice
      simp only [Sem.run_bind, hus, Result.andThen_ok, hsb, run_sizeOf hTe, Sem.run_pure]
    exact ok_val h hd (by rw [hrun, run_value hr]) (cut_rel hv h1 h2 hsz)
  unfold sliceA at hs
  split at hs
  · cases hs
    rw [hlo' rfl, hhi' rfl] at key
    exact key 0 l.length _ (by omega) (by omega) (by simp [cutA]) (by simp [Instr.sliceBounds])
  · rename_i k n
    cases hs
    obtain ⟨h1, h2⟩ := hob
    obtain ⟨u, hu1, hu2⟩ := hlo _ rfl
    rw [hu1, hhi' rfl, hu2.int_inv] at key
    exact key n.toNat l.length _ (by omega) (by omega) (by simp [cutA]) (by simp [Instr.sliceBounds, hb k n l.length .sliceB h1 (by omega)])
  · rename_i k n
    cases hs
    obtain ⟨h1, h2⟩ := hob
    obtain ⟨u, hu1, hu2⟩ := hhi _ rfl
    rw [hu1, hlo' rfl, hu2.int_inv] at key
    exact key 0 n.toNat _ (by omega) (by omega) (by simp [cutA]) (by simp [Instr.sliceBounds, hb k n cap .sliceAcap h1 (by omega)])
  · rename_i k n k' m
    cases hs
    obtain ⟨h1, h2, h3⟩ := hob
    obtain ⟨u, hu1, hu2⟩ := hlo _ rfl
    obtain ⟨u', hu1', hu2'⟩ := hhi _ rfl
    rw [hu1, hu1', hu2.int_inv, hu2'.int_inv] at key
    exact key n.toNat m.toNat _ (by omega) (by omega) rfl (by
      have e1 := hb k' m cap .sliceAcap (by omega) (by omega)
      have e2 := hb k n m.toNat .sliceB h1 (by omega)
      simp [Instr.sliceBounds, e1, e2])
  · cases hs

theorem ok_len (h : Sat E ρ V Z σ a w) {o : Oper} (hd : ∀ n, o.dst = some n → n < E.nt) {id : Nat} {t e : TypeId} {T : TI} (hT : ti P t = some T) (hk : T.k = .slice e) {v : Value} {x y : AV} {ox : Option AObj} (hx : Rel ρ V Z w v x)
    (hox : ∀ o, ox = some o → ∀ id, x.id? = some id → σ.hp id = some o) (hl : lenA x ox = some y) {ty : TypeId}
    (hrun : execOp a.eval o = (do pure (Next.value (← Builtin.len_ #[t] ty #[v])))) : OpOk P E o σ a w V Z id (.val y) := by
  have hus := run_underlying_slice (w := w) hT hk
  have key : ∀ (b : Option Addr) (n cap : Nat), v = .slice b n cap → y = .i n → OpOk P E o σ a w V Z id (.val y) := by
    intro b n cap e1 e2
    subst e1 e2
    have hr : (Builtin.len_ #[t] ty #[.slice b n cap]).run P w = .ok (.int .i64 n) w := by
      unfold Builtin.len_
      simp [hus, goInt]
    exact ok_val h hd (by rw [hrun, run_value hr]) (.int _ _)
  unfold lenA at hl
  split at hl
  · cases hl; exact key _ _ _ hx.nilsl_inv rfl
  · cases hl; obtain ⟨b, cap, e, _⟩ := hx.sl_inv; exact key _ _ _ e rfl
  · rename_i rid sz l
    cases hl
    obtain ⟨hV, hobj⟩ := h.hs.obj _ _ (hox _ rfl rid rfl)
    obtain ⟨e, _⟩ := hx.rw_inv
    unfold Ref.slice at e
    rcases hobj.row_cells' with ⟨hn, rfl⟩ | ⟨hn, cs, ty', g1, g2, g3, g4, g5⟩
    · rw [if_pos hn] at e; exact key _ _ _ e rfl
    · rw [if_neg (by simp [hn]), g2] at e; exact key _ _ _ e rfl
  · cases hl

end Go.Am

/- The abstract machine: the master law of operations. -/
set_option linter.unusedVariables false
set_option linter.unusedSimpArgs false
namespace Go.Am

variable {P : Program} {E : En} {ρ : Nat → Ref} {V : Nat → Prop} {Z : Nat → Nat → Prop} {σ : St} {a : Act} {w : World}

theorem evs_nil {vs : List AV} (h : ([] : List Operand).mapM (evA σ) = some vs) : vs = [] := by simpa using h
theorem evs_cons {x : Operand} {l : List Operand} {vs : List AV} (h : (x :: l).mapM (evA σ) = some vs) : ∃ v ws, evA σ x = some v ∧ l.mapM (evA σ) = some ws ∧ vs = v :: ws := by
  simp only [List.mapM_cons] at h
  cases h1 : evA σ x with
  | none => simp [h1] at h
  | some v =>
    cases h2 : l.mapM (evA σ) with
    | none => simp [h1, h2] at h
    | some ws => simp [h1, h2] at h; exact ⟨v, ws, rfl, rfl, h.symm⟩

theorem obj_of {x : AV} {o : AObj} (h : x.id?.bind σ.hp = some o) : ∀ id, x.id? = some id → σ.hp id = some o := by
  intro id hid
  rw [hid] at h
  exact h

theorem wrap_toNat (k : IntKind) (b : BitVec k.bits) : (b.toNat : Int) = ((b.toNat : Nat) : Int) := rfl

theorem binInt_ok {op : BinOp} {k : IntKind} {m n : Int} {y : AV} (h : binInt op k m n = some y) (t : TypeId) : ∃ v, (binOp op t (.int k m) (.int k n)).run P w = .ok v w ∧ Rel ρ V Z w v y := by
  cases op <;> simp only [binInt, Option.some.injEq, reduceCtorEq] at h <;> subst h <;>
    first
      | exact ⟨.int k _, by simp only [binOp, Op.intArith, Op.intBits, ne_eq, not_true_eq_false, if_false]; rfl, .int _ _⟩
      | exact ⟨.bool _, by simp only [binOp, Op.intCmp, ne_eq, not_true_eq_false, if_false]; rfl, .bool _⟩

theorem binDiv_ok {op : BinOp} {k : IntKind} {m n : Int} {y : AV} (h : binDiv op k m n = some y) (hn : n ≠ 0) (t : TypeId) : ∃ v, (binOp op t (.int k m) (.int k n)).run P w = .ok v w ∧ Rel ρ V Z w v y := by
  cases op <;> simp only [binDiv, Option.some.injEq, reduceCtorEq] at h <;> subst h <;>
    exact ⟨_, by simp [binOp, Op.intDiv, hn]; try rfl, .int _ _⟩

theorem equal_eq (t : TypeId) (x y : Value) : Op.equal t x y = Op.equalIn (9999 + 1) t x y := rfl

theorem eqIn_bool (d : Nat) {t : TypeId} (m n : Bool) (hu : (underlying t).run P w = .ok .bool w) : (Op.equalIn (d + 1) t (.bool m) (.bool n)).run P w = .ok (m == n) w := by
  unfold Op.equalIn
  simp only [Sem.run_bind, hu, Result.andThen_ok, Sem.run_pure]

theorem eqIn_nil (d : Nat) {t : TypeId} {u : TypeDesc} {x y : AV} {vx vy : Value} {r : Bool} (hx : Rel ρ V Z w vx x) (hy : Rel ρ V Z w vy y) (hu : (underlying t).run P w = .ok u w) (h1 : nilTK (TK.of u) x = true) (h2 : nilTK (TK.of u) y = true) (hr : nilEq x y = some r) :
    (Op.equalIn (d + 1) t vx vy).run P w = .ok r w ∧ (∀ c, vx ≠ .agg c) ∧ (vx = .nilIface → vy ≠ .nilIface) ∧
      (binOp .eql t vx vy = (do pure (.bool (← Op.equal t vx vy)))) ∧ (binOp .neq t vx vy = (do pure (.bool (!(← Op.equal t vx vy))))) := by
  unfold Op.equalIn
  simp only [Sem.run_bind, hu, Result.andThen_ok]
  cases hx <;> cases hy <;> first
    | (simp [nilEq] at hr; done)
    | (simp only [nilEq, Option.some.injEq] at hr
       subst hr
       cases u <;> first
         | (simp [TK.of, nilTK] at h1; done)
         | exact ⟨rfl, by simp, by simp, rfl, rfl⟩)
    | skip
  all_goals
    rename_i b o cap sz l cs g0 g1 g2 g3
    cases l with
    | nil => simp [nilEq] at hr
    | cons y l =>
      simp only [nilEq, Option.some.injEq] at hr
      subst hr
      cases u <;> first
        | (simp [TK.of, nilTK] at h1; done)
        | exact ⟨rfl, by simp, by simp, rfl, rfl⟩

theorem eqGuard_ok {op : BinOp} {t : TypeId} {x y : Operand} {a b : Value} (h : (∀ c, a ≠ .agg c) ∧ (a = .nilIface → b ≠ .nilIface)) : (eqGuard op t x y a b).run P w = .ok () w := by
  unfold eqGuard
  obtain ⟨h1, h2⟩ := h
  cases op <;> simp <;> (cases a <;> cases b <;> simp_all)

theorem bin_val {op : BinOp} {t : TypeId} {x y : AV} {vx vy : Value} {ob : Prop} {z : AV} (h : binA P op t x y = some (ob, z)) (hob : ob) (hx : Rel ρ V Z w vx x) (hy : Rel ρ V Z w vy y) :
    (∃ v, (binOp op t vx vy).run P w = .ok v w ∧ Rel ρ V Z w v z) ∧ (∀ c, vx ≠ .agg c) ∧ (vx = .nilIface → vy ≠ .nilIface) := by
  unfold binA at h
  split at h
  · rename_i k m k' n
    rw [hx.int_inv, hy.int_inv]
    split at h
    · rename_i hk
      subst hk
      split at h
      · rename_i v hv
        cases h
        exact ⟨binInt_ok hv t, by simp, by simp⟩
      · cases hv : binDiv op k m n with
        | none => simp [hv] at h
        | some v =>
          simp only [hv, Option.map_some, Option.some.injEq, Prod.mk.injEq] at h
          obtain ⟨rfl, rfl⟩ := h
          exact ⟨binDiv_ok hv hob t, by simp, by simp⟩
    · cases h
  · rename_i m n
    have e1 : vx = .bool m := by cases hx; rfl
    have e2 : vy = .bool n := by cases hy; rfl
    subst e1 e2
    split at h
    · rename_i s b z' hT
      cases h
      obtain ⟨u, hu1, hu2⟩ := run_underlying (w := w) hT
      have : u = .bool := by cases u <;> simp_all [TK.of]
      subst this
      exact ⟨⟨.bool _, by simp only [binOp, Sem.run_bind, equal_eq, eqIn_bool 9999 m n hu1, Result.andThen_ok, Sem.run_pure], .bool _⟩, by simp, by simp⟩
    · rename_i s b z' hT
      cases h
      obtain ⟨u, hu1, hu2⟩ := run_underlying (w := w) hT
      have : u = .bool := by cases u <;> simp_all [TK.of]
      subst this
      exact ⟨⟨.bool _, by simp only [binOp, Sem.run_bind, equal_eq, eqIn_bool 9999 m n hu1, Result.andThen_ok, Sem.run_pure], .bool _⟩, by simp, by simp⟩
    · cases h
  · rename_i m n
    have e1 : vx = .string m := by cases hx; rfl
    have e2 : vy = .string n := by cases hy; rfl
    subst e1 e2
    cases op <;> simp only [Option.some.injEq, Prod.mk.injEq, reduceCtorEq] at h <;> obtain ⟨rfl, rfl⟩ := h
    case add =>
      have hmax : IntKind.i64.max = 9223372036854775807 := by decide
      refine ⟨⟨_, ?_, .str _⟩, by simp, by simp⟩
      show (Op.stringOp .add m n).run P w = _
      unfold Op.stringOp
      simp only [Sem.run_ite]
      rw [if_neg (by rw [hmax]; omega)]
      rfl
    all_goals exact ⟨⟨.bool _, rfl, .bool _⟩, by simp, by simp⟩
  · rename_i x2 y2 hni hnb hns
    cases hT : ti P t with
    | none => simp [hT] at h
    | some T =>
      simp only [hT] at h
      split at h
      · rename_i hTK
        simp only [Bool.and_eq_true] at hTK
        obtain ⟨u, hu1, hu2⟩ := run_underlying (w := w) hT
        have key : ∀ r, nilEq x y = some r → (Op.equal t vx vy).run P w = .ok r w ∧ (∀ c, vx ≠ .agg c) ∧ (vx = .nilIface → vy ≠ .nilIface) ∧
            (binOp .eql t vx vy = (do pure (.bool (← Op.equal t vx vy)))) ∧ (binOp .neq t vx vy = (do pure (.bool (!(← Op.equal t vx vy))))) := by
          intro r hr
          obtain ⟨hT1, hT2⟩ := hTK
          rw [← hu2] at hT1 hT2
          rw [equal_eq]
          exact eqIn_nil 9999 hx hy hu1 hT1 hT2 hr
        split at h
        · rename_i r hr
          cases h
          obtain ⟨k1, k2, k3, k4, k5⟩ := key _ hr
          exact ⟨⟨.bool r, by rw [k4]; simp only [Sem.run_bind, k1, Result.andThen_ok, Sem.run_pure], .bool _⟩, k2, k3⟩
        · rename_i r hr
          cases h
          obtain ⟨k1, k2, k3, k4, k5⟩ := key _ hr
          exact ⟨⟨.bool !r, by rw [k5]; simp only [Sem.run_bind, k1, Result.andThen_ok, Sem.run_pure], .bool _⟩, k2, k3⟩
        · cases h
      · cases h

end Go.Am

/- The abstract machine: maps with numbers as keys. -/
set_option linter.unusedVariables false
set_option linter.unusedSimpArgs false
namespace Go.Am

variable {P : Program} {E : En} {ρ : Nat → Ref} {V : Nat → Prop} {Z : Nat → Nat → Prop} {σ : St} {a : Act} {w : World}

theorem ok_makeMap (h : Sat E ρ V Z σ a w) {o : Oper} (hd : ∀ n, o.dst = some n → n < E.nt) {id : Nat} (hid : ¬ V id) {t : TypeId}
    (hrun : execOp a.eval o = (do pure (Next.value (← Instr.makeMap t none)))) : OpOk P E o σ a w V Z id (.new (.map []) .mp) := by
  have hr : (Instr.makeMap t none).run P w = .ok (.map (some w.heap.size)) { w with heap := w.heap.push (.map #[] 0) } := by
    simp [Instr.makeMap]
  refine ⟨.value (.map (some w.heap.size)), { w with heap := w.heap.push (.map #[] 0) }, .map (some w.heap.size), fun i => if i = id then ⟨w.heap.size, 0, 0, false⟩ else ρ i, fun i => V i ∨ i = id, ?_, .inl rfl, fun _ h => .inl h, fun _ h => h, ?_⟩
  · rw [hrun, run_value hr]
  · refine h.alloc (o := .map []) hd ⟨w.heap.size, 0, 0, false⟩ rfl hid (fun c t f hc => by cases hc) ?_ ?_
    · exact ⟨by simp, #[], 0, by simp, rfl, fun i hi => absurd hi (Nat.not_lt_zero _)⟩
    · have := Rel.mp (ρ := fun i => if i = id then (⟨w.heap.size, 0, 0, false⟩ : Ref) else ρ i) (V := fun i => V i ∨ i = id) (Z := Z) (w := { w with heap := w.heap.push (.map #[] 0) }) id (.inr rfl)
      simpa using this

theorem Rel.int_inv' {v : Value} {k : IntKind} {n : Int} (h : Rel ρ V Z w v (.int k n)) : v = .int k n := by
  generalize hx : AV.int k n = x at h
  cases h <;> cases hx
  rfl

theorem find_now {ik k : IntKind} {n : Int} : ∀ (es : List (AV × AV)) (l : List MapEntry) (i : Nat) (r : Option AV), l.length = es.length →
    (∀ j, j < es.length → Rel ρ V Z w ((l.getD j default).key) (es.getD j default).1 ∧ Rel ρ V Z w ((l.getD j default).val) (es.getD j default).2) → findE k n es = some r →
    (∃ j v x, r = some x ∧ Instr.findNow (.int ik) (.int k n) l i = some (some (j, v)) ∧ Rel ρ V Z w v x) ∨ (r = none ∧ Instr.findNow (.int ik) (.int k n) l i = some none)
  | [], l, i, r, hl, _, hf => by
    obtain rfl : l = [] := List.length_eq_zero_iff.1 hl
    cases hf
    exact .inr ⟨rfl, rfl⟩
  | (y, x) :: es, [], i, r, hl, _, _ => by simp at hl
  | (y, x) :: es, e :: l, i, r, hl, hr, hf => by
    have h0 := hr 0 (by simp)
    simp only [List.getD_cons_zero] at h0
    cases y <;> simp only [findE] at hf <;> try (cases hf; done)
    rename_i k' n'
    have hk : e.key = .int k' n' := h0.1.int_inv'
    split at hf
    · rename_i hkk
      subst hkk
      split at hf
      · rename_i hnn
        subst hnn
        cases hf
        exact .inl ⟨i, e.val, x, rfl, by simp [Instr.findNow, hk, Instr.sameNow], h0.2⟩
      · rename_i hnn
        have hne : (n == n') = false := by simpa using hnn
        have e1 : Instr.findNow (.int ik) (.int k n) (e :: l) i = Instr.findNow (.int ik) (.int k n) l (i + 1) := by
          simp [Instr.findNow, hk, Instr.sameNow, hne]
        rw [e1]
        exact find_now es l (i + 1) r (by simpa using hl) (fun j hj => by simpa using hr (j + 1) (by simpa using hj)) hf
    · cases hf

theorem map_entries {id : Nat} {es : List (AV × AV)} (h : ObjRel ρ V Z w id (.map es)) : ∃ ents clock, (ρ id).nil = false ∧ w.heap[(ρ id).blk]? = some (.map ents clock) ∧ ents.toList.length = es.length ∧
    ∀ j, j < es.length → Rel ρ V Z w ((ents.toList.getD j default).key) (es.getD j default).1 ∧ Rel ρ V Z w ((ents.toList.getD j default).val) (es.getD j default).2 := by
  obtain ⟨h0, ents, clock, h1, h2, h3⟩ := h
  refine ⟨ents, clock, h0, h1, by simpa using h2, fun j hj => ?_⟩
  have hj2 : j < ents.size := by omega
  have h4 := h3 j hj
  have e1 : (ents.map (·.key)).getD j undef = (ents.toList.getD j default).key := by simp [Array.getD, hj2, List.getD_eq_getElem?_getD]
  have e2 : (ents.map (·.val)).getD j undef = (ents.toList.getD j default).val := by simp [Array.getD, hj2, List.getD_eq_getElem?_getD]
  rw [e1, e2] at h4
  exact h4

theorem run_zv {t : TypeId} {z : AV} (h : zv P t = some z) : ∃ v, (zeroValue t).run P w = .ok v w ∧ ∀ (ρ : Nat → Ref) V Z, Rel ρ V Z w v z := by
  unfold zv at h
  cases hi : P.info? t with
  | none => simp [hi] at h
  | some i =>
    cases hz : i.zero with
    | none => simp [hi, hz] at h
    | some v =>
      simp only [hi, hz, Option.bind_some] at h
      refine ⟨v, ?_, fun _ _ _ => avOf_rel h⟩
      unfold zeroValue typeInfo
      simp [hi, hz]

theorem und_of {t : TypeId} {T : TI} (h : ti P t = some T) : ∃ u, P.underlying t = some u ∧ TK.of u = T.k := by
  obtain ⟨i, u, h1, h2, h3, _⟩ := ti_spec h
  exact ⟨u, h2, h3⟩

theorem Rel.mp_inv' {v : Value} {id : Nat} (h : Rel ρ V Z w v (.mp id)) : v = .map (some (ρ id).blk) ∧ V id := by
  generalize hx : AV.mp id = x at h
  cases h <;> cases hx
  exact ⟨rfl, ‹_›⟩

theorem run_checkInt {kt : TypeId} {ik k : IntKind} {n : Int} (hd : P.underlying kt = some (.int ik)) (e : Bool) (m : Nat) : (Instr.checkKey e (m + 1) kt (.int k n)).run P w = .ok () w := by
  unfold Instr.checkKey
  simp [Go.run_underlying hd, Result.andThen]

theorem ok_insert (h : Sat E ρ V Z σ a w) {o : Oper} (hd : ∀ n, o.dst = some n → n < E.nt) {id : Nat} {t kt et : TypeId} {T Tk : TI} {ik : IntKind} (hT : ti P t = some T) (hk : T.k = .map kt et) (hTk : ti P kt = some Tk) (hkk : Tk.k = .int ik)
    {mid : Nat} {es : List (AV × AV)} {m key x : Value} {k : IntKind} {n : Int} {y : AV} (hm : Rel ρ V Z w m (.mp mid)) (hkey : Rel ρ V Z w key (.int k n)) (hx : Rel ρ V Z w x y) (hob : σ.hp mid = some (.map es)) (hf : findE k n es = some none)
    (hrun : execOp a.eval o = (do let () ← Instr.mapUpdate t m key x; pure Next.skip)) :
    OpOk P E o σ a w V Z id (.set mid (.map (es ++ [(.int k n, y)])) (.tup [])) := by
  obtain ⟨ents, clock, h0, h1, h2, h3⟩ := map_entries (h.hs.obj _ _ hob).2
  obtain ⟨u, hu1, hu2⟩ := und_of hT
  rw [hk] at hu2
  obtain rfl := tk_map hu2
  obtain ⟨u', hu1', hu2'⟩ := und_of hTk
  rw [hkk] at hu2'
  obtain rfl := tk_int hu2'
  obtain ⟨rfl, hv⟩ := hm.mp_inv'
  obtain rfl := hkey.int_inv'
  have hfn : Instr.findNow (.int ik) (.int k n) ents.toList 0 = some none := by
    rcases find_now (ik := ik) es ents.toList 0 none h2 h3 hf with ⟨_, _, _, h, _⟩ | ⟨_, h⟩
    · cases h
    · exact h
  have hlt : (ρ mid).blk < w.heap.size := (Array.getElem?_eq_some_iff.1 h1).1
  have hr : (Instr.mapUpdate t (.map (some (ρ mid).blk)) (.int k n) x).run P w = .ok () { w with heap := w.heap.setIfInBounds (ρ mid).blk (.map (ents.push { key := .int k n, val := x, born := clock }) (clock + 1)) } := by
    unfold Instr.mapUpdate
    simp [Go.run_underlying hu1, MapKept.run_getObj_map h1, run_checkInt hu1', MapKept.run_findKey hu1' hfn, MapKept.run_setObj_map _ h1, Result.andThen]
  have hcell : ∀ b o, Z b o → ({ w with heap := w.heap.setIfInBounds (ρ mid).blk (.map (ents.push { key := .int k n, val := x, born := clock }) (clock + 1)) } : World).cell? ⟨b, o, none⟩ = w.cell? ⟨b, o, none⟩ := by
    intro b o hz
    refine cell?_of_heap ?_
    have hne : (ρ mid).blk ≠ b := fun e => h.hs.sep mid _ b hob ⟨h0, e⟩ o hz
    show (w.heap.setIfInBounds _ _)[b]? = _
    simp [hne]
  refine ⟨.skip, { w with heap := w.heap.setIfInBounds (ρ mid).blk (.map (ents.push { key := .int k n, val := x, born := clock }) (clock + 1)) }, undef, ρ, V, ?_, .inr ⟨rfl, rfl⟩, fun _ h => h, fun _ h => .inl h, ?_⟩
  · rw [hrun]
    simp [hr]
  · refine h.set hd hob h0 ?_ (by simp) rfl rfl ?_ ?_ (.tup #[] [] rfl (fun i hi => absurd hi (Nat.not_lt_zero _)))
    · intro b hb
      show (w.heap.setIfInBounds _ _)[b]? = _
      simp [Ne.symm hb]
    · intro c t f hcf
      change (w.heap.setIfInBounds _ _)[_]? = _ at hcf
      simp [hlt] at hcf
    · refine ⟨h0, ents.push { key := .int k n, val := x, born := clock }, clock + 1, ?_, ?_, ?_⟩
      · show (w.heap.setIfInBounds _ _)[_]? = _
        simp [hlt]
      · have : ents.size = es.length := by simpa using h2
        simp [this]
      · intro i hi
        have hsz : ents.size = es.length := by simpa using h2
        simp only [List.length_append, List.length_cons, List.length_nil] at hi
        by_cases hi2 : i < es.length
        · have h4 := h3 i hi2
          have e1 : ((ents.push { key := .int k n, val := x, born := clock }).map (·.key)).getD i undef = (ents.toList.getD i default).key := by
            have : i < ents.size := by omega
            simp [Array.getD_eq_getD_getElem?, List.getD_eq_getElem?_getD, Array.getElem?_push, this, Nat.ne_of_lt this]
          have e2 : ((ents.push { key := .int k n, val := x, born := clock }).map (·.val)).getD i undef = (ents.toList.getD i default).val := by
            have : i < ents.size := by omega
            simp [Array.getD_eq_getD_getElem?, List.getD_eq_getElem?_getD, Array.getElem?_push, this, Nat.ne_of_lt this]
          have e3 : (es ++ [(AV.int k n, y)]).getD i default = es.getD i default := by
            simp [List.getD_eq_getElem?_getD, List.getElem?_append_left hi2]
          rw [e1, e2, e3]
          exact ⟨h4.1.mono (fun _ _ => rfl) (fun _ h => h) (fun _ _ h => h) hcell, h4.2.mono (fun _ _ => rfl) (fun _ h => h) (fun _ _ h => h) hcell⟩
        · obtain rfl : i = es.length := by omega
          have e1 : ((ents.push { key := .int k n, val := x, born := clock }).map (·.key)).getD es.length undef = .int k n := by
            simp [Array.getD_eq_getD_getElem?, Array.getElem?_push, Array.getElem_push, hsz]
          have e2 : ((ents.push { key := .int k n, val := x, born := clock }).map (·.val)).getD es.length undef = x := by
            simp [Array.getD_eq_getD_getElem?, Array.getElem?_push, Array.getElem_push, hsz]
          have e3 : (es ++ [(AV.int k n, y)]).getD es.length default = (.int k n, y) := by
            simp [List.getD_eq_getElem?_getD]
          rw [e1, e2, e3]
          exact ⟨.int _ _, hx.mono (fun _ _ => rfl) (fun _ h => h) (fun _ _ h => h) hcell⟩

theorem ok_lookup (h : Sat E ρ V Z σ a w) {o : Oper} (hd : ∀ n, o.dst = some n → n < E.nt) {id : Nat} {t kt et : TypeId} {T Tk : TI} {ik : IntKind} (hT : ti P t = some T) (hk : T.k = .map kt et) (hTk : ti P kt = some Tk) (hkk : Tk.k = .int ik)
    {z : AV} (hz : zv P et = some z) {mid : Nat} {es : List (AV × AV)} {m key : Value} {k : IntKind} {n : Int} (hm : Rel ρ V Z w m (.mp mid)) (hkey : Rel ρ V Z w key (.int k n)) (hob : σ.hp mid = some (.map es)) {ok : Bool} {r : Option AV} (hf : findE k n es = some r)
    (hrun : execOp a.eval o = (do pure (Next.value (← Instr.lookup t m key ok)))) :
    OpOk P E o σ a w V Z id (.val (lkRes ok z r)) := by
  obtain ⟨ents, clock, h0, h1, h2, h3⟩ := map_entries (h.hs.obj _ _ hob).2
  obtain ⟨u, hu1, hu2⟩ := und_of hT
  rw [hk] at hu2
  obtain rfl := tk_map hu2
  obtain ⟨u', hu1', hu2'⟩ := und_of hTk
  rw [hkk] at hu2'
  obtain rfl := tk_int hu2'
  obtain ⟨rfl, _⟩ := hm.mp_inv'
  obtain rfl := hkey.int_inv'
  rcases find_now (ik := ik) es ents.toList 0 r h2 h3 hf with ⟨j, v, x, rfl, hfn, hv⟩ | ⟨rfl, hfn⟩
  · refine ok_val h hd (v := if ok then .tuple #[v, .bool true] else v) ?_ ?_
    · rw [hrun]
      refine run_value ?_
      unfold Instr.lookup
      simp [Go.run_underlying hu1, MapKept.run_getObj_map h1, run_checkInt hu1', MapKept.run_findKey hu1' hfn, Result.andThen]
    · cases ok
      · exact hv
      · refine .tup _ _ rfl fun i hi => ?_
        match i, hi with
        | 0, _ => exact hv
        | 1, _ => exact .bool _
  · obtain ⟨v, hv1, hv2⟩ := run_zv (w := w) hz
    refine ok_val h hd (v := if ok then .tuple #[v, .bool false] else v) ?_ ?_
    · rw [hrun]
      refine run_value ?_
      unfold Instr.lookup
      simp [Go.run_underlying hu1, MapKept.run_getObj_map h1, run_checkInt hu1', MapKept.run_findKey hu1' hfn, hv1, Result.andThen]
    · cases ok
      · exact hv2 _ _ _
      · refine .tup _ _ rfl fun i hi => ?_
        match i, hi with
        | 0, _ => exact hv2 _ _ _
        | 1, _ => exact .bool _

end Go.Am

/- The abstract machine: every operation does what the abstract machine says. -/
set_option linter.unusedVariables false
set_option linter.unusedSimpArgs false
namespace Go.Am

variable {P : Program} {E : En} {ρ : Nat → Ref} {V : Nat → Prop} {Z : Nat → Nat → Prop} {σ : St} {a : Act} {w : World}

theorem evs_rel (h : Sat E ρ V Z σ a w) : ∀ {l : List Operand} {vs : List AV}, l.mapM (evA σ) = some vs → vs.length = l.length ∧ ∀ i, i < vs.length → Rel ρ V Z w ((l.map a.eval).getD i undef) (vs.getD i default)
  | [], vs, hv => by cases evs_nil hv; exact ⟨rfl, fun i hi => absurd hi (Nat.not_lt_zero _)⟩
  | x :: l, vs, hv => by
    obtain ⟨v, ws, h1, h2, rfl⟩ := evs_cons hv
    obtain ⟨g1, g2⟩ := evs_rel h h2
    refine ⟨by simp [g1], fun i hi => ?_⟩
    cases i with
    | zero => simpa using ev_rel h h1
    | succ i => simpa using g2 i (by simpa using hi)

theorem exec_append (dst : Option Tmp) (x1 x2 : Operand) (t u ty : TypeId) (pos : String) (aft : Array Edge) (g : Option (Nat × Bool)) :
    execOp a.eval ⟨dst, .call ⟨.builtin .append, ⟨[x1, x2]⟩, ⟨[t, u]⟩⟩, ty, pos, aft, g⟩ = (do pure (Next.value (← Builtin.append_ #[t, u] ty #[a.eval x1, a.eval x2]))) := by
  have e : Array.map a.eval ⟨[x1, x2]⟩ = #[a.eval x1, a.eval x2] := by simp
  show builtin .append #[t, u] ty (Array.map (fun | .const _ => true | _ => false) ⟨[x1, x2]⟩) (Array.map a.eval ⟨[x1, x2]⟩) = _
  rw [e]
  rfl

theorem exec_len (dst : Option Tmp) (x1 : Operand) (t ty : TypeId) (pos : String) (aft : Array Edge) (g : Option (Nat × Bool)) :
    execOp a.eval ⟨dst, .call ⟨.builtin .len, ⟨[x1]⟩, ⟨[t]⟩⟩, ty, pos, aft, g⟩ = (do pure (Next.value (← Builtin.len_ #[t] ty #[a.eval x1]))) := by
  have e : Array.map a.eval ⟨[x1]⟩ = #[a.eval x1] := by simp
  show builtin .len #[t] ty (Array.map (fun | .const _ => true | _ => false) ⟨[x1]⟩) (Array.map a.eval ⟨[x1]⟩) = _
  rw [e]
  rfl

theorem Rel.bool_inv {v : Value} {b : Bool} (h : Rel ρ V Z w v (.bool b)) : v = .bool b := by
  generalize hx : AV.bool b = x at h
  cases h <;> cases hx
  rfl

theorem Rel.str_inv {v : Value} {s : ByteArray} (h : Rel ρ V Z w v (.str s)) : v = .string s := by
  generalize hx : AV.str s = x at h
  cases h <;> cases hx
  rfl

theorem Rel.iface_inv {v : Value} {t : TypeId} {y : AV} (h : Rel ρ V Z w v (.iface t y)) : ∃ u, v = .iface t u ∧ Rel ρ V Z w u y := by
  generalize hx : AV.iface t y = x at h
  cases h <;> cases hx
  exact ⟨_, rfl, ‹_›⟩

theorem Rel.tup_inv {v : Value} {l : List AV} (h : Rel ρ V Z w v (.tup l)) : ∃ cs, v = .tuple cs ∧ cs.size = l.length ∧ ∀ i, i < l.length → Rel ρ V Z w (cs.getD i undef) (l.getD i default) := by
  generalize hx : AV.tup l = x at h
  cases h <;> cases hx
  exact ⟨_, rfl, ‹_›, ‹_›⟩

theorem Rel.fn_inv {v : Value} {f : Fn} {fa ca : List AV} (h : Rel ρ V Z w v (.fn f fa ca)) : ∃ fs cs, v = .func f fs cs ∧ fs.size = fa.length ∧ cs.size = ca.length ∧
    (∀ i, i < fa.length → Rel ρ V Z w (fs.getD i undef) (fa.getD i default)) ∧ (∀ i, i < ca.length → Rel ρ V Z w (cs.getD i undef) (ca.getD i default)) := by
  generalize hx : AV.fn f fa ca = x at h
  cases h <;> cases hx
  exact ⟨_, _, rfl, ‹_›, ‹_›, ‹_›, ‹_›⟩

theorem ptr_form {v : Value} {x : AV} (hv : Rel ρ V Z w v x) {off : Nat} : (∀ id o, x = .ptr id o → (∃ b o, v = .pointer (some ⟨b, o, none⟩)) ∧ ∀ b o', v = .pointer (some ⟨b, o', none⟩) → Rel ρ V Z w (.pointer (some ⟨b, o' + off, none⟩)) (.ptr id (o + off))) ∧
    (∀ e o, x = .eptr e o → (∃ b o, v = .pointer (some ⟨b, o, none⟩)) ∧ ∀ b o', v = .pointer (some ⟨b, o', none⟩) → Rel ρ V Z w (.pointer (some ⟨b, o' + off, none⟩)) (.eptr e (o + off))) ∧
    (∀ id sz i o, x = .rptr id sz i o → (∃ b o, v = .pointer (some ⟨b, o, none⟩)) ∧ ∀ b o', v = .pointer (some ⟨b, o', none⟩) → Rel ρ V Z w (.pointer (some ⟨b, o' + off, none⟩)) (.rptr id sz i (o + off))) := by
  refine ⟨?_, ?_, ?_⟩
  · rintro id o rfl
    generalize hx : AV.ptr id o = x at hv
    cases hv <;> cases hx
    refine ⟨⟨_, _, rfl⟩, fun b o' e => ?_⟩
    cases e
    exact .ptr _ _ ‹_›
  · rintro e o rfl
    generalize hx : AV.eptr e o = x at hv
    cases hv <;> cases hx
    refine ⟨⟨_, _, rfl⟩, fun b o' e => ?_⟩
    cases e
    rw [Nat.add_assoc]
    exact .eptr _ _ _ _ _ ‹_› ‹_›
  · rintro id sz i o rfl
    generalize hx : AV.rptr id sz i o = x at hv
    cases hv <;> cases hx
    refine ⟨⟨_, _, rfl⟩, fun b o' e => ?_⟩
    cases e
    rw [Nat.add_assoc]
    exact .rptr _ _ _ _ ‹_›

set_option maxHeartbeats 4000000 in
theorem Rel.nilif_inv {v : Value} (h : Rel ρ V Z w v .nilif) : v = .nilIface := by
  generalize hx : AV.nilif = x at h
  cases h <;> cases hx
  rfl

theorem nilifA_inv {op : BinOp} {t : TypeId} {c : Bool} {x y z : AV} {ob : Prop} (h : nilifA P op t c x y = some (ob, z)) :
    x = .nilif ∧ y = .nilif ∧ c = true ∧ ∃ T, ti P t = some T ∧ T.k = .iface ∧ (op = .eql ∧ z = .bool true ∨ op = .neq ∧ z = .bool false) := by
  unfold nilifA at h
  split at h
  · split at h
    · rename_i hc
      split at h
      · rename_i hT; cases h; exact ⟨rfl, rfl, hc, _, hT, rfl, .inl ⟨rfl, rfl⟩⟩
      · rename_i hT; cases h; exact ⟨rfl, rfl, hc, _, hT, rfl, .inr ⟨rfl, rfl⟩⟩
      · cases h
    · cases h
  · cases h

theorem nilif_run {op : BinOp} {t : TypeId} {x y : Operand} {z : AV} (hc : (isC x || isC y) = true) (h : ∃ T, ti P t = some T ∧ T.k = .iface ∧ (op = .eql ∧ z = .bool true ∨ op = .neq ∧ z = .bool false)) :
    ∃ r, (do eqGuard op t x y .nilIface .nilIface; binOp op t .nilIface .nilIface : Sem Value).run P w = .ok r w ∧ Rel ρ V Z w r z := by
  obtain ⟨T, hT, hk, hop⟩ := h
  obtain ⟨u, hu1, hu2⟩ := run_underlying (w := w) hT
  rw [hk] at hu2
  have hg : ∀ op, (eqGuard op t x y .nilIface .nilIface).run P w = .ok () w := by
    intro op
    unfold eqGuard
    cases op <;> simp <;> (cases x <;> cases y <;> simp_all [isC])
  have he : (Op.equalIn (9999 + 1) t .nilIface .nilIface).run P w = .ok true w := by
    unfold Op.equalIn
    simp only [Sem.run_bind, hu1, Result.andThen_ok]
    cases u <;> simp [TK.of] at hu2 <;> rfl
  rcases hop with ⟨rfl, rfl⟩ | ⟨rfl, rfl⟩
  · refine ⟨.bool true, ?_, .bool _⟩
    simp only [Sem.run_bind, hg, Result.andThen_ok]
    show (do pure (.bool (← Op.equal t .nilIface .nilIface)) : Sem Value).run P w = _
    rw [equal_eq]
    simp only [Sem.run_bind, he, Result.andThen_ok, Sem.run_pure]
  · refine ⟨.bool false, ?_, .bool _⟩
    simp only [Sem.run_bind, hg, Result.andThen_ok]
    show (do pure (.bool (!(← Op.equal t .nilIface .nilIface))) : Sem Value).run P w = _
    rw [equal_eq]
    simp only [Sem.run_bind, he, Result.andThen_ok, Sem.run_pure]
    rfl

theorem eff_ok (h : Sat E ρ V Z σ a w) (o : Oper) (hd : ∀ n, o.dst = some n → n < E.nt) {ob : Prop} {e : Ef} (he : eff P σ o.op = some (ob, e)) (hob : ob) {id : Nat} (hid : ¬ V id) : OpOk P E o σ a w V Z id e := by
  obtain ⟨dst, op, ty, pos, aft, g⟩ := o
  simp only at he
  unfold eff at he
  cases hvs : (opnds op).mapM (evA σ) with
  | none => simp [hvs] at he
  | some vs =>
    simp only [hvs] at he
    cases op <;> simp only [effA] at he <;> try (cases he; done)
    case move x =>
      obtain ⟨v, ws, h1, h2, rfl⟩ := evs_cons hvs
      cases evs_nil h2
      cases he
      exact ok_val h hd rfl (ev_rel h h1)
    case assign x =>
      obtain ⟨v, ws, h1, h2, rfl⟩ := evs_cons hvs
      cases evs_nil h2
      cases he
      exact ok_val h hd rfl (ev_rel h h1)
    case makeMap t r =>
      cases r with
      | some _ => simp at he
      | none =>
        cases evs_nil hvs
        cases he
        exact ok_makeMap h hd hid rfl
    case insert t m kk x =>
      obtain ⟨v1, ws, h1, h2, rfl⟩ := evs_cons hvs
      obtain ⟨v2, ws, h3, h4, rfl⟩ := evs_cons h2
      obtain ⟨v3, ws, h5, h6, rfl⟩ := evs_cons h4
      cases evs_nil h6
      split at he
      · rename_i kt et s b z id' k n y es o1 o2 hT heq hos
        cases heq
        simp only [List.map_cons, List.map_nil, AV.id?, Option.bind_some, List.cons.injEq] at hos
        split at he
        · rename_i ik s' b' z' hTk
          split at he
          · rename_i hf
            cases he
            exact ok_insert h hd hT rfl hTk rfl (ev_rel h h1) (ev_rel h h3) (ev_rel h h5) hos.1 hf rfl
          · cases he
        · cases he
      · cases he
    case lookup t m kk ok =>
      obtain ⟨v1, ws, h1, h2, rfl⟩ := evs_cons hvs
      obtain ⟨v2, ws, h3, h4, rfl⟩ := evs_cons h2
      cases evs_nil h4
      split at he
      · rename_i kt et s b z id' k n es o1 hT heq hos
        cases heq
        simp only [List.map_cons, List.map_nil, AV.id?, Option.bind_some, List.cons.injEq] at hos
        split at he
        · rename_i ik s' b' z' zz hTk hz
          cases hf : findE k n es with
          | none => simp [hf] at he
          | some r =>
            simp only [hf, Option.map_some, Option.some.injEq, Prod.mk.injEq] at he
            obtain ⟨rfl, rfl⟩ := he
            exact ok_lookup h hd (id := id) hT rfl hTk rfl hz (ev_rel h h1) (ev_rel h h3) hos.1 (ok := ok) hf rfl
        · cases he
      · cases he
    case pick c x y =>
      obtain ⟨v1, ws, h1, h2, rfl⟩ := evs_cons hvs
      obtain ⟨v2, ws, h3, h4, rfl⟩ := evs_cons h2
      obtain ⟨v3, ws, h5, h6, rfl⟩ := evs_cons h4
      cases evs_nil h6
      split at he
      · rename_i b x' y' heq
        cases heq
        cases he
        have e1 : a.eval c = .bool b := (ev_rel h h1).bool_inv
        refine ok_val h hd (v := if b then a.eval x else a.eval y) (by simp [execOp, e1, asBool]) ?_
        cases b
        · exact ev_rel h h5
        · exact ev_rel h h3
      · cases he
    case alloc t =>
      cases hT : ti P t with
      | none => simp [hT] at he
      | some T =>
        obtain ⟨k, s, b, z⟩ := T
        simp only [hT] at he
        cases z with
        | none => simp at he
        | some zs =>
          simp only at he
          cases he
          exact ok_alloc h hd hid hT rfl rfl
    case box t x =>
      obtain ⟨v, ws, h1, h2, rfl⟩ := evs_cons hvs
      cases evs_nil h2
      simp only at he
      split at he
      · cases he
      · rename_i ht
        cases he
        exact ok_box h hd hid (t := t) (ev_rel h h1) (by simpa using ht) rfl
    case build t ps =>
      cases hT : ti P t with
      | none => simp [hT] at he
      | some T =>
        obtain ⟨k, s, b, z⟩ := T
        simp only [hT] at he
        cases k <;> try (simp at he; done)
        cases z <;> try (simp at he; done)
        simp only at he
        split at he
        · rename_i hall
          rename_i fs zs
          cases hf : fillA P fs zs ((ps.toList.map (·.1)).zip vs) with
          | none => simp [hf] at he
          | some l =>
            simp only [hf, Option.map_some, Option.some.injEq, Prod.mk.injEq] at he
            obtain ⟨rfl, rfl⟩ := he
            exact ok_build h hd hT rfl rfl hall hvs hf rfl
        · cases he
    case buildSlice t n ps =>
      cases hT : ti P t with
      | none => simp [hT] at he
      | some T =>
        obtain ⟨k, s, b, z⟩ := T
        simp only [hT] at he
        cases k <;> try (simp at he; done)
        rename_i el
        simp only at he
        cases hTe : ti P el with
        | none => simp [hTe] at he
        | some Te =>
          obtain ⟨k', s', b', z'⟩ := Te
          simp only [hTe] at he
          cases z' <;> try (simp at he; done)
          simp only at he
          split at he
          · rename_i hc
            obtain ⟨c1, c2, c3, c4⟩ := hc
            cases he
            exact ok_buildSlice h hd hid hT rfl hTe rfl c1 hvs c3 c2 c4 rfl
          · cases he
    case load t x =>
      cases hT : ti P t with
      | none => simp [hT] at he
      | some T =>
        simp only [hT] at he
        obtain ⟨v, ws, h1, h2, rfl⟩ := evs_cons hvs
        cases evs_nil h2
        have hv := ev_rel h h1
        split at he
        · rename_i id' off l heq1 heq2
          cases heq1
          simp only [List.map_cons, List.map_nil, List.cons.injEq, and_true, AV.id?, Option.bind_some] at heq2
          cases hx : ldA T l off with
          | none => simp [hx] at he
          | some y =>
            simp only [hx, Option.map_some, Option.some.injEq, Prod.mk.injEq] at he
            obtain ⟨rfl, rfl⟩ := he
            exact ok_load_ptr h hd hT hv heq2 hx rfl
        · rename_i e' off heq1
          cases heq1
          cases hx : ldA T e'.cells off with
          | none => simp [hx] at he
          | some y =>
            simp only [hx, Option.map_some, Option.some.injEq, Prod.mk.injEq] at he
            obtain ⟨rfl, rfl⟩ := he
            exact ok_load_eptr h hd hT hv hx rfl
        · rename_i id' sz i off sz' l heq1 heq2
          cases heq1
          simp only [List.map_cons, List.map_nil, List.cons.injEq, and_true, AV.id?, Option.bind_some] at heq2
          split at he
          · rename_i y hy
            split at he
            · rename_i hsz
              subst hsz
              cases hx : ldA T y.cells off with
              | none => simp [hx] at he
              | some y' =>
                simp only [hx, Option.map_some, Option.some.injEq, Prod.mk.injEq] at he
                obtain ⟨rfl, rfl⟩ := he
                exact ok_load_rptr h hd hT hv heq2 hy hx rfl
            · cases he
          · cases he
        · cases he
    case store t x y =>
      cases hT : ti P t with
      | none => simp [hT] at he
      | some T =>
        simp only [hT] at he
        obtain ⟨v, ws, h1, h2, rfl⟩ := evs_cons hvs
        obtain ⟨u, ws, h3, h4, rfl⟩ := evs_cons h2
        cases evs_nil h4
        have hv := ev_rel h h1
        have hu := ev_rel h h3
        split at he
        · rename_i id' off x' l o2 heq1 heq2
          cases heq1
          simp only [List.map_cons, List.map_nil, List.cons.injEq, and_true, AV.id?, Option.bind_some] at heq2
          cases hx : stA T l off u with
          | none => simp [hx] at he
          | some l' =>
            simp only [hx, Option.map_some, Option.some.injEq, Prod.mk.injEq] at he
            obtain ⟨rfl, rfl⟩ := he
            exact ok_store_ptr h hd hT hv hu heq2.1 hx rfl
        · rename_i id' sz i off x' sz' l o2 heq1 heq2
          cases heq1
          simp only [List.map_cons, List.map_nil, List.cons.injEq, and_true, AV.id?, Option.bind_some] at heq2
          split at he
          · rename_i e' hy
            split at he
            · rename_i hsz
              subst hsz
              cases hx : stA T e'.cells off u with
              | none => simp [hx] at he
              | some c =>
                simp only [hx, Option.map_some, Option.some.injEq, Prod.mk.injEq] at he
                obtain ⟨rfl, rfl⟩ := he
                exact ok_store_rptr h hd hT hv hu heq2.1 hy hx rfl
            · cases he
          · cases he
        · cases he
    case nilCheck x =>
      obtain ⟨v, ws, h1, h2, rfl⟩ := evs_cons hvs
      cases evs_nil h2
      have hv := ev_rel h h1
      simp only at he
      split at he <;> try (cases he; done)
      · rename_i i1 o1
        cases he
        obtain ⟨⟨b, o, e1⟩, _⟩ := (ptr_form (off := 0) hv).1 _ _ rfl
        exact ok_val h hd (v := a.eval x) (by simp [execOp, e1]) hv
      · rename_i e1 o1
        cases he
        obtain ⟨⟨b, o, e1⟩, _⟩ := (ptr_form (off := 0) hv).2.1 _ _ rfl
        exact ok_val h hd (v := a.eval x) (by simp [execOp, e1]) hv
      · rename_i i1 i2 i3 o1
        cases he
        obtain ⟨⟨b, o, e1⟩, _⟩ := (ptr_form (off := 0) hv).2.2 _ _ _ _ rfl
        exact ok_val h hd (v := a.eval x) (by simp [execOp, e1]) hv
      · rename_i f fa ca
        cases he
        obtain ⟨fs, cs, e1, _⟩ := hv.fn_inv
        exact ok_val h hd (v := a.eval x) (by simp [execOp, e1]) hv
    case binOp op t x y yt =>
      obtain ⟨v, ws, h1, h2, rfl⟩ := evs_cons hvs
      obtain ⟨u, ws, h3, h4, rfl⟩ := evs_cons h2
      cases evs_nil h4
      simp only at he
      cases hb : binA P op t v u with
      | none =>
        simp only [hb, Option.none_or] at he
        cases hn : nilifA P op t (isC x || isC y) v u with
        | none => simp [hn] at he
        | some r =>
          obtain ⟨ob', z⟩ := r
          simp only [hn, Option.map_some, Option.some.injEq, Prod.mk.injEq] at he
          obtain ⟨rfl, rfl⟩ := he
          obtain ⟨g1, g2, g3, g4⟩ := nilifA_inv hn
          subst g1 g2
          have e1 : a.eval x = .nilIface := (ev_rel h h1).nilif_inv
          have e2 : a.eval y = .nilIface := (ev_rel h h3).nilif_inv
          have hrr : ∃ r, (do eqGuard op t x y (a.eval x) (a.eval y); binOp op t (a.eval x) (a.eval y) : Sem Value).run P w = .ok r w ∧ Rel ρ V Z w r z := by
            rw [e1, e2]
            exact nilif_run g3 g4
          obtain ⟨r, hr, hz⟩ := hrr
          exact ok_val h hd (v := r) (run_value hr) hz
      | some r =>
        obtain ⟨ob', z⟩ := r
        simp only [hb, Option.some_or, Option.map_some, Option.some.injEq, Prod.mk.injEq] at he
        obtain ⟨rfl, rfl⟩ := he
        obtain ⟨⟨r, hr, hz⟩, g1, g2⟩ := bin_val hb hob (ev_rel h h1) (ev_rel h h3)
        refine ok_val h hd (v := r) ?_ hz
        have hrr : (do eqGuard op t x y (a.eval x) (a.eval y); binOp op t (a.eval x) (a.eval y) : Sem Value).run P w = .ok r w := by simp [eqGuard_ok ⟨g1, g2⟩, hr]
        exact run_value hrr
    case unOp op t x =>
      obtain ⟨v, ws, h1, h2, rfl⟩ := evs_cons hvs
      cases evs_nil h2
      have hv := ev_rel h h1
      simp only at he
      cases v <;> cases op <;> simp only [unA, Option.map_some, Option.map_none, Option.some.injEq, Prod.mk.injEq, reduceCtorEq] at he <;> obtain ⟨rfl, rfl⟩ := he
      · have e1 := hv.bool_inv
        refine ok_val h hd (v := .bool _) ?_ (.bool _)
        show (do pure (Next.value (← Op.unary .not (a.eval x))) : Sem Next).run P w = _
        rw [e1]; rfl
      · have e1 := hv.int_inv
        refine ok_val h hd (v := .int _ _) ?_ (.int _ _)
        show (do pure (Next.value (← Op.unary .neg (a.eval x))) : Sem Next).run P w = _
        rw [e1]; rfl
    case convert src dst' x =>
      obtain ⟨v, ws, h1, h2, rfl⟩ := evs_cons hvs
      cases evs_nil h2
      have hv := ev_rel h h1
      simp only at he
      cases hc : convA P src dst' v with
      | none => simp [hc] at he
      | some z =>
        simp only [hc, Option.map_some, Option.some.injEq, Prod.mk.injEq] at he
        obtain ⟨rfl, rfl⟩ := he
        unfold convA at hc
        split at hc
        · rename_i T1 k s b z' k' n hT1 hT2
          cases hc
          obtain ⟨u1, hu1, _⟩ := run_underlying (w := w) hT1
          obtain ⟨u2, hu2, hk⟩ := run_underlying (w := w) hT2
          have := tk_int hk
          subst this
          refine ok_val h hd (v := .int _ _) ?_ (.int _ _)
          show (do pure (Next.value (← convert src dst' (a.eval x))) : Sem Next).run P w = _
          rw [hv.int_inv]
          refine run_value ?_
          unfold convert
          simp only [Sem.run_bind, hu1, hu2, Result.andThen_ok, Conv.intToInt, Sem.run_pure]
        · rename_i T1 s b z' st hT1 hT2
          cases hc
          obtain ⟨u1, hu1, _⟩ := run_underlying (w := w) hT1
          obtain ⟨u2, hu2, hk⟩ := run_underlying (w := w) hT2
          have : u2 = .string := by cases u2 <;> simp_all [TK.of]
          subst this
          refine ok_val h hd (v := .string _) ?_ (.str _)
          show (do pure (Next.value (← convert src dst' (a.eval x))) : Sem Next).run P w = _
          rw [hv.str_inv]
          refine run_value ?_
          unfold convert
          simp only [Sem.run_bind, hu1, hu2, Result.andThen_ok, Sem.run_pure]
        · cases hc
    case makeInterface t x =>
      obtain ⟨v, ws, h1, h2, rfl⟩ := evs_cons hvs
      cases evs_nil h2
      have hv := ev_rel h h1
      split at he
      · cases he
      · rename_i v' T hni heq1 hT
        cases heq1
        cases he
        obtain ⟨u, hu1, hu2⟩ := run_underlying (w := w) hT
        refine ok_val h hd (v := .iface t (a.eval x)) ?_ (.iface _ _ _ hv)
        show (do pure (Next.value (← Instr.makeInterface t (a.eval x))) : Sem Next).run P w = _
        refine run_value ?_
        unfold Instr.makeInterface
        simp only [Sem.run_bind, hu1, Result.andThen_ok]
        cases u <;> first
          | rfl
          | (obtain ⟨k, s, b, z⟩ := T
             simp only [TK.of] at hu2
             subst hu2
             exact (hni _ _ _ rfl).elim)
      · cases he
    case makeFunc fn f c =>
      split at he
      · rename_i hlen
        cases he
        obtain ⟨g1, g2⟩ := evs_rel h hvs
        refine ok_val h hd (v := .func fn (f.map a.eval) (c.map a.eval)) rfl (.fn _ _ _ _ _ (by simp; omega) (by simp; omega) ?_ ?_)
        · intro i hi
          simp only [List.length_take] at hi
          have := g2 i (by omega)
          simp only [opnds, List.map_append, List.getD_eq_getElem?_getD] at this
          rw [List.getElem?_append_left (by simp; omega)] at this
          simpa [List.getD_eq_getElem?_getD, Array.getD_eq_getD_getElem?, List.getElem?_take, show i < f.size by omega] using this
        · intro i hi
          simp only [List.length_drop] at hi
          have := g2 (f.size + i) (by omega)
          simp only [opnds, List.map_append, List.getD_eq_getElem?_getD] at this
          rw [List.getElem?_append_right (by simp)] at this
          simpa [List.getD_eq_getElem?_getD, Array.getD_eq_getD_getElem?, List.getElem?_drop] using this
      · cases he
    case makeSlice t x y =>
      obtain ⟨v, ws, h1, h2, rfl⟩ := evs_cons hvs
      obtain ⟨u, ws, h3, h4, rfl⟩ := evs_cons h2
      cases evs_nil h4
      split at he
      · rename_i el s b z k n k' c hT heq
        cases heq
        split at he
        · rename_i k2 size bytes zs hTe
          split at he
          · rename_i hc
            cases he
            obtain ⟨o1, o2, o3, o4⟩ := hob
            exact ok_makeSlice h hd hid hT rfl hTe rfl hc.1 hc.2 o1 o2 o3 o4 (ev_rel h h1) (ev_rel h h3) rfl
          · cases he
        · cases he
      · cases he
    case slice t x lo hi mx =>
      cases mx with
      | some _ => simp at he
      | none =>
        simp only at he
        split at he
        · rename_i el s b z l' x1 x2 hT hsa
          split at he
          · rename_i Te hTe
            cases hs : sliceA l' x1 x2 with
            | none => simp [hs] at he
            | some r =>
              obtain ⟨ob', y⟩ := r
              simp only [hs, Option.map_some, Option.some.injEq, Prod.mk.injEq] at he
              obtain ⟨rfl, rfl⟩ := he
              obtain ⟨hob1, hob2⟩ := hob
              have hsl : ∀ s : Sem Value, execOp a.eval ⟨dst, .slice t x lo hi none, ty, pos, aft, g⟩ = (do pure (Next.value (← Instr.sliceAt t (a.eval x) (lo.map a.eval) (hi.map a.eval) none))) := fun _ => rfl
              cases lo <;> cases hi <;> simp only [opnds, Option.toList, List.nil_append, List.cons_append] at hvs
              · obtain ⟨v, ws, h1, h2, rfl⟩ := evs_cons hvs
                cases evs_nil h2
                simp only [sliceArgs, Option.some.injEq, Prod.mk.injEq] at hsa
                obtain ⟨rfl, rfl, rfl⟩ := hsa
                exact ok_slice h hd hT rfl hTe (ev_rel h h1) hob2 (lo := none) (hi := none) (vlo := none) (vhi := none) (fun _ h => by cases h) (fun _ => rfl) (fun _ h => by cases h) (fun _ => rfl) hs hob1 rfl
              · obtain ⟨v, ws, h1, h2, rfl⟩ := evs_cons hvs
                obtain ⟨u, ws, h3, h4, rfl⟩ := evs_cons h2
                cases evs_nil h4
                simp only [sliceArgs, Option.some.injEq, Prod.mk.injEq] at hsa
                obtain ⟨rfl, rfl, rfl⟩ := hsa
                exact ok_slice h hd hT rfl hTe (ev_rel h h1) hob2 (lo := none) (hi := some u) (vlo := none) (fun _ h => by cases h) (fun _ => rfl) (fun _ h' => ⟨_, rfl, by cases h'; exact ev_rel h h3⟩) (fun h => by cases h) hs hob1 rfl
              · obtain ⟨v, ws, h1, h2, rfl⟩ := evs_cons hvs
                obtain ⟨u, ws, h3, h4, rfl⟩ := evs_cons h2
                cases evs_nil h4
                simp only [sliceArgs, Option.some.injEq, Prod.mk.injEq] at hsa
                obtain ⟨rfl, rfl, rfl⟩ := hsa
                exact ok_slice h hd hT rfl hTe (ev_rel h h1) hob2 (lo := some u) (hi := none) (vhi := none) (fun _ h' => ⟨_, rfl, by cases h'; exact ev_rel h h3⟩) (fun h => by cases h) (fun _ h => by cases h) (fun _ => rfl) hs hob1 rfl
              · obtain ⟨v, ws, h1, h2, rfl⟩ := evs_cons hvs
                obtain ⟨u, ws, h3, h4, rfl⟩ := evs_cons h2
                obtain ⟨u', ws, h5, h6, rfl⟩ := evs_cons h4
                cases evs_nil h6
                simp only [sliceArgs, Option.some.injEq, Prod.mk.injEq] at hsa
                obtain ⟨rfl, rfl, rfl⟩ := hsa
                exact ok_slice h hd hT rfl hTe (ev_rel h h1) hob2 (lo := some u) (hi := some u') (fun _ h' => ⟨_, rfl, by cases h'; exact ev_rel h h3⟩) (fun h => by cases h) (fun _ h' => ⟨_, rfl, by cases h'; exact ev_rel h h5⟩) (fun h => by cases h) hs hob1 rfl
          · cases he
        · cases he
    case fieldAddr t x f =>
      obtain ⟨v, ws, h1, h2, rfl⟩ := evs_cons hvs
      cases evs_nil h2
      have hv := ev_rel h h1
      split at he
      · rename_i fs s b z hT
        split at he
        · rename_i ft off hf
          split at he
          · rename_i k size b' z' hTf
            split at he
            · cases he
            · rename_i hsz
              split at he
              · rename_i i1 o1 heq
                cases heq
                cases he
                obtain ⟨g1, g2⟩ := (ptr_form (off := off) hv).1 _ _ rfl
                exact ok_fieldAddr h hd hT rfl hf hTf hsz hv g2 g1 rfl
              · rename_i e1 o1 heq
                cases heq
                cases he
                obtain ⟨g1, g2⟩ := (ptr_form (off := off) hv).2.1 _ _ rfl
                exact ok_fieldAddr h hd hT rfl hf hTf hsz hv g2 g1 rfl
              · rename_i i1 i2 i3 o1 heq
                cases heq
                cases he
                obtain ⟨g1, g2⟩ := (ptr_form (off := off) hv).2.2 _ _ _ _ rfl
                exact ok_fieldAddr h hd hT rfl hf hTf hsz hv g2 g1 rfl
              · cases he
          · cases he
        · cases he
      · cases he
    case field t x f =>
      obtain ⟨v, ws, h1, h2, rfl⟩ := evs_cons hvs
      cases evs_nil h2
      have hv := ev_rel h h1
      split at he
      · rename_i fs s b z l hT heq
        cases heq
        split at he
        · rename_i ft off hf
          split at he
          · rename_i T hTf
            cases hx : ldA T l off with
            | none => simp [hx] at he
            | some y =>
              simp only [hx, Option.map_some, Option.some.injEq, Prod.mk.injEq] at he
              obtain ⟨rfl, rfl⟩ := he
              exact ok_field h hd hT rfl hf hTf hv hx rfl
          · cases he
        · cases he
      · cases he
    case indexAddr t x i =>
      obtain ⟨v, ws, h1, h2, rfl⟩ := evs_cons hvs
      obtain ⟨u, ws, h3, h4, rfl⟩ := evs_cons h2
      cases evs_nil h4
      simp only at he
      cases hx : idxA P t v u ((v.id?.bind σ.hp)) with
      | none => simp [hx] at he
      | some r =>
        obtain ⟨ob', y⟩ := r
        simp only [List.map_cons, List.getD_cons_zero, hx, Option.map_some, Option.some.injEq, Prod.mk.injEq] at he
        obtain ⟨rfl, rfl⟩ := he
        exact ok_index h hd hx hob (ev_rel h h1) (ev_rel h h3) (fun o ho => obj_of ho) rfl
    case extract x i =>
      obtain ⟨v, ws, h1, h2, rfl⟩ := evs_cons hvs
      cases evs_nil h2
      have hv := ev_rel h h1
      split at he
      · rename_i l heq
        cases heq
        cases hx : l[i]? with
        | none => simp [hx] at he
        | some y =>
          simp only [hx, Option.map_some, Option.some.injEq, Prod.mk.injEq] at he
          obtain ⟨rfl, rfl⟩ := he
          obtain ⟨cs, e1, g1, g2⟩ := hv.tup_inv
          have hlt : i < l.length := by
            rcases Nat.lt_or_ge i l.length with h | h
            · exact h
            · rw [List.getElem?_eq_none h] at hx; cases hx
          have g3 := g2 i hlt
          have e2 : l.getD i default = y := by simp [List.getD_eq_getElem?_getD, hx]
          rw [e2] at g3
          have hci : cs[i]? = some (cs.getD i undef) := by
            have : i < cs.size := by omega
            simp [Array.getD, this]
          refine ok_val h hd (v := cs.getD i undef) ?_ g3
          show (do pure (Next.value (← Instr.extract (a.eval x) i)) : Sem Next).run P w = _
          refine run_value ?_
          rw [e1]
          unfold Instr.extract
          simp only [hci, Sem.run_pure]
      · cases he
    case typeAssert x xt t ok =>
      obtain ⟨v, ws, h1, h2, rfl⟩ := evs_cons hvs
      cases evs_nil h2
      have hv := ev_rel h h1
      split at he
      · rename_i u y fs s b z heq hT
        cases heq
        split at he
        · rename_i hut
          subst hut
          obtain ⟨vv, e1, g1⟩ := hv.iface_inv
          obtain ⟨ud, hu1, hu2⟩ := run_underlying (w := w) hT
          obtain ⟨gs, rfl, _⟩ := tk_struct hu2
          have hr : (Instr.typeAssert (a.eval x) xt u ok).run P w = .ok (if ok then .tuple #[vv, .bool true] else vv) w := by
            unfold Instr.typeAssert
            rw [e1]
            simp [hu1]
          cases ok
          · simp only [Bool.false_eq_true, if_false] at he hr
            cases he
            refine ok_val h hd (v := vv) ?_ g1
            show (do pure (Next.value (← Instr.typeAssert (a.eval x) xt u false)) : Sem Next).run P w = _
            exact run_value hr
          · simp only [if_true] at he hr
            cases he
            refine ok_val h hd (v := .tuple #[vv, .bool true]) ?_ (.tup _ _ rfl ?_)
            · show (do pure (Next.value (← Instr.typeAssert (a.eval x) xt u true)) : Sem Next).run P w = _
              exact run_value hr
            · intro i hi
              match i, hi with
              | 0, _ => exact g1
              | 1, _ => exact .bool _
        · cases he
      · cases he
    case call c =>
      obtain ⟨callee, args, ts⟩ := c
      cases callee <;> (try simp only at he) <;> try (cases he; done)
      rename_i bi
      cases bi <;> (try simp only at he) <;> try (cases he; done)
      case append =>
        split at he
        · rename_i s x t u
          obtain ⟨A⟩ := args
          match A, hvs with
          | [], hvs => cases evs_nil hvs
          | [_], hvs => obtain ⟨_, _, _, h2, e⟩ := evs_cons hvs; cases evs_nil h2; cases e
          | x1 :: x2 :: x3 :: _, hvs =>
            obtain ⟨_, _, _, h2, e⟩ := evs_cons hvs
            obtain ⟨_, _, _, h3, rfl⟩ := evs_cons h2
            obtain ⟨_, _, _, h4, rfl⟩ := evs_cons h3
            cases e
          | [x1, x2], hvs =>
            obtain ⟨v, ws, h1, h2, e⟩ := evs_cons hvs
            obtain ⟨u', ws, h3, h4, rfl⟩ := evs_cons h2
            cases evs_nil h4
            cases e
            simp only [List.map_cons, List.map_nil, List.getD_cons_zero, List.getD_cons_succ] at he
            unfold appA at he
            split at he
            · rename_i el s1 b1 z1 hT
              split at he
              · rename_i Te hTe
                split at he
                · rename_i ob' xs zs hs hz
                  split at he
                  · rename_i hzl
                    split at he
                    · cases he
                      obtain ⟨o1, o2, o3⟩ := hob
                      exact ok_append_nil h hd hid hT rfl hTe hz hzl hs o1 (ev_rel h h3) (fun o ho => obj_of ho) (ty := ty) (ev_rel h h1) o2 o3 (exec_append _ _ _ _ _ _ _ _ _)
                    · rename_i id' sz l heq
                      split at he
                      · rename_i hsz
                        subst hsz
                        cases he
                        obtain ⟨o1, o2, o3⟩ := hob
                        exact ok_append_rw h hd hid hT rfl hTe hz hzl hs o1 (ev_rel h h3) (fun o ho => obj_of ho) (ty := ty) (ev_rel h h1) heq o2 o3 (exec_append _ _ _ _ _ _ _ _ _)
                      · cases he
                    · cases he
                  · cases he
                · cases he
              · cases he
            · cases he
        · cases he
      case len =>
        split at he
        · rename_i x t
          obtain ⟨A⟩ := args
          match A, hvs with
          | [], hvs => cases evs_nil hvs
          | x1 :: x2 :: _, hvs =>
            obtain ⟨_, _, _, h2, e⟩ := evs_cons hvs
            obtain ⟨_, _, _, h3, rfl⟩ := evs_cons h2
            cases e
          | [x1], hvs =>
            obtain ⟨v, ws, h1, h2, e⟩ := evs_cons hvs
            cases evs_nil h2
            obtain rfl : x = v := by simpa using e
            clear e
            simp only [List.map_cons, List.map_nil, List.getD_cons_zero, Option.map_eq_some_iff, Prod.mk.injEq] at he
            obtain ⟨y, hl, rfl, rfl⟩ := he
            unfold lenE at hl
            cases hT : ti P t with
            | none => simp [hT] at hl
            | some T =>
              simp only [hT] at hl
              cases hk : T.k <;> simp only [hk] at hl <;> try (cases hl; done)
              · split at hl
                · rename_i st _
                  cases hl
                  obtain ⟨ud, hu1, hu2⟩ := run_underlying (w := w) hT
                  rw [hk] at hu2
                  have : ud = .string := by cases ud <;> simp_all [TK.of]
                  subst this
                  refine ok_val h hd (v := .int .i64 st.size) ?_ (.int _ _)
                  rw [exec_len]
                  refine run_value ?_
                  rw [(ev_rel h h1).str_inv]
                  unfold Builtin.len_
                  simp [hu1, goInt]
                · cases hl
              · exact ok_len h hd hT hk (ty := ty) (ev_rel h h1) (fun o ho => obj_of ho) hl (exec_len _ _ _ _ _ _ _)
        · cases he

end Go.Am
