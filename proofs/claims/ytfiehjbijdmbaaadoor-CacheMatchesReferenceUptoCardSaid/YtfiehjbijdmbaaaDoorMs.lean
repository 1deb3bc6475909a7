/- A part of the proof: an abstract machine for the walks, and what the walked functions compute. -/
import Derived.Test.YtfiehjbijdmbaaaDoorMk
set_option linter.unusedVariables false
set_option linter.unusedSimpArgs false
set_option linter.unusedVariables false
set_option linter.unusedSimpArgs false
namespace Go.Am
open Go
variable {P : Program} {E : En} {Q : AEx → St → Prop} {σ : St}
theorem put_ne {a : Act} {d t : Nat} {v : Value} (h : t ≠ d) : (a.put (some d) v).eval (.tmp t) = a.eval (.tmp t) := by
 simp only [Act.put, Act.eval, Array.getD_eq_getD_getElem?, Array.getElem?_setIfInBounds_ne (Ne.symm h)]
theorem put_same {a : Act} {d : Nat} {v : Value} (h : d < a.tmps.size) : (a.put (some d) v).eval (.tmp d) = v := by
 simp [Act.put, Act.eval, h]
theorem put_size {a : Act} {d : Nat} {v : Value} : (a.put (some d) v).tmps.size = a.tmps.size := by simp [Act.put]
theorem exec_clear {a : Act} (dst : Option Tmp) (x1 : Operand) (t ty : TypeId) (pos : String) (aft : Array Edge) (g : Option (Nat × Bool)) :
    execOp a.eval ⟨dst, .call ⟨.builtin .clear, ⟨[x1]⟩, ⟨[t]⟩⟩, ty, pos, aft, g⟩ = (do pure (Next.value (← Builtin.clear_ #[t] ty #[a.eval x1]))) := by
  have e : Array.map a.eval ⟨[x1]⟩ = #[a.eval x1] := by simp
  show builtin .clear #[t] ty (Array.map (fun | .const _ => true | _ => false) ⟨[x1]⟩) (Array.map a.eval ⟨[x1]⟩) = _
  rw [e]
  rfl
theorem AW_clear {id0 d0 d1 d2 t0 t1 : Nat} {ty te y0 y1 y2 y3 : TypeId} {p0 p1 p2 p3 : String} {a0 a1 a2 a3 : Array Edge} {T Te : TI} {zs : List AV} (hT : ti P ty = some T) (hk : T.k = .slice te) (hTe : ti P te = some Te) (hz : Te.zero = some zs) (hzl : zs.length = Te.size)
    (hag : Te.k.isAgg = true ∨ Te.size = 1) (hs0 : 0 < Te.size) (hd0 : d0 < E.nt) (hd1 : d1 < E.nt) (hd2 : d2 < E.nt) (h01 : d0 ≠ d1) (ht1 : t1 ≠ d0) {rid n : Nat} {k : IntKind} {l : List AV}
    (h0 : σ.fr t0 = some (.rw rid)) (ho : σ.hp rid = some (.row Te.size l)) (h1 : σ.fr t1 = some (.int k n)) (hn : n < l.length)
    (h : Q .norm ⟨fun t => if t = d0 ∨ t = d1 ∨ t = d2 then none else σ.fr t, updo σ.hp rid (some (.row Te.size (l.take n ++ List.replicate (l.length - n) (mkElem Te zs)))), σ.nx⟩) :
    AW P E (.region id0 #[{ dst := some d0, op := .move (.tmp t0), type := y0, pos := p0, after := a0, guard := none }, { dst := some d1, op := .move (.tmp t1), type := y1, pos := p1, after := a1, guard := none },
      { dst := some d2, op := .slice ty (.tmp d0) (some (.tmp d1)) none none, type := y2, pos := p2, after := a2, guard := none }, { dst := none, op := .call ⟨.builtin .clear, #[.tmp d2], #[ty]⟩, type := y3, pos := p3, after := a3, guard := none }] false) Q σ := by
  intro ρ V Z a w hs hV
  refine wpX_region ?_
  show wpOpsIn _ _ _ _ _ [0, 1, 2, 3] a w
  have hus := run_underlying_slice (P := P) (w := w) hT hk
  obtain ⟨hVr, hobj⟩ := hs.hs.obj _ _ ho
  obtain ⟨e0, _⟩ := (hs.fr t0 _ h0).rw_inv
  have e1 := (hs.fr t1 _ h1).int_inv
  rcases hobj.row_cells' with ⟨_, hl⟩ | ⟨hnil, cs, cty, g1, g2, g3, g4, g5⟩
  · subst hl; simp at hn
  unfold Ref.slice at e0
  rw [if_neg (by simp [hnil]), g2] at e0
  generalize hb : (ρ rid).blk = b at *
  generalize hoff : (ρ rid).off = off at *
  generalize hcap : (ρ rid).cap = cap at *
  have hlt0 : d0 < a.tmps.size := by rw [hs.nt]; exact hd0
  have hlt1 : d1 < a.tmps.size := by rw [hs.nt]; exact hd1
  have hlt2 : d2 < a.tmps.size := by rw [hs.nt]; exact hd2
  generalize hA1 : a.put (some d0) (.slice (some ⟨b, off, none⟩) l.length cap) = A1
  generalize hA2 : A1.put (some d1) (.int k n) = A2
  generalize hA3 : A2.put (some d2) (.slice (some ⟨b, off + n * Te.size, none⟩) (l.length - n) (cap - n)) = A3
  have f0 : a.eval (.tmp t0) = .slice (some ⟨b, off, none⟩) l.length cap := e0
  have f1 : A1.eval (.tmp t1) = .int k n := by subst hA1; rw [put_ne ht1]; exact e1
  have f2 : A2.eval (.tmp d0) = .slice (some ⟨b, off, none⟩) l.length cap := by subst hA2 hA1; rw [put_ne h01, put_same hlt0]
  have f3 : A2.eval (.tmp d1) = .int k n := by subst hA2 hA1; rw [put_same (by rw [put_size]; exact hlt1)]
  have f4 : A3.eval (.tmp d2) = .slice (some ⟨b, off + n * Te.size, none⟩) (l.length - n) (cap - n) := by subst hA3 hA2 hA1; rw [put_same (by rw [put_size, put_size]; exact hlt2)]
  have s3 : Sat E ρ V Z ⟨fun t => if t = d0 ∨ t = d1 ∨ t = d2 then none else σ.fr t, σ.hp, σ.nx⟩ A3 w := by
    subst hA3 hA2 hA1
    refine ⟨by rw [put_size, put_size, put_size]; exact hs.nt, hs.df, fun t x hx => ?_, hs.hs, hs.ext, hs.ownd, hs.z0, hs.zn, hs.pn⟩
    simp only at hx
    split at hx
    · cases hx
    · rename_i hne
      have q0 : t ≠ d0 := fun e => hne (.inl e)
      have q1 : t ≠ d1 := fun e => hne (.inr (.inl e))
      have q2 : t ≠ d2 := fun e => hne (.inr (.inr e))
      have := hs.fr t x hx
      have e : (((a.put (some d0) (.slice (some ⟨b, off, none⟩) l.length cap)).put (some d1) (.int k n)).put (some d2) (.slice (some ⟨b, off + n * Te.size, none⟩) (l.length - n) (cap - n))).eval (.tmp t) = a.eval (.tmp t) := by
        rw [put_ne q2, put_ne q1, put_ne q0]
      have e' : (((a.put (some d0) (.slice (some ⟨b, off, none⟩) l.length cap)).put (some d1) (.int k n)).put (some d2) (.slice (some ⟨b, off + n * Te.size, none⟩) (l.length - n) (cap - n))).tmps.getD t undef = a.tmps.getD t undef := e
      rw [e']
      exact this
  obtain ⟨z, hz1, hz2⟩ := run_zero (w := w) hTe hz
  have hzs : z.cells.size = Te.size := by
    have := (mapM_avOf1 _ _ hz2).1
    rw [hzl] at this
    simpa using this
  have hbound : off + l.length * Te.size ≤ cs.size := by
    have : l.length * Te.size ≤ cap * Te.size := Nat.mul_le_mul_right _ g3
    omega
  have hsplit : l.length * Te.size = n * Te.size + (l.length - n) * Te.size := by rw [← Nat.add_mul]; congr 1; omega
  generalize hm : l.length - n = m at *
  generalize hnc : Builtin.zeroCells z.cells m = nc
  have hncs : nc.size = m * Te.size := by rw [← hnc]; simp [Builtin.zeroCells, hzs]
  have hZc : Cells ρ V Z w nc 0 Te.size (List.replicate m (mkElem Te zs)) := zero_cells hz2 hzl hag m nc (fun k hk => by rw [← hnc, getD_zeroCells _ _ _ (by rw [hzs]; exact hk), hzs])
  have hget : ∀ i, i < m → (List.replicate m (mkElem Te zs)).getD i default = mkElem Te zs := fun i hi => by simp [List.getD_eq_getElem?_getD, hi]
  obtain ⟨w', cs', r1, r2, r3, r4, r5, r6, r7, r8⟩ := storeCells_run (P := P) (b := b) nc.toList 0 (off + n * Te.size) w cs cty g1 (by simp [hncs]; omega) (by
    intro v hv
    obtain ⟨q, hq, rfl⟩ := List.getElem_of_mem hv
    have hq' : q < m * Te.size := by rw [← hncs]; simpa using hq
    have hj : q % Te.size < Te.size := Nat.mod_lt _ hs0
    have hi : q / Te.size < m := (Nat.div_lt_iff_lt_mul hs0).2 hq'
    have e := hZc.2 (q / Te.size) (q % Te.size) (by simpa using hi) hj
    have e2 : 0 + q / Te.size * Te.size + q % Te.size = q := by rw [Nat.zero_add, Nat.mul_comm]; exact Nat.div_add_mod q Te.size
    rw [e2] at e
    have e3 : nc.getD q undef = nc.toList[q] := by
      have : q < nc.size := by rw [hncs]; exact hq'
      simp [Array.getD, this]
    rw [e3] at e
    exact e.2.oneCell e.1)
  have hsep : ∀ o, ¬ Z b o := hs.hs.sep _ _ _ ho ⟨hnil, hb⟩
  have hcell : ∀ b' o, Z b' o → w'.cell? ⟨b', o, none⟩ = w.cell? ⟨b', o, none⟩ := by
    intro b' o hz
    exact cell?_of_heap (r5 b' (fun e => hsep o (e ▸ hz)))
  have hmo : ∀ {v x}, Rel ρ V Z w v x → Rel ρ V Z w' v x := fun hh => hh.mono (fun _ _ => rfl) (fun _ h => h) (fun _ _ h => h) hcell
  have hL : (l.take n ++ List.replicate m (mkElem Te zs)).length = l.length := by simp; omega
  have s4 := s3.set (d := none) (v := undef) (x := .tup []) (fun n hn => by cases hn) ho hnil (w' := w') (by rw [hb]; exact r5) r6 r7 r8 (fun c t f hc => by rw [hb, r2] at hc; cases hc; rfl) (o := .row Te.size (l.take n ++ List.replicate m (mkElem Te zs))) (by
    refine .inr ⟨hnil, cs', cty, by rw [hb]; exact r2, by rw [hL]; exact g2, by rw [hL, hcap]; exact g3, by rw [hoff, hcap, r3]; exact g4, fun i hi => ?_, fun i j hi hj => ?_⟩
    · rw [hL] at hi
      by_cases hin : i < n
      · have e : (l.take n ++ List.replicate m (mkElem Te zs)).getD i default = l.getD i default := by
          simp only [List.getD_eq_getElem?_getD]
          rw [List.getElem?_append_left (by simp; omega), List.getElem?_take, if_pos hin]
        rw [e]; exact g5.1 i hi
      · have e : (l.take n ++ List.replicate m (mkElem Te zs)).getD i default = mkElem Te zs := by
          simp only [List.getD_eq_getElem?_getD]
          rw [List.getElem?_append_right (by simp; omega)]
          simp [show i - min n l.length < m by omega]
        have := hZc.1 0 (by simp; omega)
        rw [hget 0 (by omega)] at this
        rw [e]; exact this
    · rw [hL] at hi
      rw [hoff]
      have hk := r4 (off + i * Te.size + j)
      rw [Nat.add_zero] at hk
      have hlen2 : nc.toList.length = m * Te.size := by simp [hncs]
      by_cases hin : i < n
      · have e : (l.take n ++ List.replicate m (mkElem Te zs)).getD i default = l.getD i default := by
          simp only [List.getD_eq_getElem?_getD]
          rw [List.getElem?_append_left (by simp; omega), List.getElem?_take, if_pos hin]
        have hle : (i + 1) * Te.size ≤ n * Te.size := Nat.mul_le_mul_right _ hin
        rw [Nat.add_mul] at hle
        rw [if_neg (by omega)] at hk
        rw [e, hk]
        exact ⟨(g5.2 i j hi hj).1, hmo (g5.2 i j hi hj).2⟩
      · have e : (l.take n ++ List.replicate m (mkElem Te zs)).getD i default = mkElem Te zs := by
          simp only [List.getD_eq_getElem?_getD]
          rw [List.getElem?_append_right (by simp; omega)]
          simp [show i - min n l.length < m by omega]
        have hle : n * Te.size ≤ i * Te.size := Nat.mul_le_mul_right _ (by omega)
        have hlt : (i + 1) * Te.size ≤ l.length * Te.size := Nat.mul_le_mul_right _ hi
        rw [Nat.add_mul] at hlt
        have hsub : (i - n) * Te.size = i * Te.size - n * Te.size := Nat.sub_mul ..
        rw [if_pos (by omega)] at hk
        have h2 := hZc.2 (i - n) j (by simp; omega) hj
        rw [hget (i - n) (by omega)] at h2
        have e3 : nc.toList.getD (off + i * Te.size + j - (off + n * Te.size)) undef = nc.getD (0 + (i - n) * Te.size + j) undef := by
          rw [show off + i * Te.size + j - (off + n * Te.size) = 0 + (i - n) * Te.size + j by omega]
          simp [Array.getD_eq_getD_getElem?, List.getD_eq_getElem?_getD]
        rw [e, hk, e3]
        exact ⟨h2.1, hmo h2.2⟩) (.tup #[] [] rfl (fun i hi => absurd hi (Nat.not_lt_zero _)))
  show Oper.wpIn _ _ _ _ _ _ _ _
  refine wpIn_intro (res := .ok (.value (.slice (some ⟨b, off, none⟩) l.length cap)) w) (fun c => by simp) ?_ ?_
  · change (execOp a.eval ({ dst := some d0, op := .move (.tmp t0), type := y0, pos := p0, after := a0, guard := none } : Oper)).run P w = _
    simp only [execOp, f0]
    rfl
  show Oper.wpIn _ _ _ _ (a.put (some d0) (.slice (some ⟨b, off, none⟩) l.length cap)) _ _ _
  rw [hA1]
  refine wpIn_intro (res := .ok (.value (.int k n)) w) (fun c => by simp) ?_ ?_
  · change (execOp A1.eval ({ dst := some d1, op := .move (.tmp t1), type := y1, pos := p1, after := a1, guard := none } : Oper)).run P w = _
    simp only [execOp, f1]
    rfl
  show Oper.wpIn _ _ _ _ (A1.put (some d1) (.int k n)) _ _ _
  rw [hA2]
  refine wpIn_intro (res := .ok (.value (.slice (some ⟨b, off + n * Te.size, none⟩) m (cap - n))) w) (fun c => by simp) ?_ ?_
  · change (execOp A2.eval ({ dst := some d2, op := .slice ty (.tmp d0) (some (.tmp d1)) none none, type := y2, pos := p2, after := a2, guard := none } : Oper)).run P w = _
    show (do pure (Next.value (← Instr.sliceAt ty (A2.eval (.tmp d0)) (some (A2.eval (.tmp d1))) none none)) : Sem Next).run P w = _
    refine run_value ?_
    rw [f2, f3]
    have hbd : (Instr.sliceBound (.int k n) l.length .sliceB).run P w = .ok n w := by
      unfold Instr.sliceBound
      simp only [asIntOf, Sem.run_bind, Sem.run_pure, Result.andThen_ok]
      rw [if_pos ⟨by omega, by omega⟩]
      rfl
    have hsb : (Instr.sliceBounds true l.length cap (some (.int k n)) none none).run P w = .ok (n, l.length, cap) w := by simp [Instr.sliceBounds, hbd]
    unfold Instr.sliceAt Instr.slice
    simp only [Sem.run_bind, hus, Result.andThen_ok, hsb, run_sizeOf hTe, Sem.run_pure, if_neg (show ¬ cap = n by omega), hm, Option.map_some, addr_add]
  show Oper.wpIn _ _ _ _ (A2.put (some d2) (.slice (some ⟨b, off + n * Te.size, none⟩) m (cap - n))) _ _ _
  rw [hA3]
  refine wpIn_intro (res := .ok (.value (.tuple #[])) w') (fun c => by simp) ?_ ?_
  · change (execOp A3.eval ({ dst := none, op := .call ⟨.builtin .clear, #[.tmp d2], #[ty]⟩, type := y3, pos := p3, after := a3, guard := none } : Oper)).run P w = _
    rw [show execOp A3.eval ({ dst := none, op := .call ⟨.builtin .clear, #[.tmp d2], #[ty]⟩, type := y3, pos := p3, after := a3, guard := none } : Oper) = _ from exec_clear none (.tmp d2) ty y3 p3 a3 none, f4]
    refine run_value ?_
    obtain ⟨m', hm'⟩ : ∃ m', m = m' + 1 := ⟨m - 1, by omega⟩
    unfold Builtin.clear_
    subst hm'
    simp only [List.getElem?_toArray, List.getElem?_cons_zero, Sem.run_bind, hus, Result.andThen_ok, hz1, hnc, r1, Sem.run_pure]
  · exact ⟨ρ, V, Z, _, .norm, trivial, h, s4, fun _ => hV⟩
end Go.Am
