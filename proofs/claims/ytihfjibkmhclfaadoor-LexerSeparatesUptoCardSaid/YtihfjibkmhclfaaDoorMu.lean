/- A part of the proof: an abstract machine for the walks, and what the walked functions compute. -/
import Derived.Laws.RangeString
import Derived.Test.YtihfjibkmhclfaaDoorMp
set_option linter.unusedVariables false
set_option linter.unusedSimpArgs false
set_option linter.unusedVariables false
set_option linter.unusedSimpArgs false
namespace Go.Am
open Go
open Go.ChangeMaps (setBlock)
variable {P : Program} {E : En} {ρ : Nat → Ref} {V : Nat → Prop} {Z : Nat → Nat → Prop} {σ : St} {a : Act} {w : World}
theorem ObjRel.noits {id : Nat} {o : AObj} (h : ObjRel ρ V Z w id o) {b : Nat} (hb : (ρ id).at b) (s : ByteArray) (pos : Nat) : w.heap[b]? ≠ some (.stringIter s pos) := by
 obtain ⟨hn, rfl⟩ := hb
 cases o with
 | cells l => obtain ⟨_, cs, ty, h1, _⟩ := h; rw [h1]; simp
 | row sz l =>
  rcases h with ⟨h0, _⟩ | ⟨_, cs, ty, h1, _⟩
  ·rw [hn] at h0; cases h0
  ·rw [h1]; simp
 | map es => obtain ⟨_, cs, ty, h1, _⟩ := h; rw [h1]; simp
 | lp q l => obtain ⟨_, _, tmps, ds, h1, _⟩ := h; rw [h1]; simp
theorem body_envS {frs : Nat → Option AV} {hp : Nat → Option AObj} {N : Nat} (h : Sat E ρ V Z ⟨frs, hp, N⟩ a w) (hV : ∀ id, V id → id < N) (hnp : E.np ≤ N) (hall : ∀ id, id < N → V id)
    (hfrs : ∀ t x, frs t = some x → x.ids (· < N)) (hH : ∀ id o, hp id = some o → id < N ∧ o.ids (· < N)) {it kt : Nat} (hit0 : frs it = none) {k : AV} {r pos : Nat} {s : ByteArray} (hk : k.clo = true)
    (hkr : Rel ρ V Z w (a.eval (.tmp kt)) k) (hit : a.eval (.tmp it) = .pointer (some ⟨r, 0, none⟩)) (hir : w.heap[r]? = some (.stringIter s pos)) (hZr : ∀ o, ¬ Z r o) (hr0 : E.w0.heap.size ≤ r)
    {c : Code} {hp2 : Nat → Option AObj} (hH2 : ∀ id o, hp2 id = some o → id < N ∧ o.ids (· < N)) {Q : Exit → Act → World → Prop}
    (hb : ∀ E' : En, E'.nt = E.nt → E'.np = N + 1 → AW P E' c (fun e σ' => e = .norm ∧ ∃ m, Ent (N + 1) m σ' ⟨upd frs it (.ptr N 0), hp2, N + 1⟩) (roundSt frs it kt N hp k))
    (hQ : ∀ ρ' V' Z' a' w', Sat E ρ' V' Z' ⟨frs, hp2, N⟩ a' w' → (∀ id, V' id → id < N) → (∀ id, id < N → V' id ∧ ρ' id = ρ id) → a'.eval (.tmp it) = .pointer (some ⟨r, 0, none⟩) → w'.heap[r]? = w.heap[r]? → (∀ o, ¬ Z' r o) → Q .normal a' w') :
    wpX P E.rd E.ex c Q a w := by
  have hrlt : r < w.heap.size := (Array.getElem?_eq_some_iff.1 hir).1
  have hsub : ∀ id o, hp id = some o → hp id = some o := fun id o ho => ho
  have hrno : ∀ id o, hp id = some o → ¬ (ρ id).at r := fun id o ho hat => (h.hs.obj id o ho).2.noits hat _ _ hir
  let ρ' : Nat → Ref := fun i => if i = N then { blk := r } else ρ i
  let V' : Nat → Prop := fun i => V i ∨ i = N
  have hρ : ∀ id, V id → ρ' id = ρ id := fun id hid => if_neg (by have := hV id hid; omega)
  let E' : En := ⟨E.nt, a.defers, w, OwnB ρ hp, Z, N + 1, ρ', E.rd, false, E.ex⟩
  have hfr' : ∀ t x, (roundSt frs it kt N hp k).fr t = some x → Rel ρ' V' Z w (a.tmps.getD t undef) x := by
    intro t x hx
    simp only [roundSt, upd] at hx
    split at hx
    · rename_i e
      cases hx
      have : a.tmps.getD t undef = a.eval (.tmp kt) := by rw [e]; simp [Act.eval, Array.getD_eq_getD_getElem?]
      rw [this]
      exact clo_rel hkr hk _ _
    · split at hx
      · rename_i e
        cases hx
        have : a.tmps.getD t undef = .pointer (some ⟨r, 0, none⟩) := by rw [← hit, e]; simp [Act.eval, Array.getD_eq_getD_getElem?]
        rw [this]
        have e2 : (ρ' N).blk = r := by simp [ρ']
        have := Rel.ptr (ρ := ρ') (V := V') (Z := Z) (w := w) N 0 (.inr rfl)
        rw [e2] at this
        exact this
      · exact (h.fr t x hx).mono hρ (fun _ h => .inl h) (fun _ _ h => h) (fun _ _ _ => rfl)
  have hS' : Sat E' ρ' V' Z (roundSt frs it kt N hp k) a w := by
    refine ⟨h.nt, ⟨[], rfl, ⟨by simp, by simp⟩, fun _ => rfl⟩, hfr', ⟨fun id o ho => ?_, fun id id' o o' b ho ho' hb hb' => ?_, fun id o b ho hb => ?_, h.hs.lt, h.hs.gl⟩, ⟨fun _ _ _ => rfl, Nat.le_refl _, rfl, rfl, trivial⟩, fun id o b ho hb hlt => ?_, fun _ _ h => h, fun _ _ h => .inl h, fun id hid => ⟨?_, rfl⟩⟩
    · obtain ⟨g1, g2⟩ := h.hs.obj id o (hsub id o ho)
      exact ⟨.inl g1, g2.mono g1 hρ (fun _ h => .inl h) (fun _ _ h => h) (fun _ _ _ => rfl) (fun _ _ => rfl)⟩
    · rw [hρ id (h.hs.obj id o (hsub id o ho)).1] at hb
      rw [hρ id' (h.hs.obj id' o' (hsub id' o' ho')).1] at hb'
      exact h.hs.inj id id' o o' b (hsub id o ho) (hsub id' o' ho') hb hb'
    · rw [hρ id (h.hs.obj id o (hsub id o ho)).1] at hb
      exact h.hs.sep id o b (hsub id o ho) hb
    · rw [hρ id (h.hs.obj id o (hsub id o ho)).1] at hb
      exact ⟨id, o, ho, hb⟩
    · have hid' : id < N + 1 := hid
      by_cases e : id = N
      · exact .inr e
      · exact .inl (hall id (by omega))
  have hbody := hb E' rfl rfl ρ' V' Z a w hS' (fun id hid => by rcases hid with h1 | h1 <;> first | (have := hV id h1; show id < N + 1; omega) | (show id < N + 1; omega))
  refine wpX_mono ?_ hbody
  rintro e a2 w2 ⟨ρ2, V2, Z2, σ2, x2, k1, ⟨rfl, m, he⟩, k3, k4⟩
  cases e <;> simp only [ExR] at k1
  have k5 := k3.ent he
  generalize hr3 : (fun i => ρ2 (m i)) = ρ3 at k5
  generalize hV3 : (fun i => i < (⟨upd frs it (.ptr N 0), hp2, N + 1⟩ : St).nx ∧ V2 (m i)) = V3 at k5
  have hpn : ∀ id, id < N → V3 id ∧ ρ3 id = ρ id := fun id hid => by
    obtain ⟨g1, g2⟩ := k5.pn id (show id < N + 1 by omega)
    exact ⟨g1, g2.trans (if_neg (by omega))⟩
  have hownlt : ∀ b, OwnB ρ hp b → b < E.w0.heap.size → E.own b := by
    rintro b ⟨id, o, g1, g2⟩ hlt
    exact h.ownd id o b (hsub id o g1) g2 hlt
  have hown : ∀ b, OwnB ρ hp b → b < w.heap.size := by
    rintro b ⟨id, o, g1, g2⟩
    exact (h.hs.obj id o (hsub id o g1)).2.lt b g2
  have hkeep : ∀ b, b < w.heap.size → ¬ OwnB ρ hp b → w2.heap[b]? = w.heap[b]? := k5.ext.old
  have hkr : w2.heap[r]? = w.heap[r]? := hkeep r hrlt (fun ⟨id, o, g1, g2⟩ => hrno id o (hsub id o g1) g2)
  have hZ : ∀ b o, Z b o → Z2 b o := k5.z0
  have hcell : ∀ b o, Z b o → w2.cell? ⟨b, o, none⟩ = w.cell? ⟨b, o, none⟩ := fun b o hz => cell?_of_heap (hkeep b (h.hs.lt b o hz) (fun ⟨id, ob, g1, g2⟩ => h.hs.sep id ob b (hsub id ob g1) g2 o hz))
  have hZ2n : ∀ b o, Z2 b o → Z b o ∨ w.heap.size ≤ b ∨ OwnB ρ hp b := k5.zn
  have hEXT : Ext E.w0 w2 E.own := h.ext.trans k5.ext hownlt hown
  have hfull : Sat E ρ3 (fun i => i < N ∧ V3 i) Z2 ⟨frs, hp2, N⟩ a2 w2 := by
    have hobj : ∀ id o, hp2 id = some o → ObjRel ρ3 (fun i => i < N ∧ V3 i) Z2 w2 id o := fun id o ho => by
      obtain ⟨g1, g2⟩ := k5.hs.obj id o ho
      obtain ⟨g3, g4⟩ := hH2 id o ho
      have := obj_fwd (ρ' := ρ3) (V' := fun i => i < N ∧ V3 i) (fun i => i) (n := N) (fun id hid hv => ⟨⟨hid, hv⟩, rfl⟩) g3 g1 g4 g2
      rw [oren_id] at this
      exact this
    refine ⟨k5.nt, ?_, fun t x hx => ?_, ⟨fun id o ho => ?_, fun id id' o o' b ho ho' hb hb' => ?_, fun id o b ho hb => ?_, k5.hs.lt, k5.hs.gl⟩, hEXT, fun id o b ho hb hlt => ?_, fun b o hz => hZ _ _ (h.z0 b o hz), fun b o hz => ?_, fun id hid => ?_⟩
    · obtain ⟨M, m1, ⟨m2, m3⟩, m4⟩ := h.df
      have hd2 : a2.defers = a.defers := k5.df.none rfl
      refine ⟨M, by rw [hd2]; exact m1, ⟨m2, fun d hd => ?_⟩, m4⟩
      obtain ⟨b, e, hb, hw⟩ := m3 d hd
      refine ⟨b, e, ?_, hw⟩
      rw [hkeep b (Array.getElem?_eq_some_iff.1 hb).1]
      · exact hb
      · rintro ⟨id, o, g1, g2⟩
        exact (h.hs.obj id o (hsub id o g1)).2.kind g2 _ hb
    · have hx : frs t = some x := hx
      have hne : t ≠ it := fun e => by rw [e, hit0] at hx; cases hx
      have := k5.fr t x (by show upd frs it _ t = _; simp only [upd, if_neg hne]; exact hx)
      have := rel_fwd (ρ' := ρ3) (V' := fun i => i < N ∧ V3 i) (fun i => i) (n := N) (fun id hid hv => ⟨⟨hid, hv⟩, rfl⟩) x _ (hfrs t x hx) this
      rw [ren_id] at this
      exact this
    · exact ⟨⟨(hH2 id o ho).1, (hpn _ (hH2 id o ho).1).1⟩, hobj id o ho⟩
    · exact k5.hs.inj id id' o o' b ho ho' hb hb'
    · exact k5.hs.sep id o b ho hb
    · exact hownlt b (k5.ownd id o b ho hb (Nat.lt_of_lt_of_le hlt h.ext.le)) hlt
    · rcases hZ2n b o hz with g | g | g
      · exact h.zn b o g
      · exact .inr (.inl (Nat.le_trans h.ext.le g))
      · rcases Nat.lt_or_ge b E.w0.heap.size with h1 | h1
        · exact .inr (.inr (hownlt b g h1))
        · exact .inr (.inl h1)
    · have hid' : id < N := by omega
      refine ⟨⟨hid', (hpn id hid').1⟩, ?_⟩
      rw [(hpn id hid').2]
      exact (h.pn id hid).2
  refine hQ ρ3 _ Z2 a2 w2 hfull (fun id hid => hid.1) (fun id hid => ⟨⟨hid, (hpn id hid).1⟩, (hpn id hid).2⟩) ?_ hkr (fun o hz => ?_)
  · have h1 := k5.fr it (.ptr N 0) (by show upd frs it (.ptr N 0) it = _; simp [upd])
    obtain ⟨h2, _⟩ := h1.ptr_inv
    have h3 : (ρ3 N).blk = r := by
      rw [(k5.pn N (show N < N + 1 by omega)).2]
      simp [E', ρ']
    rw [h3] at h2
    rw [← h2]
    simp [Act.eval, Array.getD_eq_getD_getElem?]
  · rcases hZ2n r o hz with g | g | ⟨id, ob, g1, g2⟩
    · exact hZr o g
    · omega
    · exact hrno id ob (hsub id ob g1) g2
theorem run_next_s (w : World) (s : ByteArray) (pos : Nat) (ty : TypeId) (r : Nat) (hr : w.heap[r]? = some (.stringIter s pos)) :
    (Instr.next (.pointer (some ⟨r, 0, none⟩)) true ty).run P w = if h : pos < s.size then (if (s[pos]'h).toNat < 128 then .ok (.tuple #[.bool true, goInt pos, .int .i32 ((s[pos]'h).toNat : Int)]) (setBlock w r (.stringIter s (pos + 1))) else (Instr.next (.pointer (some ⟨r, 0, none⟩)) true ty).run P w) else .ok (.tuple #[.bool false]) w := by
  have hlt : r < w.heap.size := (Array.getElem?_eq_some_iff.1 hr).1
  split
  · rename_i h
    split
    · rename_i ha
      simp only [Instr.next, getObj, setObj, Sem.run_bind, Sem.run, hr, Result.andThen, h, if_true, decode_ascii s pos h ha]
      simp [goInt, Sem.run, hr, setBlock]
    · rfl
  · rename_i h
    simp [Instr.next, getObj, Sem.run, hr, h]
theorem AW_rangeStr {Q : AEx → St → Prop} {id0 id3 id4 bl bl2 it d13 d14 d16 kt : Nat} {mt y2 y3 y4 y6 y7 : TypeId} {p2 p3 p4 p6 p7 : String} {a2 a3 a4 a6 a7 : Array Edge} {BODY : Code}
    (frs : Nat → Option AV) (H : Nat → Nat → Option AObj) (N : Nat) (s : ByteArray) (hu : P.underlying mt = some .string) (hnp : E.np ≤ N)
    (hasc : ∀ (i : Nat) (h : i < s.size), (s[i]'h).toNat < 128) (hfrs : ∀ t x, frs t = some x → x.ids (· < N)) (hH : ∀ n id o, H n id = some o → id < N ∧ o.ids (· < N))
    (hall : ∀ id, id < N → ∃ o, H 0 id = some o) (hdis : [it, d13, d14, d16, kt].Nodup) (hlt : ∀ t, t ∈ [it, d13, d14, d16, kt] → t < E.nt) (hno : ∀ t, t ∈ [it, d13, d14, d16, kt] → frs t = none)
    (hst : (∀ t x, frs t = some x → σ.fr t = some x) ∧ ∀ id o, H 0 id = some o → σ.hp id = some o)
    (hbody : ∀ i (h : i < s.size), ∀ E' : En, E'.nt = E.nt → E'.np = N + 1 → AW P E' BODY (fun e σ' => e = .norm ∧ ∃ m, Ent (N + 1) m σ' ⟨upd frs it (.ptr N 0), H (i + 1), N + 1⟩) (roundSt frs it kt N (H i) (.int .i32 ((s[i]'h).toNat : Int))))
    (hend : Q .norm ⟨frs, H s.size, N⟩) :
    AW P E (.seq (.region id0 #[⟨some it, .range mt (.const (.string s)), y2, p2, a2, none⟩] false)
      (.block bl (.loop (.seq (.region id3 #[⟨some d13, .next (.tmp it) true, y3, p3, a3, none⟩, ⟨some d14, .extract (.tmp d13) 0, y4, p4, a4, none⟩] false)
        (.seq (.cond (.tmp d14) .skip (.exit bl)) (.block bl2 (.seq (.region id4 #[⟨some d16, .extract (.tmp d13) 2, y6, p6, a6, none⟩, ⟨some kt, .assign (.tmp d16), y7, p7, a7, none⟩] false) BODY))))))) Q σ := by
  intro ρ V Z a w hs hV
  have hm : ∀ t, t ∈ [it, d13, d14, d16, kt] → t < E.nt ∧ frs t = none := fun t ht => ⟨hlt t ht, hno t ht⟩
  simp only [List.mem_cons, List.not_mem_nil, or_false, forall_eq_or_imp, forall_eq] at hm
  obtain ⟨⟨l1, n1⟩, ⟨l2, n2⟩, ⟨l3, n3⟩, ⟨l5, n5⟩, ⟨l6, n6⟩⟩ := hm
  simp only [List.nodup_cons, List.mem_cons, List.not_mem_nil, or_false, not_or, List.nodup_nil, and_true, not_false_eq_true] at hdis
  obtain ⟨⟨q1, q2, q4, q5⟩, ⟨q6, q8, q9⟩, ⟨q11, q12⟩, q15⟩ := hdis
  have hS3 := hs.ent (m := fun i => i) (σ' := ⟨frs, H 0, N⟩) ⟨fun t x hx => ⟨by rw [ren_id]; exact hst.1 t x hx, hfrs t x hx⟩, fun id o ho => ⟨by rw [oren_id]; exact hst.2 id o ho, hH 0 id o ho⟩, fun _ _ _ _ _ _ e => e, fun id hid => ⟨rfl, show id < N by omega⟩⟩
  refine wpX_seq (wpX_region ?_)
  show wpOpsIn _ _ _ _ _ [0] a w
  show Oper.wpIn _ _ _ _ _ _ _ _
  refine wpIn_intro (res := .ok (.value (.pointer (some ⟨w.heap.size, 0, none⟩))) (w.alloc (.stringIter s 0))) (fun c => by simp) ?_ ?_
  · change (execOp a.eval ({ dst := some it, op := .range mt (.const (.string s)), type := y2, pos := p2, after := a2, guard := none } : Oper)).run P w = _
    have e1 : a.eval (.const (.string s)) = .string s := rfl
    simp only [execOp, e1, Sem.run_bind, run_range_string w mt s hu, Result.andThen]
    rfl
  show wpX P E.rd E.ex (.block bl _) _ _ _
  have hS4 := hS3.beside (r := w.heap.size) (w' := w.alloc (.stringIter s 0)) hS3.ext.le (fun id o ho hat => by have := (hS3.hs.obj id o ho).2.lt _ hat; omega) (fun o hz => by have := hS3.hs.lt _ o hz; omega)
    (fun ds h => by rw [Array.getElem?_eq_none (Nat.le_refl _)] at h; cases h) (fun b hb _ => alloc_old hb) (by rw [World.size_alloc]; omega) rfl rfl
  have hS5 := hS4.slot n1 (.pointer (some ⟨w.heap.size, 0, none⟩))
  refine wpX_block (wp_loop_rel (fun n a w => ∃ (ρ : Nat → Ref) (V : Nat → Prop) (Z : Nat → Nat → Prop) (i r : Nat), Sat E ρ V Z ⟨frs, H i, N⟩ a w ∧ (∀ id, V id → id < N) ∧ (∀ id, id < N → V id) ∧
    a.eval (.tmp it) = .pointer (some ⟨r, 0, none⟩) ∧ w.heap[r]? = some (.stringIter s i) ∧ E.w0.heap.size ≤ r ∧ (∀ o, ¬ Z r o) ∧ i ≤ s.size ∧ n = s.size - i)
    (n := s.size) ⟨_, _, _, 0, w.heap.size, hS5, fun id hid => hid.1, fun id hid => ⟨hid, ?_⟩, put_eval_same (by rw [hs.nt]; exact l1), World.alloc_heap_new _ _, hS3.ext.le, fun o hz => by have := hS3.hs.lt _ o hz; omega, Nat.zero_le _, by omega⟩ ?_)
  · obtain ⟨o, ho⟩ := hall id hid
    exact (hS3.hs.obj id o ho).1.2
  clear hS5 hs hS3 hS4 hV
  rintro n a w ⟨ρ, V, Z, i, r, hS, hV, hVa, hit, hr, hr0, hZr, hi, rfl⟩
  have hno' : ∀ id o, H i id = some o → ¬ (ρ id).at r := fun id o ho hat => (hS.hs.obj id o ho).2.noits hat _ _ hr
  refine wpX_seq (wpX_region ?_)
  show wpOpsIn _ _ _ _ _ [0, 1] a w
  show Oper.wpIn _ _ _ _ _ _ _ _
  have hrun := run_next_s (P := P) w s i y3 r hr
  by_cases hlt : i < s.size
  case neg =>
    rw [dif_neg hlt] at hrun
    refine wpIn_intro (res := .ok (.value (.tuple #[.bool false])) w) (fun c => by simp) ?_ ?_
    · change (execOp a.eval ({ dst := some d13, op := .next (.tmp it) true, type := y3, pos := p3, after := a3, guard := none } : Oper)).run P w = _
      simp only [execOp, hit, Sem.run_bind, hrun, Result.andThen]
      rfl
    show Oper.wpIn _ _ _ _ _ _ _ _
    have e1 : (a.put (some d13) (.tuple #[.bool false])).eval (.tmp d13) = .tuple #[.bool false] := put_eval_same (by rw [hS.nt]; exact l2)
    refine wpIn_intro (res := .ok (.value (.bool false)) w) (fun c => by simp) ?_ ?_
    · change (execOp (a.put (some d13) (.tuple #[.bool false])).eval ({ dst := some d14, op := .extract (.tmp d13) 0, type := y4, pos := p4, after := a4, guard := none } : Oper)).run P w = _
      simp only [execOp, e1]
      rfl
    have hS6 := (hS.slot n2 (.tuple #[.bool false])).slot n3 (.bool false)
    show wpX P E.rd E.ex (.seq (.cond (.tmp d14) .skip (.exit bl)) _) _ _ _
    refine wpX_seq (wpX_cond_false (put_eval_same (by rw [putS, hS.nt]; exact l3)) (wpX_exit ?_))
    show (Exit.inBlock bl (Post E Q)) (.exit bl) _ _
    simp only [Exit.inBlock, if_true]
    obtain rfl : i = s.size := by omega
    exact ⟨ρ, V, Z, _, .norm, trivial, hend, hS6, fun _ id hid => hV id hid⟩
  rw [dif_pos hlt, if_pos (hasc i hlt)] at hrun
  generalize hc : ((s[i]'hlt).toNat : Int) = c at hrun
  generalize hw2 : setBlock w r (.stringIter s (i + 1)) = w2' at hrun
  have hset := MapKept.heap_set (o' := .stringIter s (i + 1)) hr
  have hwr : w2'.heap[r]? = some (.stringIter s (i + 1)) := by rw [← hw2]; exact hset.1
  have hwo : ∀ b, b ≠ r → w2'.heap[b]? = w.heap[b]? := fun b hne => by rw [← hw2]; exact hset.2 b hne
  have hwsz : w2'.heap.size = w.heap.size := by rw [← hw2]; simp [setBlock]
  have hS6 := hS.beside (r := r) (w' := w2') hr0 hno' hZr (fun ds h => by rw [hr] at h; cases h) (fun b _ hne => hwo b hne) (by omega) (by rw [← hw2]; rfl) (by rw [← hw2]; rfl)
  refine wpIn_intro (res := .ok (.value (.tuple #[.bool true, goInt i, .int .i32 c])) w2') (fun c => by simp) ?_ ?_
  · change (execOp a.eval ({ dst := some d13, op := .next (.tmp it) true, type := y3, pos := p3, after := a3, guard := none } : Oper)).run P w = _
    simp only [execOp, hit, Sem.run_bind, hrun, Result.andThen]
    rfl
  change Oper.wpIn (rfn E.rd) 0 P ⟨some d14, .extract (.tmp d13) 0, y4, p4, a4, none⟩ (a.put (some d13) (.tuple #[.bool true, goInt i, .int .i32 c])) w2' _ _
  have hS7 := hS6.slot n2 (.tuple #[.bool true, goInt i, .int .i32 c])
  have i7 : (a.put (some d13) (.tuple #[.bool true, goInt i, .int .i32 c])).eval (.tmp it) = .pointer (some ⟨r, 0, none⟩) := by rw [put_eval_ne q1]; exact hit
  have e1 : (a.put (some d13) (.tuple #[.bool true, goInt i, .int .i32 c])).eval (.tmp d13) = .tuple #[.bool true, goInt i, .int .i32 c] := put_eval_same (by rw [hS.nt]; exact l2)
  generalize a.put (some d13) (.tuple #[.bool true, goInt i, .int .i32 c]) = u7 at hS7 i7 e1
  refine wpIn_intro (res := .ok (.value (.bool true)) w2') (fun c => by simp) ?_ ?_
  · change (execOp u7.eval ({ dst := some d14, op := .extract (.tmp d13) 0, type := y4, pos := p4, after := a4, guard := none } : Oper)).run P w2' = _
    simp only [execOp, e1]
    rfl
  have hS8 := hS7.slot n3 (.bool true)
  have i8 : (u7.put (some d14) (.bool true)).eval (.tmp it) = .pointer (some ⟨r, 0, none⟩) := by rw [put_eval_ne q2]; exact i7
  have e8 : (u7.put (some d14) (.bool true)).eval (.tmp d14) = .bool true := put_eval_same (by rw [hS7.nt]; exact l3)
  have e9 : (u7.put (some d14) (.bool true)).eval (.tmp d13) = .tuple #[.bool true, goInt i, .int .i32 c] := by rw [put_eval_ne q6]; exact e1
  change wpX P E.rd E.ex (.seq (.cond (.tmp d14) .skip (.exit bl)) _) _ (u7.put (some d14) (.bool true)) _
  generalize u7.put (some d14) (.bool true) = u8 at hS8 i8 e8 e9
  refine wpX_seq (wpX_cond_true e8 (wpX_skip ?_))
  show wpX P E.rd E.ex (.block bl2 _) _ _ _
  refine wpX_block (wpX_seq (wpX_region ?_))
  show wpOpsIn _ _ _ _ _ [0, 1] u8 w2'
  change Oper.wpIn (rfn E.rd) 0 P ⟨some d16, .extract (.tmp d13) 2, y6, p6, a6, none⟩ u8 w2' _ _
  refine wpIn_intro (res := .ok (.value (.int .i32 c)) w2') (fun c => by simp) ?_ ?_
  · change (execOp u8.eval ({ dst := some d16, op := .extract (.tmp d13) 2, type := y6, pos := p6, after := a6, guard := none } : Oper)).run P w2' = _
    simp only [execOp, e9]
    rfl
  change Oper.wpIn (rfn E.rd) 0 P ⟨some kt, .assign (.tmp d16), y7, p7, a7, none⟩ (u8.put (some d16) (.int .i32 c)) w2' _ _
  have hS10 := hS8.slot n5 (.int .i32 c)
  have i10 : (u8.put (some d16) (.int .i32 c)).eval (.tmp it) = .pointer (some ⟨r, 0, none⟩) := by rw [put_eval_ne q4]; exact i8
  have e10 : (u8.put (some d16) (.int .i32 c)).eval (.tmp d16) = .int .i32 c := put_eval_same (by rw [hS8.nt]; exact l5)
  generalize u8.put (some d16) (.int .i32 c) = u10 at hS10 i10 e10
  refine wpIn_intro (res := .ok (.value (.int .i32 c)) w2') (fun c => by simp) ?_ ?_
  · change (execOp u10.eval ({ dst := some kt, op := .assign (.tmp d16), type := y7, pos := p7, after := a7, guard := none } : Oper)).run P w2' = _
    simp only [execOp, e10]
    rfl
  have hS11 := hS10.slot n6 (.int .i32 c)
  have i11 : (u10.put (some kt) (.int .i32 c)).eval (.tmp it) = .pointer (some ⟨r, 0, none⟩) := by rw [put_eval_ne q5]; exact i10
  have e11 : (u10.put (some kt) (.int .i32 c)).eval (.tmp kt) = .int .i32 c := put_eval_same (by rw [hS10.nt]; exact l6)
  change wpX P E.rd E.ex BODY _ (u10.put (some kt) (.int .i32 c)) _
  generalize u10.put (some kt) (.int .i32 c) = u11 at hS11 i11 e11
  have hb0 := hbody i hlt
  rw [hc] at hb0
  refine body_envS hS11 hV hnp hVa hfrs (hH i) n1 (k := .int .i32 c) rfl (by rw [e11]; exact .int _ _) i11 hwr hZr hr0 (hH (i + 1)) hb0 ?_
  intro ρ' V' Z' a' w' k1 k2 k3 k4 k5 k6
  simp only [Exit.inBlock, Exit.then]
  exact ⟨s.size - (i + 1), by omega, ρ', V', Z', i + 1, r, k1, k2, fun id hid => (k3 id hid).1, k4, by rw [k5, hwr], hr0, k6, hlt, rfl⟩
end Go.Am
