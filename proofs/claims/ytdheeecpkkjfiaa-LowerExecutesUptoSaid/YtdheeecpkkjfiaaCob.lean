/- A part of the proof: an abstract machine for the walks, and what the walked functions compute. -/
import Derived.Test.YtdheeecpkkjfiaaCn
import Derived.Test.YtdheeecpkkjfiaaCm
set_option linter.unusedVariables false
set_option linter.unusedSimpArgs false
/- Chapter 10: blocks as values (plain Lean). -/
set_option linter.unusedVariables false
set_option linter.unusedSimpArgs false
namespace Go.Low
open Go Go.Am Go.Proofs.Ytdheeecpkkjfiaa
mutual
theorem leftN_ways : ∀ (n : Nd), kdN n → leftN n = waysN n
  | .mk k a x t e arms, h => by
    rw [kdN] at h
    rw [leftN, waysN]
    have hk : k = 1 ∨ k = 2 ∨ k = 3 ∨ k = 4 ∨ k = 5 ∨ k = 6 := by omega
    rcases hk with rfl | rfl | rfl | rfl | rfl | rfl
    · simp
    · simp [leftL_ways t h.2.2.1, leftL_ways e h.2.2.2.1]
    · simp
    · simp [leftP_ways arms h.2.2.2.2]
    · simp
    · simp
theorem leftL_ways : ∀ (l : List Nd), kdL l → leftL l = waysL l
  | [], _ => by rw [leftL, waysL]
  | n :: l, h => by
    rw [kdL] at h
    rw [leftL, waysL, leftN_ways n h.1, leftL_ways l h.2]
theorem leftP_ways : ∀ (ps : List (List Nd)), kdP ps → leftP ps = waysP ps
  | [], _ => by rw [leftP, waysP]
  | p :: ps, h => by
    rw [kdP] at h
    rw [leftP, waysP, leftL_ways p h.1, leftP_ways ps h.2]
end


/-- What holds of the blocks of a lowering. -/
def BkI (b : Blk) : Prop := (∃ is : List Ins, b.code = is.map Ins.av ∧ ∀ x, x ∈ is → x.ok) ∧ (b.tg.getD []).length ≤ 2 ^ 30

theorem bki_nil : BkI Blk.nil := ⟨⟨[], rfl, fun _ h => (by cases h)⟩, by simp⟩
theorem bki_add {s : LS} (h : ∀ b, b ∈ s.bl → BkI b) (n : Nat) : ∀ b, b ∈ (s.add n).bl → BkI b := by
  intro b hb
  rcases List.mem_append.1 hb with hb | hb
  · exact h b hb
  · rw [(List.mem_replicate.1 hb).2]; exact bki_nil
theorem bki_end {s : LS} (h : ∀ b, b ∈ s.bl → BkI b) (k a : Int) (ts : List Int) (ht : ts.length ≤ 2 ^ 30) : ∀ b, b ∈ (s.end k a ts).bl → BkI b := by
  intro b hb
  rcases mem_modify hb with hb | ⟨c, hc, rfl⟩
  · exact h b hb
  · exact ⟨(h c hc).1, ht⟩
theorem bki_ins {s : LS} (h : ∀ b, b ∈ s.bl → BkI b) {x : Ins} (hx : x.ok) : ∀ b, b ∈ (s.ins x.av).bl → BkI b := by
  intro b hb
  rcases mem_modify hb with hb | ⟨c, hc, rfl⟩
  · exact h b hb
  · obtain ⟨⟨is, h1, h2⟩, h3⟩ := h c hc
    refine ⟨⟨is ++ [x], by simp [h1], fun y hy => ?_⟩, h3⟩
    rcases List.mem_append.1 hy with hy | hy
    · exact h2 y hy
    · rw [List.mem_singleton.1 hy]; exact hx
theorem bki_join (es : List Nat) {s : LS} (h : ∀ b, b ∈ s.bl → BkI b) : ∀ b, b ∈ (joinL es s).2.bl → BkI b := by
  have key : ∀ (es : List Nat) (j : Int) (t : LS), (∀ b, b ∈ t.bl → BkI b) → ∀ b, b ∈ (es.foldl (fun t b => (t.at b).end 1 0 [j]) t).bl → BkI b := by
    intro es
    induction es with
    | nil => intro j t ht; exact ht
    | cons e es ih =>
      intro j t ht
      rw [List.foldl_cons]
      exact ih j _ (bki_end (s := t.at e) ht 1 0 [j] (by simp))
  unfold joinL
  split
  · exact h
  · exact key es _ _ (bki_add h 1)

mutual
theorem lowN_bki : ∀ (n : Nd) (s : LS), n.sz ≤ 2 ^ 30 → (∀ b, b ∈ s.bl → BkI b) → ∀ b, b ∈ (lowN n s).2.bl → BkI b
  | .mk k a x t e arms, s, hz, h => by
    rw [Nd.sz_eq] at hz
    simp only [Nd.ins, Nd.thn, Nd.els, Nd.arms] at hz
    have har := Nd.lenL_le arms
    rw [lowN]
    split
    · refine bki_ins h ⟨?_, ?_⟩ <;> unfold Ins.sz at hz <;> omega
    · split
      · exact bki_join _ (lowL_bki e _ (by omega) (lowL_bki t _ (by omega) (bki_end (bki_add h 2) _ _ _ (by simp))))
      · split
        · have h1 := lowL_bki t (((((s.add 3).end 1 0 [(s.bl.length : Int)]).at s.bl.length).end 2 a [(s.bl.length : Int) + 1, s.bl.length + 2]).at (s.bl.length + 1)) (by omega) (bki_end (s := ((s.add 3).end 1 0 [(s.bl.length : Int)]).at s.bl.length) (bki_end (bki_add h 3) _ _ _ (by simp)) _ _ _ (by simp))
          simp only [at_bl]
          split
          · exact bki_end h1 _ _ _ (by simp)
          · exact h1
        · split
          · exact bki_join _ (lowP_bki arms _ _ (by omega) (bki_end (bki_add h _) _ _ _ (by simp; omega)))
          · split
            · exact bki_end h _ _ _ (by simp)
            · exact bki_end h _ _ _ (by simp)
theorem lowL_bki : ∀ (l : List Nd) (s : LS), Nd.szL l ≤ 2 ^ 30 → (∀ b, b ∈ s.bl → BkI b) → ∀ b, b ∈ (lowL l s).2.bl → BkI b
  | [], s, hz, h => by rw [lowL]; exact h
  | n :: l, s, hz, h => by
    rw [Nd.szL] at hz
    have h1 := lowN_bki n s (by omega) h
    rw [lowL]
    split
    · exact lowL_bki l _ (by omega) h1
    · exact h1
theorem lowP_bki : ∀ (ps : List (List Nd)) (f : Nat) (s : LS), Nd.szLL ps ≤ 2 ^ 30 → (∀ b, b ∈ s.bl → BkI b) → ∀ b, b ∈ (lowP ps f s).2.bl → BkI b
  | [], f, s, hz, h => by rw [lowP]; exact h
  | p :: ps, f, s, hz, h => by
    rw [Nd.szLL] at hz
    rw [lowP]
    exact lowP_bki ps (f + 1) _ (by omega) (lowL_bki p (s.at f) (by omega) h)
end

theorem bki_list : ∀ (bl : List Blk), (∀ b, b ∈ bl → BkI b ∧ b.code.length ≤ 2 ^ 30) → ∃ B : List Bk, bl.map frzB = B.map Bk.av ∧ (∀ x, x ∈ B → x.ok) ∧ B.length = bl.length
  | [], _ => ⟨[], rfl, fun _ h => (by cases h), rfl⟩
  | b :: l, h => by
    obtain ⟨B, h1, h2, h3⟩ := bki_list l fun b hb => h b (List.mem_cons_of_mem _ hb)
    obtain ⟨⟨⟨is, g1, g2⟩, g3⟩, g4⟩ := h b (by simp)
    refine ⟨⟨is, b.kind, b.a, b.tg.getD []⟩ :: B, ?_, fun x hx => ?_, by simp [h3]⟩
    · simp only [List.map_cons, h1, frzB, Bk.av, g1]
    · rcases List.mem_cons.1 hx with rfl | hx
      · exact ⟨by have := congrArg List.length g1; rw [List.length_map] at this; simp only; omega, g3, g2⟩
      · exact h2 x hx

theorem low_bk (l : List Nd) (h : Nd.szL l ≤ 2 ^ 30) : ∃ B : List Bk, (lowRes l).1.map frzB = B.map Bk.av ∧ (∀ x, x ∈ B → x.ok) ∧ B.length ≤ 200 := by
  have h0 := lowL_bki l lowS0 h (fun b hb => by simp only [lowS0, List.mem_singleton] at hb; subst hb; exact bki_nil)
  unfold lowRes
  split
  · exact ⟨[], rfl, fun _ h => (by cases h), by simp⟩
  · split
    · exact ⟨[], rfl, fun _ h => (by cases h), by simp⟩
    · split
      · exact ⟨[], rfl, fun _ h => (by cases h), by simp⟩
      · rename_i hb
        obtain ⟨B, h1, h2, h3⟩ := bki_list (lowL l lowS0).2.bl fun b hb' => ⟨h0 b hb', by
          have : ¬ 400 < b.code.length := fun h => hb (.inr ⟨b, hb', h⟩)
          omega⟩
        exact ⟨B, h1, h2, by rw [h3]; have : ¬ 200 < (lowL l lowS0).2.bl.length := fun h => hb (.inl h); omega⟩
end Go.Low
