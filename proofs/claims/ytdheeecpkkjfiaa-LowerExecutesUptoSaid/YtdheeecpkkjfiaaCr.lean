/- A part of the proof: an abstract machine for the walks, and what the walked functions compute. -/
import Derived.Test.YtdheeecpkkjfiaaCf
import Derived.Test.YtdheeecpkkjfiaaCc
import Derived.Test.YtdheeecpkkjfiaaCh
import Derived.Test.YtdheeecpkkjfiaaCob
set_option linter.unusedVariables false
set_option linter.unusedSimpArgs false
/- Chapter 10: what a lowering adds to the blocks (plain Lean). -/
set_option linter.unusedVariables false
set_option linter.unusedSimpArgs false
namespace Go.Low
open Go Go.Am

def Blk.ts (b : Blk) : List Int := b.tg.getD []

/-- How many edges have p. -/
def cnt (p : Nat → Int → Bool) : Nat → List Blk → Nat
  | _, [] => 0
  | k, b :: l => b.ts.countP (p k) + cnt p (k + 1) l

theorem cnt_modify {p : Nat → Int → Bool} {f : Blk → Blk} : ∀ {l : List Blk} {k i : Nat} {b : Blk}, l[i]? = some b → cnt p k (l.modify i f) + b.ts.countP (p (k + i)) = cnt p k l + (f b).ts.countP (p (k + i))
  | [], _, _, _, h => by simp at h
  | c :: l, k, 0, b, h => by
    simp only [List.getElem?_cons_zero, Option.some.injEq] at h
    subst h
    simp only [List.modify_zero_cons, cnt, Nat.add_zero]
    omega
  | c :: l, k, i + 1, b, h => by
    simp only [List.getElem?_cons_succ] at h
    have ih := cnt_modify (p := p) (f := f) (k := k + 1) h
    simp only [List.modify_succ_cons, cnt]
    rw [show k + 1 + i = k + (i + 1) by omega] at ih
    omega

theorem cnt_nils {p : Nat → Int → Bool} (N : Nat) : ∀ (l : List Blk) (k : Nat), cnt p k (l ++ List.replicate N Blk.nil) = cnt p k l
  | [], k => by
    rw [List.nil_append]
    induction N generalizing k with
    | zero => rfl
    | succ N ih =>
      rw [List.replicate_succ]
      show Blk.nil.ts.countP (p k) + cnt p (k + 1) (List.replicate N Blk.nil) = 0
      rw [ih]
      rfl
  | c :: l, k => by rw [List.cons_append, cnt, cnt, cnt_nils N l]

def Open (bl : List Blk) (i : Nat) : Prop := ∃ b, bl[i]? = some b ∧ b.kind = 0 ∧ b.ts = []
def Shp (k : Int) (n : Nat) : Prop := (k = 1 ∧ n = 1) ∨ (k = 2 ∧ n = 2) ∨ (k = 3 ∧ 0 < n) ∨ (k = 4 ∧ n = 0) ∨ (k = 5 ∧ n = 0)
def Good (L : Nat) (bl : List Blk) (i : Nat) : Prop := ∃ b, bl[i]? = some b ∧ Shp b.kind b.ts.length ∧ ∀ t, t ∈ b.ts → (L : Int) ≤ t ∧ t < bl.length ∧ (t ≤ i → b.kind = 1 ∧ ∃ c, bl[t.toNat]? = some c ∧ c.kind = 2)
def eqT (t : Int) : Nat → Int → Bool := fun _ u => u == t
def bkT : Nat → Int → Bool := fun i u => decide (u ≤ i)
def WF (bl : List Blk) : Prop := ∀ t : Int, bl.length ≤ t → cnt (eqT t) 0 bl = 0
def Clo (S : Nat → Prop) (bl : List Blk) : Prop := ∀ i b t, bl[i]? = some b → t ∈ b.ts → S i → S t.toNat

theorem Open.lt {bl : List Blk} {i : Nat} (h : Open bl i) : i < bl.length := by
  obtain ⟨b, h, _⟩ := h
  exact (List.getElem?_eq_some_iff.1 h).1
theorem Shp.ne {k : Int} {n : Nat} (h : Shp k n) : k ≠ 0 := by unfold Shp at h; omega
theorem Open.get {bl : List Blk} {i : Nat} {b : Blk} (h : Open bl i) (hb : bl[i]? = some b) : b.kind = 0 ∧ b.ts = [] := by
  obtain ⟨c, h1, h2⟩ := h
  rw [hb] at h1
  cases h1
  exact h2

/-- How the code of blocks grows. -/
structure Pre (bl bl' : List Blk) : Prop where
  pre : ∀ (i : Nat) (b : Blk), bl[i]? = some b → ∃ b', bl'[i]? = some b' ∧ (∃ c, b'.code = b.code ++ c) ∧ (b.kind ≠ 0 → b' = b)
theorem Pre.refl (bl : List Blk) : Pre bl bl := ⟨fun i b h => ⟨b, h, ⟨[], by simp⟩, fun _ => rfl⟩⟩
theorem Pre.trans {a b c : List Blk} (h : Pre a b) (g : Pre b c) : Pre a c := ⟨fun i x hx => by
  obtain ⟨y, h1, ⟨c1, h2⟩, h3⟩ := h.pre i x hx
  obtain ⟨z, g1, ⟨c2, g2⟩, g3⟩ := g.pre i y h1
  refine ⟨z, g1, ⟨c1 ++ c2, by rw [g2, h2, List.append_assoc]⟩, fun hk => ?_⟩
  have e := h3 hk
  subst e
  exact g3 hk⟩
theorem Pre.add (bl : List Blk) (N : Nat) : Pre bl (bl ++ List.replicate N Blk.nil) := ⟨fun i b h => ⟨b, by rw [List.getElem?_append_left (List.getElem?_eq_some_iff.1 h).1, h], ⟨[], by simp⟩, fun _ => rfl⟩⟩
theorem Pre.mod {bl : List Blk} {c : Nat} {f : Blk → Blk} (ho : Open bl c) (hf : ∀ b, ∃ x, (f b).code = b.code ++ x) : Pre bl (bl.modify c f) := ⟨fun i b h => by
  by_cases hi : c = i
  · subst hi
    refine ⟨f b, ?_, hf b, fun hk => absurd (ho.get h).1 hk⟩
    rw [List.getElem?_modify, h]
    exact congrArg some (if_pos rfl)
  · refine ⟨b, ?_, ⟨[], by simp⟩, fun _ => rfl⟩
    rw [List.getElem?_modify, h]
    exact congrArg some (if_neg hi)⟩

structure Ext (bl : List Blk) (O : Nat → Prop) (n : Nat) (bl' : List Blk) (O' : Nat → Prop) : Prop where
  w0 : WF bl
  w1 : WF bl'
  opn : ∀ i, O i → Open bl i
  len : bl.length ≤ bl'.length
  fr : ∀ i, i < bl.length → ¬ O i → bl'[i]? = bl[i]?
  act : ∀ i, O' i → Open bl' i ∧ (O i ∨ bl.length ≤ i)
  new : ∀ i, O i ∨ bl.length ≤ i → i < bl'.length → O' i ∨ Good bl.length bl' i
  reach : ∀ S : Nat → Prop, (∀ o, O o → S o) → Clo S bl' → ∀ i, bl.length ≤ i → i < bl'.length → S i
  back : cnt bkT 0 bl' ≤ cnt bkT 0 bl + n
  deg : ∀ t : Int, t < bl.length → cnt (eqT t) 0 bl' = cnt (eqT t) 0 bl
  uniq : ∀ i b t, O i ∨ bl.length ≤ i → bl'[i]? = some b → b.kind ≠ 1 → t ∈ b.ts → cnt (eqT t) 0 bl' = 1
  pre : Pre bl bl'

theorem Ext.refl {bl : List Blk} {O : Nat → Prop} (w : WF bl) (h : ∀ i, O i → Open bl i) : Ext bl O 0 bl O where
  w0 := w
  w1 := w
  opn := h
  len := Nat.le_refl _
  fr := fun _ _ _ => rfl
  act := fun i hi => ⟨h i hi, .inl hi⟩
  new := fun i hi hl => hi.elim .inl fun hi => absurd hl (by omega)
  reach := fun S _ _ i h1 h2 => absurd h2 (by omega)
  back := Nat.le_refl _
  deg := fun _ _ => rfl
  uniq := fun i b t hi hb _ ht => by
    rcases hi with hi | hi
    · rw [((h i hi).get hb).2] at ht; cases ht
    · have := (List.getElem?_eq_some_iff.1 hb).1; omega
  pre := Pre.refl bl

theorem Ext.congr {bl bl' : List Blk} {O O1 O' O1' : Nat → Prop} {n m : Nat} (h : Ext bl O n bl' O') (h1 : ∀ i, O i ↔ O1 i) (h2 : ∀ i, O' i ↔ O1' i) (hn : n ≤ m) : Ext bl O1 m bl' O1' := by
  obtain rfl : O = O1 := funext fun i => propext (h1 i)
  obtain rfl : O' = O1' := funext fun i => propext (h2 i)
  exact { h with back := by have := h.back; omega }

open Classical in
theorem Ext.trans {bl bl1 bl2 : List Blk} {O O1 O2 : Nat → Prop} {n m : Nat} (A : Ext bl O n bl1 O1) (B : Ext bl1 O1 m bl2 O2) : Ext bl O (n + m) bl2 O2 where
  w0 := A.w0
  w1 := B.w1
  opn := A.opn
  len := Nat.le_trans A.len B.len
  fr := fun i hi ho => by
    rw [B.fr i (Nat.lt_of_lt_of_le hi A.len) (fun h => (A.act i h).2.elim ho fun h => absurd hi (by omega)), A.fr i hi ho]
  act := fun i hi => ⟨(B.act i hi).1, by
    rcases (B.act i hi).2 with h | h
    · exact (A.act i h).2
    · exact .inr (Nat.le_trans A.len h)⟩
  new := fun i hi hl => by
    have wk : Good bl1.length bl2 i → Good bl.length bl2 i := fun ⟨b, h1, h2, h3⟩ => ⟨b, h1, h2, fun t ht => ⟨by have := (h3 t ht).1; have := A.len; omega, (h3 t ht).2⟩⟩
    by_cases h1 : i < bl1.length
    · by_cases ho : O1 i
      · exact (B.new i (.inl ho) hl).imp id wk
      · rcases A.new i hi h1 with h | ⟨b, h2, h3, h4⟩
        · exact absurd h ho
        · refine .inr ⟨b, by rw [B.fr i h1 ho, h2], h3, fun t ht => ?_⟩
          obtain ⟨h5, h6, h7⟩ := h4 t ht
          refine ⟨h5, by have := B.len; omega, fun hti => ⟨(h7 hti).1, ?_⟩⟩
          obtain ⟨c, hc, hk⟩ := (h7 hti).2
          refine ⟨c, ?_, hk⟩
          rw [B.fr _ (by omega) (fun ho => by have := ((A.act _ ho).1.get hc).1; omega), hc]
    · exact (B.new i (.inr (by omega)) hl).imp id wk
  reach := fun S hS hc i h1 h2 => by
    have hc1 : Clo S bl1 := fun i b t hb ht hs => by
      by_cases ho : O1 i
      · rw [((A.act i ho).1.get hb).2] at ht; cases ht
      · exact hc i b t (by rw [B.fr i (List.getElem?_eq_some_iff.1 hb).1 ho, hb]) ht hs
    by_cases h3 : i < bl1.length
    · exact A.reach S hS hc1 i h1 h3
    · refine B.reach S (fun o ho => ?_) hc i (by omega) h2
      rcases (A.act o ho).2 with h | h
      · exact hS o h
      · exact A.reach S hS hc1 o h (A.act o ho).1.lt
  back := by have := A.back; have := B.back; omega
  deg := fun t ht => by rw [B.deg t (by have := A.len; omega), A.deg t ht]
  uniq := fun i b t hi hb hk ht => by
    by_cases h : O1 i ∨ bl1.length ≤ i
    · exact B.uniq i b t h hb hk ht
    · have h1 : i < bl1.length := (Nat.lt_or_ge i bl1.length).elim (fun h1 => h1) fun h1 => absurd (.inr h1) h
      have ho : ¬ O1 i := fun h2 => h (.inl h2)
      rw [B.fr i h1 ho] at hb
      rcases A.new i hi h1 with h2 | ⟨b', h2, _, h4⟩
      · exact absurd h2 ho
      · rw [hb] at h2
        cases h2
        rw [B.deg t (h4 t ht).2.1, A.uniq i b t hi hb hk ht]
  pre := A.pre.trans B.pre

theorem Ext.frame {bl bl' : List Blk} {O O' : Nat → Prop} {n : Nat} (A : Ext bl O n bl' O') (X : Nat → Prop) (hx : ∀ i, X i → Open bl i ∧ ¬ O i) : Ext bl (fun i => O i ∨ X i) n bl' (fun i => O' i ∨ X i) :=
  have hX : ∀ i, X i → bl'[i]? = bl[i]? := fun i h => A.fr i (hx i h).1.lt (hx i h).2
  have hO : ∀ i, X i → Open bl' i := fun i h => by obtain ⟨b, h1, h2⟩ := (hx i h).1; exact ⟨b, by rw [hX i h, h1], h2⟩
  { w0 := A.w0
    w1 := A.w1
    opn := fun i hi => hi.elim (A.opn i) fun h => (hx i h).1
    len := A.len
    fr := fun i hi ho => A.fr i hi fun h => ho (.inl h)
    act := fun i hi => hi.elim (fun h => ⟨(A.act i h).1, (A.act i h).2.elim (fun h => .inl (.inl h)) .inr⟩) fun h => ⟨hO i h, .inl (.inr h)⟩
    new := fun i hi hl => by
      rcases hi with (h | h) | h
      · exact (A.new i (.inl h) hl).imp .inl id
      · exact .inl (.inr h)
      · exact (A.new i (.inr h) hl).imp .inl id
    reach := fun S hS hc => A.reach S (fun o h => hS o (.inl h)) hc
    back := A.back
    deg := A.deg
    uniq := fun i b t hi hb hk ht => by
      rcases hi with (h | h) | h
      · exact A.uniq i b t (.inl h) hb hk ht
      · rw [((hO i h).get hb).2] at ht; cases ht
      · exact A.uniq i b t (.inr h) hb hk ht
    pre := A.pre }

/-- Ends of some blocks. -/
def closeL (es : List Nat) (k a : Int) (ts : List Int) (bl : List Blk) : List Blk := es.foldl (fun l e => l.modify e fun b => ⟨b.code, k, a, some ts⟩) bl

theorem closeL_len {k a : Int} {ts : List Int} : ∀ (es : List Nat) (bl : List Blk), (closeL es k a ts bl).length = bl.length
  | [], _ => rfl
  | e :: es, bl => by rw [closeL, List.foldl_cons]; exact (closeL_len es _).trans (by simp)

theorem closeL_not {k a : Int} {ts : List Int} {i : Nat} : ∀ (es : List Nat) (bl : List Blk), i ∉ es → (closeL es k a ts bl)[i]? = bl[i]?
  | [], _, _ => rfl
  | e :: es, bl, h => by
    rw [closeL, List.foldl_cons]
    refine (closeL_not es _ (fun h1 => h (List.mem_cons_of_mem _ h1))).trans ?_
    rw [List.getElem?_modify]
    have : e ≠ i := fun h1 => h (by rw [← h1]; exact List.mem_cons_self ..)
    cases bl[i]? <;> simp [this]

theorem closeL_mem {k a : Int} {ts : List Int} {i : Nat} : ∀ (es : List Nat) (bl : List Blk), i ∈ es → i < bl.length → ∃ b, (closeL es k a ts bl)[i]? = some b ∧ b.kind = k ∧ b.ts = ts
  | [], _, h, _ => by cases h
  | e :: es, bl, h, hl => by
    by_cases h1 : i ∈ es
    · rw [closeL, List.foldl_cons]
      exact closeL_mem es _ h1 (by simpa using hl)
    · rcases List.mem_cons.1 h with rfl | h2
      · rw [closeL, List.foldl_cons]
        refine ⟨_, (closeL_not es _ h1).trans (by rw [List.getElem?_modify, List.getElem?_eq_getElem hl]; exact congrArg some (if_pos rfl)), rfl, rfl⟩
      · exact absurd h2 h1

theorem closeL_cnt {k a : Int} {ts : List Int} {p : Nat → Int → Bool} : ∀ (es : List Nat) (bl : List Blk), es.Nodup → (∀ e, e ∈ es → Open bl e) → cnt p 0 (closeL es k a ts bl) = cnt p 0 bl + (es.map fun e => ts.countP (p e)).sum
  | [], _, _, _ => by simp [closeL]
  | e :: es, bl, hn, ho => by
    rw [closeL, List.foldl_cons]
    obtain ⟨b, h1, h2, h3⟩ := ho e (List.mem_cons_self ..)
    have hm := cnt_modify (p := p) (f := fun b => ⟨b.code, k, a, some ts⟩) (k := 0) h1
    rw [h3, Nat.zero_add, List.countP_nil] at hm
    have hn2 := List.nodup_cons.1 hn
    refine (closeL_cnt es _ hn2.2 fun x hx => ?_).trans ?_
    · obtain ⟨c, g1, g2⟩ := ho x (List.mem_cons_of_mem _ hx)
      refine ⟨c, ?_, g2⟩
      rw [List.getElem?_modify, g1]
      exact congrArg some (if_neg (fun h => hn2.1 (by rw [h]; exact hx)))
    · rw [List.map_cons, List.sum_cons]
      simp only [Blk.ts, Option.getD_some] at hm
      omega

theorem Pre.closeL {k a : Int} {ts : List Int} : ∀ (es : List Nat) (bl : List Blk), es.Nodup → (∀ e, e ∈ es → Open bl e) → Pre bl (closeL es k a ts bl)
  | [], bl, _, _ => Pre.refl bl
  | e :: es, bl, hn, ho => by
    have hn2 := List.nodup_cons.1 hn
    rw [Go.Low.closeL, List.foldl_cons]
    refine (Pre.mod (ho e (by simp)) (fun b => ⟨[], by simp⟩)).trans (Pre.closeL es _ hn2.2 fun x hx => ?_)
    obtain ⟨c, g1, g2⟩ := ho x (List.mem_cons_of_mem _ hx)
    refine ⟨c, ?_, g2⟩
    rw [List.getElem?_modify, g1]
    exact congrArg some (if_neg (fun h => hn2.1 (by rw [h]; exact hx)))
theorem closeL_get {k a : Int} {ts : List Int} {i : Nat} {b : Blk} : ∀ (es : List Nat) (bl : List Blk), i ∈ es → bl[i]? = some b → (closeL es k a ts bl)[i]? = some ⟨b.code, k, a, some ts⟩
  | [], _, h, _ => by cases h
  | e :: es, bl, h, hb => by
    by_cases h1 : e = i
    · subst h1
      have g : (bl.modify e fun b => (⟨b.code, k, a, some ts⟩ : Blk))[e]? = some ⟨b.code, k, a, some ts⟩ := by
        rw [List.getElem?_modify, hb]
        exact congrArg some (if_pos rfl)
      rw [closeL, List.foldl_cons]
      by_cases h2 : e ∈ es
      · exact closeL_get (b := ⟨b.code, k, a, some ts⟩) es _ h2 g
      · exact (closeL_not es _ h2).trans g
    · rw [closeL, List.foldl_cons]
      have h2 : i ∈ es := by
        rcases List.mem_cons.1 h with h | h
        · exact absurd h.symm h1
        · exact h
      refine closeL_get es _ h2 ?_
      rw [List.getElem?_modify, hb]
      exact congrArg some (if_neg h1)

def upT (L N : Nat) : List Int := (List.range N).map fun (i : Nat) => (L : Int) + (i : Int)
theorem mem_upT {L N : Nat} {t : Int} : t ∈ upT L N ↔ (L : Int) ≤ t ∧ t < (L : Int) + N := by
  unfold upT
  simp only [List.mem_map, List.mem_range]
  constructor
  · rintro ⟨i, h, rfl⟩; omega
  · rintro ⟨h1, h2⟩; exact ⟨(t - L).toNat, by omega, by omega⟩
theorem upT_len (L N : Nat) : (upT L N).length = N := by simp [upT]
theorem upT_one {L N : Nat} {t : Int} (h : t ∈ upT L N) (i : Nat) : (upT L N).countP (eqT t i) = 1 := by
  have key : ∀ N : Nat, (upT L N).countP (eqT t i) = if (L : Int) ≤ t ∧ t < (L : Int) + N then 1 else 0 := by
    intro N
    induction N with
    | zero => rw [if_neg (by omega)]; rfl
    | succ N ih =>
      have e : upT L (N + 1) = upT L N ++ [(L : Int) + (N : Int)] := by simp [upT, List.range_succ]
      rw [e, List.countP_append, ih, List.countP_singleton]
      simp only [eqT, beq_iff_eq]
      split <;> split <;> split <;> omega
  rw [key, if_pos (mem_upT.1 h)]
theorem upT_zero {L N : Nat} {p : Nat → Int → Bool} {i : Nat} (h : ∀ t, t ∈ upT L N → p i t = false) : (upT L N).countP (p i) = 0 := by
  rw [List.countP_eq_zero]
  intro t ht
  rw [h t ht]
  simp

theorem sum_zero {α : Type} (f : α → Nat) : ∀ (l : List α), (∀ x, x ∈ l → f x = 0) → (l.map f).sum = 0
  | [], _ => rfl
  | x :: l, h => by rw [List.map_cons, List.sum_cons, h x (List.mem_cons_self ..), sum_zero f l fun y hy => h y (List.mem_cons_of_mem _ hy)]

theorem app_nils {bl : List Blk} {i N : Nat} {b : Blk} (h : (bl ++ List.replicate N Blk.nil)[i]? = some b) (hi : bl.length ≤ i) : b = Blk.nil := by
  rw [List.getElem?_append_right hi, List.getElem?_replicate] at h
  split at h
  · exact (Option.some.inj h).symm
  · cases h

theorem Ext.close {bl : List Blk} {es : List Nat} {N : Nat} {k a : Int} (w : WF bl) (hn : es.Nodup) (ho : ∀ e, e ∈ es → Open bl e) (hs : Shp k N) (h1 : k = 1 ∨ ∃ c, es = [c]) (hne : es ≠ []) : Ext bl (· ∈ es) 0 (closeL es k a (upT bl.length N) (bl ++ List.replicate N Blk.nil)) (fun i => bl.length ≤ i ∧ i < bl.length + N) := by
  have hl : (closeL es k a (upT bl.length N) (bl ++ List.replicate N Blk.nil)).length = bl.length + N := by rw [closeL_len]; simp
  have ho2 : ∀ e, e ∈ es → Open (bl ++ List.replicate N Blk.nil) e := fun e he => by
    obtain ⟨b, g1, g2⟩ := ho e he
    exact ⟨b, by rw [List.getElem?_append_left (ho e he).lt, g1], g2⟩
  have hc : ∀ p, cnt p 0 (closeL es k a (upT bl.length N) (bl ++ List.replicate N Blk.nil)) = cnt p 0 bl + (es.map fun e => (upT bl.length N).countP (p e)).sum := fun p => by rw [closeL_cnt es _ hn ho2, cnt_nils]
  have hnm : ∀ i, bl.length ≤ i → i ∉ es := fun i hi he => by have := (ho i he).lt; omega
  have hnil : ∀ i, bl.length ≤ i → i < bl.length + N → (closeL es k a (upT bl.length N) (bl ++ List.replicate N Blk.nil))[i]? = some Blk.nil := fun i h2 h3 => by
    rw [closeL_not es _ (hnm i h2), List.getElem?_append_right h2, List.getElem?_replicate, if_pos (by omega)]
  have hmem : ∀ i, i ∈ es → ∃ b, (closeL es k a (upT bl.length N) (bl ++ List.replicate N Blk.nil))[i]? = some b ∧ b.kind = k ∧ b.ts = upT bl.length N := fun i hi => closeL_mem es _ hi (by rw [List.length_append]; have := (ho i hi).lt; omega)
  refine ⟨w, ?_, ho, by omega, ?_, ?_, ?_, ?_, ?_, ?_, ?_, (Pre.add bl N).trans (Pre.closeL es _ hn ho2)⟩
  · intro t ht
    rw [hl] at ht
    rw [hc, w t (by omega), sum_zero]
    intro e _
    refine upT_zero fun u hu => ?_
    have := (mem_upT.1 hu).2
    simp only [eqT, beq_eq_false_iff_ne, ne_eq]
    omega
  · intro i hi hio
    rw [closeL_not es _ hio, List.getElem?_append_left hi]
  · intro i hi
    exact ⟨⟨_, hnil i hi.1 hi.2, rfl, rfl⟩, .inr hi.1⟩
  · intro i hi hil
    rw [hl] at hil
    rcases hi with hi | hi
    · obtain ⟨b, g1, g2, g3⟩ := hmem i hi
      refine .inr ⟨b, g1, by rw [g2, g3, upT_len]; exact hs, fun t ht => ?_⟩
      rw [g3] at ht
      have := mem_upT.1 ht
      have := (ho i hi).lt
      exact ⟨by omega, by rw [hl]; omega, fun hti => by omega⟩
    · exact .inl ⟨hi, hil⟩
  · intro S hS hC i h2 h3
    rw [hl] at h3
    obtain ⟨e, he⟩ := List.exists_mem_of_ne_nil es hne
    obtain ⟨b, g1, g2, g3⟩ := hmem e he
    exact hC e b (i : Int) g1 (by rw [g3]; exact mem_upT.2 ⟨by omega, by omega⟩) (hS e he)
  · rw [hc, sum_zero]
    · omega
    intro e he
    refine upT_zero fun u hu => ?_
    have := (mem_upT.1 hu).1
    have := (ho e he).lt
    simp only [bkT, decide_eq_false_iff_not]
    omega
  · intro t ht
    rw [hc, sum_zero]
    · omega
    intro e he
    refine upT_zero fun u hu => ?_
    have := (mem_upT.1 hu).1
    simp only [eqT, beq_eq_false_iff_ne, ne_eq]
    omega
  · intro i b t hi hb hk ht
    rcases hi with hi | hi
    · obtain ⟨b', g1, g2, g3⟩ := hmem i hi
      rw [hb] at g1
      cases g1
      rw [g3] at ht
      rcases h1 with h1 | ⟨c, rfl⟩
      · exact absurd (g2.trans h1) hk
      · rw [hc, w t (mem_upT.1 ht).1]
        simp [upT_one ht]
    · have hlt := (List.getElem?_eq_some_iff.1 hb).1
      rw [hl] at hlt
      rw [hnil i hi hlt] at hb
      cases hb
      cases ht

theorem Ext.ins {bl : List Blk} {c : Nat} {x : AV} (w : WF bl) (ho : Open bl c) : Ext bl (· = c) 0 (bl.modify c fun b => ⟨b.code ++ [x], b.kind, b.a, b.tg⟩) (· = c) := by
  obtain ⟨b0, g1, g2, g3⟩ := ho
  have hc : ∀ p, cnt p 0 (bl.modify c fun b => ⟨b.code ++ [x], b.kind, b.a, b.tg⟩) = cnt p 0 bl := fun p => by
    have := cnt_modify (p := p) (f := fun b => ⟨b.code ++ [x], b.kind, b.a, b.tg⟩) (k := 0) g1
    simp only [Blk.ts] at this
    omega
  have hm : (bl.modify c fun b => ⟨b.code ++ [x], b.kind, b.a, b.tg⟩)[c]? = some ⟨b0.code ++ [x], b0.kind, b0.a, b0.tg⟩ := by
    rw [List.getElem?_modify, g1]
    exact congrArg some (if_pos rfl)
  have hl : (bl.modify c fun b => (⟨b.code ++ [x], b.kind, b.a, b.tg⟩ : Blk)).length = bl.length := by simp
  have ho' : Open (bl.modify c fun b => ⟨b.code ++ [x], b.kind, b.a, b.tg⟩) c := ⟨_, hm, g2, g3⟩
  refine ⟨w, fun t ht => by rw [hc]; exact w t (by omega), fun i hi => by subst hi; exact ⟨b0, g1, g2, g3⟩, by omega, ?_, fun i hi => by subst hi; exact ⟨ho', .inl rfl⟩, fun i hi h2 => ?_, fun S _ _ i h1 h2 => absurd h2 (by omega), by rw [hc]; omega, fun t _ => hc _, ?_, Pre.mod ⟨b0, g1, g2, g3⟩ fun b => ⟨[x], rfl⟩⟩
  · intro i hi hne
    have : c ≠ i := fun h => hne h.symm
    rw [List.getElem?_modify]
    cases bl[i]? <;> simp [this]
  · rcases hi with hi | hi
    · exact .inl hi
    · omega
  · intro i b t hi hb hk ht
    rcases hi with rfl | hi
    · rw [hm] at hb
      cases hb
      have g3' : b0.tg.getD [] = [] := g3
      simp only [Blk.ts, g3'] at ht
      cases ht
    · have := (List.getElem?_eq_some_iff.1 hb).1
      omega

/-- A jump back to the head of a loop. -/
theorem Ext.backJ {bl bl1 : List Blk} {O O1 : Nat → Prop} {n c h : Nat} (A : Ext bl O n bl1 O1) (hc : O1 c) (hL : bl.length ≤ h) (k2 : ∃ b, bl1[h]? = some b ∧ b.kind = 2)
    (hn : ∀ i b, O i ∨ bl.length ≤ i → bl1[i]? = some b → b.kind ≠ 1 → (h : Int) ∉ b.ts) : Ext bl O (n + 1) (bl1.modify c fun b => ⟨b.code, 1, 0, some [(h : Int)]⟩) (fun i => O1 i ∧ i ≠ c) := by
  obtain ⟨⟨b0, g1, g2, g3⟩, hcO⟩ := A.act c hc
  obtain ⟨bh, hh, hk⟩ := k2
  have hhl := (List.getElem?_eq_some_iff.1 hh).1
  have hcl := (List.getElem?_eq_some_iff.1 g1).1
  have hhc : h ≠ c := by rintro rfl; rw [g1] at hh; cases hh; omega
  have hcn : ∀ p, cnt p 0 (bl1.modify c fun b => ⟨b.code, 1, 0, some [(h : Int)]⟩) = cnt p 0 bl1 + (if p c h then 1 else 0) := fun p => by
    have := cnt_modify (p := p) (f := fun b => ⟨b.code, 1, 0, some [(h : Int)]⟩) (k := 0) g1
    rw [g3, Nat.zero_add, List.countP_nil] at this
    simp only [Blk.ts, Option.getD_some, List.countP_singleton] at this
    omega
  have hl : (bl1.modify c fun b => (⟨b.code, 1, 0, some [(h : Int)]⟩ : Blk)).length = bl1.length := by simp
  have hm : (bl1.modify c fun b => ⟨b.code, 1, 0, some [(h : Int)]⟩)[c]? = some ⟨b0.code, 1, 0, some [(h : Int)]⟩ := by
    rw [List.getElem?_modify, g1]
    exact congrArg some (if_pos rfl)
  have hne : ∀ i, i ≠ c → (bl1.modify c fun b => (⟨b.code, 1, 0, some [(h : Int)]⟩ : Blk))[i]? = bl1[i]? := fun i hi => by
    have : c ≠ i := fun h => hi h.symm
    rw [List.getElem?_modify]
    cases bl1[i]? <;> simp [this]
  refine ⟨A.w0, fun t ht => ?_, A.opn, by rw [hl]; exact A.len, fun i hi ho => ?_, fun i hi => ?_, fun i hi h2 => ?_, fun S hS hC i h1 h2 => ?_, ?_, fun t ht => ?_, fun i b t hi hb hk1 ht => ?_, A.pre.trans (Pre.mod ⟨b0, g1, g2, g3⟩ fun b => ⟨[], by simp⟩)⟩
  · rw [hl] at ht
    rw [hcn, A.w1 t ht, if_neg (by simp only [eqT, beq_iff_eq]; omega)]
  · rw [hne i (fun h => by subst h; rcases hcO with h | h; exact ho h; omega), A.fr i hi ho]
  · obtain ⟨⟨b, h1, h2⟩, h3⟩ := A.act i hi.1
    exact ⟨⟨b, by rw [hne i hi.2, h1], h2⟩, h3⟩
  · rw [hl] at h2
    by_cases hic : i = c
    · subst hic
      refine .inr ⟨_, hm, .inl ⟨rfl, rfl⟩, fun t ht => ?_⟩
      simp only [Blk.ts, Option.getD_some, List.mem_singleton] at ht
      subst ht
      exact ⟨by omega, by rw [hl]; omega, fun _ => ⟨rfl, bh, by rw [Int.toNat_natCast, hne h hhc, hh], hk⟩⟩
    · rcases A.new i hi h2 with h3 | ⟨b, h3, h4, h5⟩
      · exact .inl ⟨h3, hic⟩
      · refine .inr ⟨b, by rw [hne i hic, h3], h4, fun t ht => ?_⟩
        obtain ⟨h6, h7, h8⟩ := h5 t ht
        refine ⟨h6, by rw [hl]; exact h7, fun hti => ⟨(h8 hti).1, ?_⟩⟩
        obtain ⟨d, h9, h10⟩ := (h8 hti).2
        exact ⟨d, by rw [hne _ (fun h => by rw [h, g1] at h9; cases h9; omega), h9], h10⟩
  · rw [hl] at h2
    refine A.reach S hS (fun j b t hb ht hs => ?_) i h1 h2
    by_cases hjc : j = c
    · subst hjc
      rw [g1] at hb
      cases hb
      rw [g3] at ht
      cases ht
    · exact hC j b t (by rw [hne j hjc, hb]) ht hs
  · rw [hcn]
    have := A.back
    split <;> omega
  · rw [hcn, if_neg (by simp only [eqT, beq_iff_eq]; omega)]
    exact A.deg t ht
  · by_cases hic : i = c
    · subst hic
      rw [hm] at hb
      cases hb
      exact absurd rfl hk1
    · rw [hne i hic] at hb
      have hth : (h : Int) ≠ t := fun e => hn i b hi hb hk1 (e ▸ ht)
      rw [hcn, if_neg (by simp only [eqT, beq_iff_eq]; exact hth)]
      exact A.uniq i b t hi hb hk1 ht

theorem foldl_end (j : Int) : ∀ (es : List Nat) (s : LS), (es.foldl (fun t b => (t.at b).end 1 0 [j]) s).bl = closeL es 1 0 [j] s.bl
  | [], _ => rfl
  | e :: es, s => by rw [List.foldl_cons, foldl_end j es]; rfl

def Oat (p : Bool × LS) : Nat → Prop := fun i => p.1 = true ∧ i = p.2.cur

theorem Ext.join {s : LS} {es : List Nat} (w : WF s.bl) (hn : es.Nodup) (ho : ∀ e, e ∈ es → Open s.bl e) : Ext s.bl (· ∈ es) 0 (joinL es s).2.bl (Oat (joinL es s)) := by
  unfold joinL
  by_cases he : es = []
  · subst he
    rw [if_pos rfl]
    exact (Ext.refl w ho).congr (fun _ => Iff.rfl) (fun i => ⟨fun h => (by cases h), fun h => (by cases h.1)⟩) (Nat.le_refl _)
  · rw [if_neg he]
    have := Ext.close (k := 1) (a := 0) (N := 1) w hn ho (.inl ⟨rfl, rfl⟩) (.inl rfl) he
    have e1 : upT s.bl.length 1 = [(s.bl.length : Int)] := by simp [upT]
    rw [e1] at this
    show Ext s.bl _ 0 (LS.bl _) _
    rw [show (LS.bl ((es.foldl (fun t b => (t.at b).end 1 0 [(s.bl.length : Int)]) (s.add 1)).at s.bl.length)) = closeL es 1 0 [(s.bl.length : Int)] (s.bl ++ List.replicate 1 Blk.nil) from foldl_end _ es _]
    exact this.congr (fun _ => Iff.rfl) (fun i => ⟨fun h => ⟨rfl, by show i = s.bl.length; omega⟩, fun h => by have : i = s.bl.length := h.2; omega⟩) (Nat.le_refl _)
end Go.Low

/- Chapter 10: every node's lowering is such an addition (plain Lean). -/
set_option linter.unusedVariables false
set_option linter.unusedSimpArgs false
namespace Go.Low
open Go Go.Am

theorem upT_two (L : Nat) : upT L 2 = [(L : Int), (L : Int) + 1] := by simp [upT, List.range_succ]
theorem modify_app {f : Blk → Blk} {X Y : List Blk} {i : Nat} (h : i < X.length) : (X ++ Y).modify i f = X.modify i f ++ Y := by
  refine List.ext_getElem? fun j => ?_
  rw [List.getElem?_modify]
  by_cases hj : j < X.length
  · rw [List.getElem?_append_left hj, List.getElem?_append_left (by simpa using hj), List.getElem?_modify]
  · rw [List.getElem?_append_right (by omega), List.getElem?_append_right (by simp; omega)]
    have : i ≠ j := by omega
    simp [this]

mutual
theorem lowN_ext : ∀ (n : Nd) (d : Int) (s : LS), formedN n d = true → WF s.bl → Open s.bl s.cur → Ext s.bl (· = s.cur) (loopsN n) (lowN n s).2.bl (Oat (lowN n s))
  | .mk k a x t e arms, d, s, hf, w, ho => by
    rw [formedN] at hf
    simp only [Bool.and_eq_true, Bool.not_eq_true', Bool.or_eq_false_iff, decide_eq_false_iff_not, Bool.and_eq_false_iff, beq_eq_false_iff_ne] at hf
    obtain ⟨⟨⟨⟨⟨⟨hd, hk1⟩, hk6⟩, hk4⟩, hft⟩, hfe⟩, hfa⟩ := hf
    rw [lowN, loopsN]
    generalize hq : (if k = 3 then 1 else 0) = q
    have hsing : ∀ i : Nat, i ∈ [s.cur] ↔ i = s.cur := fun i => List.mem_singleton
    have hops : ∀ e, e ∈ [s.cur] → Open s.bl e := fun e he => by rw [List.mem_singleton.1 he]; exact ho
    by_cases h1 : k = 1
    · rw [if_pos h1]
      exact (Ext.ins w ho).congr (fun _ => Iff.rfl) (fun i => ⟨fun h => ⟨rfl, h⟩, fun h => h.2⟩) (by omega)
    rw [if_neg h1]
    by_cases h2 : k = 2
    · rw [if_pos h2]
      dsimp only
      have A := Ext.close (k := 2) (a := a) (N := 2) w (by simp) hops (.inr (.inl ⟨rfl, rfl⟩)) (.inr ⟨_, rfl⟩) (by simp)
      rw [upT_two] at A
      generalize hs1 : (s.add 2).end 2 a [(s.bl.length : Int), (s.bl.length : Int) + 1] = s1
      have e1 : s1.bl = closeL [s.cur] 2 a [(s.bl.length : Int), (s.bl.length : Int) + 1] (s.bl ++ List.replicate 2 Blk.nil) := by rw [← hs1]; rfl
      rw [← e1] at A
      have l1 : s1.bl.length = s.bl.length + 2 := by rw [e1, closeL_len]; simp
      have o1 := fun i h => (A.act i h).1
      have B := lowL_ext t (d - 1) (s1.at s.bl.length) hft A.w1 (o1 s.bl.length ⟨Nat.le_refl _, by omega⟩)
      generalize hr1 : lowL t (s1.at s.bl.length) = r1 at *
      have Bf := B.frame (· = s.bl.length + 1) fun i hi => by subst hi; exact ⟨o1 _ ⟨by omega, by omega⟩, fun h => by have : s.bl.length + 1 = s.bl.length := h; omega⟩
      have AB := A.trans (Bf.congr (O1 := fun i => s.bl.length ≤ i ∧ i < s.bl.length + 2) (fun i => ⟨fun h => h.elim (fun h => by have : i = s.bl.length := h; omega) (fun h => by have : i = s.bl.length + 1 := h; omega), fun h => (Nat.eq_or_lt_of_le h.1).elim (fun h3 => .inl h3.symm) (fun h3 => .inr (by show i = s.bl.length + 1; omega))⟩) (fun _ => Iff.rfl) (Nat.le_refl _))
      have C := lowL_ext e (d - 1) (r1.2.at (s.bl.length + 1)) hfe AB.w1 (AB.act _ (.inr rfl)).1
      generalize hr2 : lowL e (r1.2.at (s.bl.length + 1)) = r2 at *
      have hdis : ∀ i, Oat r1 i → i ≠ s.bl.length + 1 ∧ i < r1.2.bl.length := fun i hi => by
        have h3 := B.act i hi
        refine ⟨fun h4 => ?_, h3.1.lt⟩
        rcases h3.2 with h5 | h5
        · have : i = s.bl.length := h5
          omega
        · have : s1.bl.length ≤ i := h5
          omega
      have Cf := C.frame (Oat r1) fun i hi => ⟨(B.act i hi).1, (hdis i hi).1⟩
      have ABC := AB.trans (Cf.congr (fun i => (Or.comm : _ ↔ (Oat r1 i ∨ i = s.bl.length + 1))) (fun _ => Iff.rfl) (Nat.le_refl _))
      have hes : ∀ i, (Oat r2 i ∨ Oat r1 i) ↔ i ∈ (if r1.1 then [r1.2.cur] else []) ++ (if r2.1 then [r2.2.cur] else []) := fun i => by
        unfold Oat
        cases r1.1 <;> cases r2.1 <;> simp [or_comm]
      have hnd : ((if r1.1 then [r1.2.cur] else []) ++ (if r2.1 then [r2.2.cur] else [])).Nodup := by
        cases h3 : r1.1 <;> cases h4 : r2.1 <;> simp
        intro h5
        obtain ⟨h6, h7⟩ := hdis r1.2.cur ⟨h3, rfl⟩
        rcases (C.act r2.2.cur ⟨h4, rfl⟩).2 with h8 | h8
        · have : r2.2.cur = s.bl.length + 1 := h8
          omega
        · have : r1.2.bl.length ≤ r2.2.cur := h8
          omega
      have D := Ext.join ABC.w1 hnd (fun i hi => (ABC.act i ((hes i).2 hi)).1)
      refine (ABC.trans (D.congr (fun i => (hes i).symm) (fun _ => Iff.rfl) (Nat.le_refl _))).congr hsing (fun _ => Iff.rfl) ?_
      omega
    rw [if_neg h2]
    by_cases h3 : k = 3
    · rw [if_pos h3]
      dsimp only
      have A := Ext.close (k := 1) (a := 0) (N := 1) w (by simp) hops (.inl ⟨rfl, rfl⟩) (.inl rfl) (by simp)
      rw [show upT s.bl.length 1 = [(s.bl.length : Int)] by simp [upT]] at A
      generalize hX : closeL [s.cur] 1 0 [(s.bl.length : Int)] (s.bl ++ List.replicate 1 Blk.nil) = X at A
      have lX : X.length = s.bl.length + 1 := by rw [← hX, closeL_len]; simp
      have A2 := Ext.close (k := 2) (a := a) (N := 2) A.w1 (es := [s.bl.length]) (by simp) (fun e he => by rw [List.mem_singleton.1 he]; exact (A.act _ ⟨Nat.le_refl _, by omega⟩).1) (.inr (.inl ⟨rfl, rfl⟩)) (.inr ⟨_, rfl⟩) (by simp)
      rw [upT_two] at A2
      rw [lX] at A2
      have AA := A.trans (A2.congr (O1 := fun i => s.bl.length ≤ i ∧ i < s.bl.length + 1) (fun i => ⟨fun h => by have := List.mem_singleton.1 h; omega, fun h => List.mem_singleton.2 (by omega)⟩) (fun _ => Iff.rfl) (Nat.le_refl _))
      generalize hs1 : (((s.add 3).end 1 0 [(s.bl.length : Int)]).at s.bl.length).end 2 a [(s.bl.length : Int) + 1, (s.bl.length : Int) + 2] = s1
      have e1 : s1.bl = closeL [s.bl.length] 2 a [((s.bl.length + 1 : Nat) : Int), ((s.bl.length + 1 : Nat) : Int) + 1] (X ++ List.replicate 2 Blk.nil) := by
        rw [← hs1, ← hX]
        show ((s.bl ++ List.replicate 3 Blk.nil).modify s.cur _).modify s.bl.length _ = (((s.bl ++ List.replicate 1 Blk.nil).modify s.cur _) ++ List.replicate 2 Blk.nil).modify s.bl.length _
        rw [← modify_app (by have := ho.lt; simp; omega), List.append_assoc, List.replicate_append_replicate]
        have : ((s.bl.length + 1 : Nat) : Int) + 1 = (s.bl.length : Int) + 2 := by omega
        rw [this]
        rfl
      rw [← e1] at AA A2
      have l1 : s1.bl.length = s.bl.length + 3 := by rw [e1, closeL_len]; simp [lX]
      have o1 := fun i h => (AA.act i h).1
      have B := lowL_ext t (d - 1) (s1.at (s.bl.length + 1)) hft AA.w1 (o1 (s.bl.length + 1) ⟨by omega, by omega⟩)
      generalize hr : lowL t (s1.at (s.bl.length + 1)) = r at *
      have Bf := B.frame (· = s.bl.length + 2) fun i hi => by subst hi; exact ⟨o1 _ ⟨by omega, by omega⟩, fun h => by have : s.bl.length + 2 = s.bl.length + 1 := h; omega⟩
      have AB := AA.trans (Bf.congr (O1 := fun i => s.bl.length + 1 ≤ i ∧ i < s.bl.length + 1 + 2) (fun i => ⟨fun h => h.elim (fun h => by have : i = s.bl.length + 1 := h; omega) (fun h => by have : i = s.bl.length + 2 := h; omega), fun h => (Nat.eq_or_lt_of_le h.1).elim (fun h3 => .inl h3.symm) (fun h3 => .inr (by show i = s.bl.length + 2; omega))⟩) (fun _ => Iff.rfl) (Nat.le_refl _))
      have hcl := ho.lt
      -- the head
      have hh1 : s1.bl[s.bl.length]? = some ⟨Blk.nil.code, 2, a, some [((s.bl.length + 1 : Nat) : Int), ((s.bl.length + 1 : Nat) : Int) + 1]⟩ := by
        rw [e1]
        show ((X ++ List.replicate 2 Blk.nil).modify s.bl.length _)[s.bl.length]? = _
        rw [List.getElem?_modify, List.getElem?_append_left (by omega), ← hX, closeL_not _ _ (by simp; omega), List.getElem?_append_right (Nat.le_refl _), Nat.sub_self]
        exact congrArg some (if_pos rfl)
      have hh : r.2.bl[s.bl.length]? = some ⟨Blk.nil.code, 2, a, some [((s.bl.length + 1 : Nat) : Int), ((s.bl.length + 1 : Nat) : Int) + 1]⟩ := (B.fr _ (by show _ < s1.bl.length; rw [l1]; omega) (fun h => by have : s.bl.length = s.bl.length + 1 := h; omega)).trans hh1
      -- the entry
      have hcur : ∀ b, r.2.bl[s.cur]? = some b → b.kind = 1 := fun b hb => by
        rw [B.fr s.cur (by show _ < s1.bl.length; rw [l1]; omega) (fun h => by have : s.cur = s.bl.length + 1 := h; omega)] at hb
        replace hb : s1.bl[s.cur]? = some b := hb
        rw [e1] at hb
        rw [closeL_not _ _ (by simp; omega), List.getElem?_append_left (by omega), ← hX] at hb
        obtain ⟨b', g1, g2, g3⟩ := closeL_mem (k := 1) (a := 0) (ts := [(s.bl.length : Int)]) (i := s.cur) [s.cur] (s.bl ++ List.replicate 1 Blk.nil) (by simp) (by simp; omega)
        rw [hb] at g1
        cases g1
        exact g2
      have hout : ∀ i, Oat r i → i ≠ s.bl.length + 2 := fun i hi h4 => by
        rcases (B.act i hi).2 with h5 | h5
        · have : i = s.bl.length + 1 := h5
          omega
        · have : s1.bl.length ≤ i := h5
          omega
      by_cases hr1 : r.1 = true
      · rw [if_pos hr1]
        have J := AB.backJ (c := r.2.cur) (h := s.bl.length) (.inl ⟨hr1, rfl⟩) (Nat.le_refl _) ⟨_, hh, rfl⟩ fun i b hi hb hk ht => by
          by_cases g1 : i = s.cur
          · subst g1; exact hk (hcur b hb)
          by_cases g2 : i = s.bl.length
          · subst g2
            rw [hh] at hb
            cases hb
            simp only [Blk.ts, Option.getD_some, List.mem_cons, List.not_mem_nil, or_false] at ht
            omega
          by_cases g3 : i = s.bl.length + 2
          · rw [((AB.act i (.inr g3)).1.get hb).2] at ht; cases ht
          have g4 : i = s.bl.length + 1 ∨ s1.bl.length ≤ i := by
            rcases hi with hi | hi
            · exact absurd (hsing i |>.1 hi) g1
            · omega
          rcases B.new i g4 (List.getElem?_eq_some_iff.1 hb).1 with g5 | ⟨b', g5, _, g6⟩
          · rw [((B.act i g5).1.get hb).2] at ht; cases ht
          · rw [hb] at g5
            cases g5
            have := (g6 _ ht).1
            have e2 : (s1.at (s.bl.length + 1)).bl.length = s1.bl.length := rfl
            omega
        rw [if_pos h3] at hq
        refine J.congr hsing (fun i => ?_) (by omega)
        constructor
        · rintro ⟨h4 | h4, h5⟩
          · exact absurd h4.2 h5
          · exact ⟨rfl, h4⟩
        · rintro ⟨_, h4⟩
          exact ⟨.inr h4, fun h5 => hout i ⟨hr1, h5⟩ h4⟩
      · rw [if_neg hr1]
        refine AB.congr hsing (fun i => ?_) (by omega)
        constructor
        · rintro (h4 | h4)
          · exact absurd h4.1 hr1
          · exact ⟨rfl, h4⟩
        · rintro ⟨_, h4⟩
          exact .inr h4
    rw [if_neg h3]
    by_cases h4 : k = 4
    · rw [if_pos h4]
      dsimp only
      have hne : 0 < arms.length := by
        rcases hk4 with h | h
        · exact absurd h4 h
        · exact List.length_pos_iff.2 h
      have A := Ext.close (k := 3) (a := a) (N := arms.length) w (by simp) hops (.inr (.inr (.inl ⟨rfl, hne⟩))) (.inr ⟨_, rfl⟩) (by simp)
      generalize hs1 : (s.add arms.length).end 3 a ((List.range arms.length).map fun (i : Nat) => (s.bl.length : Int) + (i : Int)) = s1
      have e1 : s1.bl = closeL [s.cur] 3 a (upT s.bl.length arms.length) (s.bl ++ List.replicate arms.length Blk.nil) := by rw [← hs1]; rfl
      rw [← e1] at A
      obtain ⟨B, hnd⟩ := lowP_ext arms (d - 1) s.bl.length s1 hfa A.w1 (fun i h => (A.act i h).1) (by rw [e1, closeL_len]; simp)
      have AB := A.trans B
      refine (AB.trans (Ext.join AB.w1 hnd (fun i hi => (AB.act i hi).1))).congr hsing (fun _ => Iff.rfl) ?_
      omega
    rw [if_neg h4]
    have hend : ∀ k' a' : Int, k' = 4 ∨ k' = 5 → Ext s.bl (· = s.cur) 0 (s.end k' a' []).bl (Oat (false, s.end k' a' [])) := fun k' a' hk' => by
      have A := Ext.close (k := k') (a := a') (N := 0) w (by simp) hops (by rcases hk' with h | h; exact .inr (.inr (.inr (.inl ⟨h, rfl⟩))); exact .inr (.inr (.inr (.inr ⟨h, rfl⟩)))) (.inr ⟨_, rfl⟩) (by simp)
      rw [show upT s.bl.length 0 = [] from rfl, show s.bl ++ List.replicate 0 Blk.nil = s.bl by simp] at A
      exact A.congr hsing (fun i => ⟨fun h => absurd h.2 (by omega), fun h => absurd h.1 (by simp)⟩) (Nat.le_refl _)
    split
    · refine (hend 4 a (.inl rfl)).congr (fun _ => Iff.rfl) (fun _ => Iff.rfl) ?_
      omega
    · refine (hend 5 0 (.inr rfl)).congr (fun _ => Iff.rfl) (fun _ => Iff.rfl) ?_
      omega
theorem lowL_ext : ∀ (l : List Nd) (d : Int) (s : LS), formedL l d = true → WF s.bl → Open s.bl s.cur → Ext s.bl (· = s.cur) (loopsL l) (lowL l s).2.bl (Oat (lowL l s))
  | [], d, s, _, w, ho => by
    rw [lowL, loopsL]
    exact (Ext.refl w (fun i hi => by rw [hi]; exact ho)).congr (fun _ => Iff.rfl) (fun i => ⟨fun h => ⟨rfl, h⟩, fun h => h.2⟩) (Nat.le_refl _)
  | n :: l, d, s, hf, w, ho => by
    rw [formedL, Bool.and_eq_true] at hf
    have A := lowN_ext n d s hf.1 w ho
    rw [lowL, loopsL]
    by_cases hr : (lowN n s).1 = true
    · rw [if_pos hr]
      have B := lowL_ext l d (lowN n s).2 hf.2 A.w1 (A.act _ ⟨hr, rfl⟩).1
      exact A.trans (B.congr (fun i => ⟨fun h => ⟨hr, h⟩, fun h => h.2⟩) (fun _ => Iff.rfl) (Nat.le_refl _))
    · rw [if_neg hr]
      exact A.congr (fun _ => Iff.rfl) (fun i => ⟨fun h => absurd h.1 hr, fun h => absurd h.1 (by simp)⟩) (by omega)
theorem lowP_ext : ∀ (ps : List (List Nd)) (d : Int) (f : Nat) (s : LS), formedP ps d = true → WF s.bl → (∀ i, f ≤ i ∧ i < f + ps.length → Open s.bl i) → f + ps.length ≤ s.bl.length → Ext s.bl (fun i => f ≤ i ∧ i < f + ps.length) (loopsP ps) (lowP ps f s).2.bl (· ∈ (lowP ps f s).1) ∧ (lowP ps f s).1.Nodup
  | [], d, f, s, _, w, ho, hl => by
    rw [lowP, loopsP]
    exact ⟨(Ext.refl w ho).congr (fun _ => Iff.rfl) (fun i => ⟨fun h => absurd h.2 (by simp; omega), fun h => (by cases h)⟩) (Nat.le_refl _), List.nodup_nil⟩
  | p :: ps, d, f, s, hf, w, ho, hl => by
    rw [formedP, Bool.and_eq_true] at hf
    rw [lowP, loopsP]
    try dsimp only
    simp only [List.length_cons] at ho hl ⊢
    have A := lowL_ext p d (s.at f) hf.1 w (ho f ⟨Nat.le_refl _, by omega⟩)
    generalize lowL p (s.at f) = r at *
    have Af := A.frame (fun i => f + 1 ≤ i ∧ i < f + 1 + ps.length) fun i hi => ⟨ho i ⟨by omega, by omega⟩, fun h => by have : i = f := h; omega⟩
    have hdis : ∀ i, Oat r i → ¬ (f + 1 ≤ i ∧ i < f + 1 + ps.length) ∧ i < r.2.bl.length := fun i hi => by
      have h3 := A.act i hi
      refine ⟨fun h4 => ?_, h3.1.lt⟩
      rcases h3.2 with h5 | h5
      · have : i = f := h5
        omega
      · have : s.bl.length ≤ i := h5
        omega
    have hlen : s.bl.length ≤ r.2.bl.length := A.len
    obtain ⟨B, hnd⟩ := lowP_ext ps d (f + 1) r.2 hf.2 A.w1 (fun i hi => (Af.act i (.inr hi)).1) (by omega)
    generalize lowP ps (f + 1) r.2 = r2 at *
    have Bf := B.frame (Oat r) fun i hi => ⟨(A.act i hi).1, (hdis i hi).1⟩
    refine ⟨(Af.trans (Bf.congr (fun i => (Or.comm : _ ↔ (Oat r i ∨ (f + 1 ≤ i ∧ i < f + 1 + ps.length)))) (fun _ => Iff.rfl) (Nat.le_refl _))).congr (fun i => ?_) (fun i => ?_) (Nat.le_refl _), ?_⟩
    · constructor
      · rintro (h | h)
        · have : i = f := h
          omega
        · omega
      · intro h
        by_cases h3 : i = f
        · exact .inl h3
        · exact .inr (by omega)
    · unfold Oat
      cases r.1 <;> simp [or_comm]
    · cases h3 : r.1
      · simpa using hnd
      · simp only [if_true, List.singleton_append, List.nodup_cons]
        refine ⟨fun h4 => ?_, hnd⟩
        obtain ⟨h6, h7⟩ := hdis r.2.cur ⟨h3, rfl⟩
        rcases (B.act _ h4).2 with h5 | h5
        · exact h6 h5
        · omega
end
end Go.Low

/- Chapter 10: the shape of the blocks of a lowering (plain Lean). -/
set_option linter.unusedVariables false
set_option linter.unusedSimpArgs false
namespace Go.Low
open Go Go.Am Go.Proofs.Ytdheeecpkkjfiaa

def bcnt (p : Nat → Int → Bool) : Nat → List Bk → Nat
  | _, [] => 0
  | k, b :: l => b.tg.countP (p k) + bcnt p (k + 1) l

theorem frz_rel : ∀ {bl : List Blk} {B : List Bk}, bl.map frzB = B.map Bk.av → bl.map (fun b => (b.kind, b.ts)) = B.map fun x => (x.kind, x.tg)
  | [], [], _ => rfl
  | [], _ :: _, h => by simp at h
  | _ :: _, [], h => by simp at h
  | b :: bl, x :: B, h => by
    simp only [List.map_cons, List.cons.injEq] at h ⊢
    refine ⟨?_, frz_rel h.2⟩
    have h1 := h.1
    unfold frzB Bk.av at h1
    injection h1 with h1
    injection h1 with _ h1
    injection h1 with h2 h1
    injection h1 with _ h1
    injection h1 with h3 _
    injection h3 with h3
    injection h2 with _ h2
    have h4 : b.ts = x.tg := by
      refine List.map_inj_right (f := AV.i) (fun a b h => ?_) |>.1 h3
      injection h
    rw [h2, h4]

theorem cnt_rel {p : Nat → Int → Bool} : ∀ {bl : List Blk} {B : List Bk} {k : Nat}, bl.map (fun b => (b.kind, b.ts)) = B.map (fun x => (x.kind, x.tg)) → cnt p k bl = bcnt p k B
  | [], [], _, _ => rfl
  | [], _ :: _, _, h => by simp at h
  | _ :: _, [], _, h => by simp at h
  | b :: bl, x :: B, k, h => by
    simp only [List.map_cons, List.cons.injEq, Prod.mk.injEq] at h
    rw [cnt, bcnt, h.1.2, cnt_rel h.2]

structure BOk (B : List Bk) (n : Nat) : Prop where
  pos : 0 < B.length
  good : ∀ (i : Nat) (x : Bk), B[i]? = some x → Shp x.kind x.tg.length ∧ ∀ t : Int, t ∈ x.tg → 1 ≤ t ∧ t < B.length ∧ (t ≤ i → x.kind = 1 ∧ ∃ c, B[t.toNat]? = some c ∧ c.kind = 2)
  back : bcnt bkT 0 B ≤ n
  uniq : ∀ (i : Nat) (x : Bk) (t : Int), B[i]? = some x → x.kind ≠ 1 → t ∈ x.tg → bcnt (eqT t) 0 B = 1
  reach : ∀ S : Nat → Prop, S 0 → (∀ (i : Nat) (x : Bk) (t : Int), B[i]? = some x → t ∈ x.tg → S i → S t.toNat) → ∀ i : Nat, i < B.length → S i

theorem low_bok {l : List Nd} {B : List Bk} (h : (lowRes l).1.map frzB = B.map Bk.av) (he : (lowRes l).2 = 0) : BOk B (loopsL l) := by
  unfold lowRes at h he
  by_cases hf : formedL l 60 = false
  · rw [if_pos hf] at he; cases he
  rw [if_neg hf] at h he
  by_cases hl : (lowL l lowS0).1 = true
  · rw [if_pos hl] at he; cases he
  rw [if_neg hl] at h he
  by_cases hb : 200 < (lowL l lowS0).2.bl.length ∨ (∃ b, b ∈ (lowL l lowS0).2.bl ∧ 400 < b.code.length)
  · rw [if_pos hb] at he; cases he
  rw [if_neg hb] at h
  replace h := frz_rel h
  have A := lowL_ext l 60 lowS0 (by simpa using hf) (fun t _ => rfl) ⟨Blk.nil, rfl, rfl, rfl⟩
  generalize (lowL l lowS0).2.bl = bl at *
  replace h : bl.map (fun b => (b.kind, b.ts)) = B.map (fun x => (x.kind, x.tg)) := h
  have hlen : bl.length = B.length := by simpa using congrArg List.length h
  have hA := A.len
  have hL : lowS0.bl.length = 1 := rfl
  have hget : ∀ {i : Nat} {x : Bk}, B[i]? = some x → ∃ b, bl[i]? = some b ∧ b.kind = x.kind ∧ b.ts = x.tg := fun {i x} hx => by
    have := congrArg (fun m => m[i]?) h
    simp only [List.getElem?_map, hx, Option.map_some] at this
    cases hb : bl[i]? with
    | none => rw [hb] at this; cases this
    | some b =>
      rw [hb] at this
      injection this with this
      injection this with h1 h2
      exact ⟨b, rfl, h1, h2⟩
  have hget2 : ∀ {i : Nat} {b : Blk}, bl[i]? = some b → ∃ x, B[i]? = some x ∧ b.kind = x.kind ∧ b.ts = x.tg := fun {i b} hx => by
    have := congrArg (fun m => m[i]?) h
    simp only [List.getElem?_map, hx, Option.map_some] at this
    cases hb : B[i]? with
    | none => rw [hb] at this; cases this
    | some b =>
      rw [hb] at this
      injection this with this
      injection this with h1 h2
      exact ⟨b, rfl, h1, h2⟩
  have hnew : ∀ i : Nat, i = lowS0.cur ∨ lowS0.bl.length ≤ i := fun i => by
    rw [hL]
    rcases Nat.eq_zero_or_pos i with h | h
    · exact .inl h
    · exact .inr h
  refine ⟨by omega, fun i x hx => ?_, by rw [← cnt_rel h]; have := A.back; have e : cnt bkT 0 lowS0.bl = 0 := rfl; omega, fun i x t hx hk ht => ?_, fun S h0 hC i hi => ?_⟩
  · obtain ⟨b, h1, h2, h3⟩ := hget hx
    rcases A.new i (hnew i) (List.getElem?_eq_some_iff.1 h1).1 with h4 | ⟨b', h4, h5, h6⟩
    · exact absurd h4.1 hl
    · rw [h1] at h4
      cases h4
      rw [← h2, ← h3]
      refine ⟨h5, fun t ht => ?_⟩
      obtain ⟨h7, h8, h9⟩ := h6 t ht
      refine ⟨by omega, by omega, fun hti => ⟨(h9 hti).1, ?_⟩⟩
      obtain ⟨c, hc, hk⟩ := (h9 hti).2
      obtain ⟨y, hy, hy2, _⟩ := hget2 hc
      exact ⟨y, hy, by omega⟩
  · obtain ⟨b, h1, h2, h3⟩ := hget hx
    rw [← cnt_rel h]
    exact A.uniq i b t (hnew i) h1 (by rw [h2]; exact hk) (by rw [h3]; exact ht)
  · rcases Nat.eq_zero_or_pos i with h1 | h1
    · rw [h1]; exact h0
    · exact A.reach S (fun o ho => by have : o = 0 := ho; rw [this]; exact h0) (fun j b t hb ht hs => by
        obtain ⟨x, hx, _, hx3⟩ := hget2 hb
        exact hC j x t hx (by rw [← hx3]; exact ht) hs) i h1 (by omega)
end Go.Low
