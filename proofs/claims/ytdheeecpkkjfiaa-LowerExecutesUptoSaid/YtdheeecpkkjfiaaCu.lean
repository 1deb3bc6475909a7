/- A part of the proof: an abstract machine for the walks, and what the walked functions compute. -/
import Derived.Test.YtdheeecpkkjfiaaCr
import Derived.Test.YtdheeecpkkjfiaaCob
import Derived.Test.YtdheeecpkkjfiaaCb
set_option linter.unusedVariables false
set_option linter.unusedSimpArgs false
/- Chapter 10: what executing nodes and following blocks do (plain Lean). -/
set_option linter.unusedVariables false
set_option linter.unusedSimpArgs false
namespace Go.Low
open Go Go.Am

inductive Ev where
  | ins (x : Ins)
  | mark (k a : Int)

/-- The state of a run. -/
structure RS where
  ch : List Nat
  at_ : Nat
  ev : List Ev
  ov : Bool

def RS.note (s : RS) (e : Ev) : RS := ⟨s.ch, s.at_, s.ev ++ [e], s.ov || decide (200 ≤ s.ev.length + 1)⟩
def RS.over (s : RS) : RS := ⟨s.ch, s.at_, s.ev, true⟩
/-- The next decision, out of n. -/
def RS.pick (s : RS) (n : Nat) : Nat := if s.ch = [] then 0 else s.ch.getD (s.at_ % s.ch.length) 0 % n
def RS.next (s : RS) : RS := if s.ch = [] then s else ⟨s.ch, s.at_ + 1, s.ev, s.ov⟩

@[simp] theorem RS.note_ov (s : RS) (e : Ev) : (s.note e).ov = (s.ov || decide (200 ≤ s.ev.length + 1)) := rfl
@[simp] theorem RS.note_ev (s : RS) (e : Ev) : (s.note e).ev = s.ev ++ [e] := rfl
@[simp] theorem RS.next_ov (s : RS) : s.next.ov = s.ov := by unfold RS.next; split <;> rfl
@[simp] theorem RS.next_ev (s : RS) : s.next.ev = s.ev := by unfold RS.next; split <;> rfl
@[simp] theorem RS.over_ov (s : RS) : s.over.ov = true := rfl
@[simp] theorem RS.over_ev (s : RS) : s.over.ev = s.ev := rfl
theorem RS.pick_lt (s : RS) {n : Nat} (h : 0 < n) : s.pick n < n := by
  unfold RS.pick
  split
  · exact h
  · exact Nat.mod_lt _ h

/-- What is executed: nodes, one node, the rounds of a loop. -/
inductive Cm where
  | l (l : List Nd)
  | n (n : Nd)
  | w (a : Int) (t : List Nd)

inductive Ex : Cm → RS → RS → Prop
  | nil (s : RS) : Ex (.l []) s s
  | ov {l : List Nd} {s : RS} (h : s.ov = true) : Ex (.l l) s s
  | cons {n : Nd} {l : List Nd} {s t u : RS} (h : s.ov = false) (h1 : Ex (.n n) s t) (h2 : Ex (.l l) t u) : Ex (.l (n :: l)) s u
  | k1 {n : Nd} {s : RS} (h : n.kind = 1) : Ex (.n n) s (s.note (.ins n.ins))
  | k2 {n : Nd} {s t : RS} (h : n.kind = 2) (h1 : Ex (.l (if (s.note (.mark 2 n.a)).pick 2 = 0 then n.thn else n.els)) (s.note (.mark 2 n.a)).next t) : Ex (.n n) s t
  | k3 {n : Nd} {s t : RS} (h : n.kind = 3) (h1 : Ex (.w n.a n.thn) (s.note (.mark 2 n.a)) t) : Ex (.n n) s t
  | k4 {n : Nd} {s t : RS} {p : List Nd} (h : n.kind = 4) (hp : n.arms[(s.note (.mark 3 n.a)).pick n.arms.length]? = some p) (h1 : Ex (.l p) (s.note (.mark 3 n.a)).next t) : Ex (.n n) s t
  | k5 {n : Nd} {s : RS} (h : n.kind = 5) : Ex (.n n) s (s.note (.mark 4 n.a)).over
  | k6 {n : Nd} {s : RS} (h : n.kind = 6) : Ex (.n n) s (s.note (.mark 5 0)).over
  | out {a : Int} {p : List Nd} {s : RS} (h : s.pick 2 ≠ 0 ∨ s.ov = true) : Ex (.w a p) s s.next
  | on {a : Int} {p : List Nd} {s t u : RS} (h : s.pick 2 = 0) (h0 : s.ov = false) (h1 : Ex (.l p) s.next t) (h2 : Ex (.w a p) (if t.ov then t else t.note (.mark 2 a)) u) : Ex (.w a p) s u

/-- Following the blocks: from a place in a block to another one, with a number of ends of blocks. -/
inductive St1 (B : List Bk) : Nat → Nat → RS → Nat → Nat → Nat → RS → Prop
  | refl (b k : Nat) (s : RS) : St1 B b k s 0 b k s
  | ins {b k : Nat} {s : RS} {x : Bk} {c : Ins} {n b' k' : Nat} {s' : RS} (h : s.ov = false) (hx : B[b]? = some x) (hc : x.code[k]? = some c) (h1 : St1 B b (k + 1) (s.note (.ins c)) n b' k' s') : St1 B b k s n b' k' s'
  | jump {b : Nat} {s : RS} {x : Bk} {t n b' k' : Nat} {s' : RS} (h : s.ov = false) (hx : B[b]? = some x) (hk : x.kind = 1) (ht : x.tg = [(t : Int)]) (h1 : St1 B t 0 s n b' k' s') : St1 B b x.code.length s (n + 1) b' k' s'
  | br {b : Nat} {s : RS} {x : Bk} {t n b' k' : Nat} {s' : RS} (h : s.ov = false) (hx : B[b]? = some x) (hk : x.kind = 2 ∨ x.kind = 3) (ht : x.tg[(s.note (.mark x.kind x.a)).pick x.tg.length]? = some (t : Int)) (h1 : St1 B t 0 (s.note (.mark x.kind x.a)).next n b' k' s') : St1 B b x.code.length s (n + 1) b' k' s'
  | fin {b : Nat} {s : RS} {x : Bk} {n b' k' : Nat} {s' : RS} (h : s.ov = false) (hx : B[b]? = some x) (hk : x.kind = 4 ∨ x.kind = 5) (h1 : St1 B b x.code.length (s.note (.mark x.kind x.a)).over n b' k' s') : St1 B b x.code.length s (n + 1) b' k' s'

theorem St1.trans {B : List Bk} {b k b1 k1 b2 k2 n m : Nat} {s s1 s2 : RS} (h : St1 B b k s n b1 k1 s1) (h2 : St1 B b1 k1 s1 m b2 k2 s2) : St1 B b k s (n + m) b2 k2 s2 := by
  induction h with
  | refl b k s => rw [Nat.zero_add]; exact h2
  | ins h hx hc _ ih => exact .ins h hx hc (ih h2)
  | jump h hx hk ht _ ih => rw [show ∀ n : Nat, n + 1 + m = n + m + 1 by intro n; omega]; exact .jump h hx hk ht (ih h2)
  | br h hx hk ht _ ih => rw [show ∀ n : Nat, n + 1 + m = n + m + 1 by intro n; omega]; exact .br h hx hk ht (ih h2)
  | fin h hx hk _ ih => rw [show ∀ n : Nat, n + 1 + m = n + m + 1 by intro n; omega]; exact .fin h hx hk (ih h2)

end Go.Low

/- Chapter 10: following the blocks does what executing the nodes does (plain Lean). -/
set_option linter.unusedVariables false
set_option linter.unusedSimpArgs false
namespace Go.Low
open Go Go.Am Go.Proofs.Ytdheeecpkkjfiaa

/-- The blocks B are what these become. -/
def Emb (bl : List Blk) (B : List Bk) : Prop := ∀ (i : Nat) (b : Blk), bl[i]? = some b → ∃ x : Bk, B[i]? = some x ∧ (∃ c, insl x.code = b.code ++ c) ∧ (b.kind ≠ 0 → x.kind = b.kind ∧ x.a = b.a ∧ x.tg = b.ts ∧ x.code.length = b.code.length)

theorem Emb.pre {bl bl' : List Blk} {B : List Bk} (h : Pre bl bl') (g : Emb bl' B) : Emb bl B := fun i b hb => by
  obtain ⟨b', h1, ⟨c1, h2⟩, h3⟩ := h.pre i b hb
  obtain ⟨x, g1, ⟨c2, g2⟩, g3⟩ := g i b' h1
  refine ⟨x, g1, ⟨c1 ++ c2, by rw [g2, h2, List.append_assoc]⟩, fun hk => ?_⟩
  have e := h3 hk
  subst e
  exact g3 hk

def plen (bl : List Blk) (i : Nat) : Nat := ((bl[i]?).map fun b => b.code.length).getD 0
theorem plen_of {bl : List Blk} {i : Nat} {b : Blk} (h : bl[i]? = some b) : plen bl i = b.code.length := by unfold plen; rw [h]; rfl

/-- From a place to another one, or to the end of the run; two ends of blocks for each event. -/
structure Rch (B : List Bk) (b k : Nat) (s : RS) (f : Bool) (b' k' : Nat) (t : RS) : Prop where
  on : t.ov = false → f = true ∧ ∃ n, n + 2 * s.ev.length ≤ 2 * t.ev.length ∧ St1 B b k s n b' k' t
  off : t.ov = true → ∃ n b2 k2 s2, n + 2 * s.ev.length ≤ 2 * t.ev.length ∧ St1 B b k s n b2 k2 s2 ∧ s2.ov = true ∧ s2.ev = t.ev

theorem Rch.wrap {B : List Bk} {b k b1 k1 b2 k2 b3 k3 p q : Nat} {s s1 t : RS} {f f1 : Bool} (h : Rch B b1 k1 s1 f1 b2 k2 t) (hs : s1.ev.length = s.ev.length + 1)
    (hp : ∀ n' b' k' s', St1 B b1 k1 s1 n' b' k' s' → St1 B b k s (n' + p) b' k' s') (hq : t.ov = false → f1 = true → f = true ∧ St1 B b2 k2 t q b3 k3 t) (hpq : p + q ≤ 2) : Rch B b k s f b3 k3 t where
  on := fun ht => by
    obtain ⟨h1, n, h2, h3⟩ := h.on ht
    obtain ⟨h4, h5⟩ := hq ht h1
    exact ⟨h4, n + q + p, by omega, hp _ _ _ _ (h3.trans h5)⟩
  off := fun ht => by
    obtain ⟨n, b2, k2, s2, h1, h2, h3⟩ := h.off ht
    exact ⟨n + p, b2, k2, s2, by omega, hp _ _ _ _ h2, h3⟩

theorem Rch.seq {B : List Bk} {b k b1 k1 b2 k2 : Nat} {s t u : RS} {f : Bool} (h : Rch B b k s true b1 k1 t) (ht : t.ov = false) (g : Rch B b1 k1 t f b2 k2 u) : Rch B b k s f b2 k2 u where
  on := fun hu => by
    obtain ⟨_, n, h1, h2⟩ := h.on ht
    obtain ⟨h3, m, h4, h5⟩ := g.on hu
    exact ⟨h3, n + m, by omega, h2.trans h5⟩
  off := fun hu => by
    obtain ⟨_, n, h1, h2⟩ := h.on ht
    obtain ⟨m, b2, k2, s2, h4, h5, h6⟩ := g.off hu
    exact ⟨n + m, b2, k2, s2, by omega, h2.trans h5, h6⟩

theorem Rch.stop {B : List Bk} {b k b' k' : Nat} {s : RS} {f : Bool} (h : s.ov = true) : Rch B b k s f b' k' s := ⟨fun g => (by rw [h] at g; cases g), fun _ => ⟨0, b, k, s, by omega, .refl b k s, h, rfl⟩⟩

def Sim (B : List Bk) : Cm → RS → RS → Prop
  | .l l, s, t => ∀ d ls, formedL l d = true → WF ls.bl → Open ls.bl ls.cur → Emb (lowL l ls).2.bl B → Rch B ls.cur (plen ls.bl ls.cur) s (lowL l ls).1 (lowL l ls).2.cur (plen (lowL l ls).2.bl (lowL l ls).2.cur) t
  | .n n, s, t => s.ov = false → ∀ d ls, formedN n d = true → WF ls.bl → Open ls.bl ls.cur → Emb (lowN n ls).2.bl B → Rch B ls.cur (plen ls.bl ls.cur) s (lowN n ls).1 (lowN n ls).2.cur (plen (lowN n ls).2.bl (lowN n ls).2.cur) t
  | .w a p, s, t => ∀ d ls h, formedL p d = true → WF ls.bl → Open ls.bl ls.cur → ls.cur = h + 1 → plen ls.bl (h + 1) = 0 → Emb (lowL p ls).2.bl B →
      (∃ x : Bk, B[h]? = some x ∧ x.code = [] ∧ x.kind = 2 ∧ x.a = a ∧ x.tg = [((h + 1 : Nat) : Int), ((h + 2 : Nat) : Int)]) →
      ((lowL p ls).1 = true → ∃ x : Bk, B[(lowL p ls).2.cur]? = some x ∧ x.kind = 1 ∧ x.tg = [(h : Int)] ∧ x.code.length = plen (lowL p ls).2.bl (lowL p ls).2.cur) →
      Rch B (if s.pick 2 = 0 then h + 1 else h + 2) 0 s.next true (h + 2) 0 t

theorem ex_ov {c : Cm} {s t : RS} (h : Ex c s t) : (∀ l, c = .l l → s.ov = true → t = s) ∧ (∀ a p, c = .w a p → s.ov = true → t = s.next) := by
  cases h with
  | nil s => exact ⟨fun _ _ _ => rfl, fun _ _ h => (by cases h)⟩
  | ov h => exact ⟨fun _ _ _ => rfl, fun _ _ h => (by cases h)⟩
  | cons h _ _ => exact ⟨fun _ _ h2 => (by rw [h] at h2; cases h2), fun _ _ h => (by cases h)⟩
  | k1 h => exact ⟨fun _ h => (by cases h), fun _ _ h => (by cases h)⟩
  | k2 h _ => exact ⟨fun _ h => (by cases h), fun _ _ h => (by cases h)⟩
  | k3 h _ => exact ⟨fun _ h => (by cases h), fun _ _ h => (by cases h)⟩
  | k4 h _ _ => exact ⟨fun _ h => (by cases h), fun _ _ h => (by cases h)⟩
  | k5 h => exact ⟨fun _ h => (by cases h), fun _ _ h => (by cases h)⟩
  | k6 h => exact ⟨fun _ h => (by cases h), fun _ _ h => (by cases h)⟩
  | out h => exact ⟨fun _ h => (by cases h), fun _ _ _ _ => rfl⟩
  | on h h0 _ _ => exact ⟨fun _ h => (by cases h), fun _ _ _ h2 => (by rw [h0] at h2; cases h2)⟩

theorem sim_out {B : List Bk} {a : Int} {p : List Nd} {s : RS} (h : s.pick 2 ≠ 0 ∨ s.ov = true) : Sim B (.w a p) s s.next := by
  intro d ls hh hf w ho hc hl he hx hb
  by_cases hov : s.ov = true
  · exact Rch.stop (by simpa using hov)
  · have hp : s.pick 2 ≠ 0 := h.resolve_right hov
    rw [if_neg hp]
    exact ⟨fun _ => ⟨rfl, 0, by simp, .refl _ _ _⟩, fun g => absurd (by simpa using g) hov⟩

theorem sim_on {B : List Bk} {a : Int} {p : List Nd} {s t u : RS} (h : s.pick 2 = 0) (h0 : s.ov = false) (h1 : Sim B (.l p) s.next t) (e2 : Ex (.w a p) (if t.ov then t else t.note (.mark 2 a)) u) (h2 : Sim B (.w a p) (if t.ov then t else t.note (.mark 2 a)) u) : Sim B (.w a p) s u := by
  intro d ls hh hf w ho hc hl he hx hb
  rw [if_pos h]
  have R1 := h1 d ls hf w ho he
  rw [hc, hl] at R1
  have R2 := h2 d ls hh hf w ho hc hl he hx hb
  cases ht : t.ov
  · rw [ht] at R2 e2
    simp only [Bool.false_eq_true, if_false] at R2 e2
    obtain ⟨hr, n1, hn1, S1⟩ := R1.on ht
    obtain ⟨y, hy, hyk, hyt, hyl⟩ := hb hr
    obtain ⟨x, hx1, hx2, hx3, hx4, hx5⟩ := hx
    have hstep : ∀ {n b' k' s'}, St1 B (if (t.note (.mark 2 a)).pick 2 = 0 then hh + 1 else hh + 2) 0 (t.note (.mark 2 a)).next n b' k' s' → St1 B (hh + 1) 0 s.next (n1 + (n + 1 + 1)) b' k' s' := by
      intro n b' k' s' S
      refine S1.trans ?_
      rw [← hyl]
      refine .jump ht hy hyk hyt ?_
      have := St1.br (B := B) (b := hh) (s := t) (x := x) (n := n) (b' := b') (k' := k') (s' := s') (t := if (t.note (.mark 2 a)).pick 2 = 0 then hh + 1 else hh + 2) ht hx1 (.inl hx3) (by
        rw [hx3, hx4, hx5]
        have hp := (t.note (.mark 2 a)).pick_lt (n := 2) (by omega)
        simp only [List.length_cons, List.length_nil]
        by_cases hp0 : (t.note (.mark 2 a)).pick 2 = 0
        · rw [if_pos hp0, hp0]; rfl
        · rw [if_neg hp0, show (t.note (.mark 2 a)).pick 2 = 1 by omega]; rfl) (by rw [hx3, hx4]; exact S)
      rw [hx2] at this
      exact this
    refine ⟨fun hu => ?_, fun hu => ?_⟩
    · obtain ⟨_, n2, hn2, S2⟩ := R2.on hu
      simp only [RS.next_ev, RS.note_ev, List.length_append, List.length_singleton] at hn1 hn2 ⊢
      exact ⟨trivial, _, by omega, hstep S2⟩
    · obtain ⟨n2, b2, k2, s2, hn2, S2, g⟩ := R2.off hu
      simp only [RS.next_ev, RS.note_ev, List.length_append, List.length_singleton] at hn1 hn2 ⊢
      exact ⟨_, b2, k2, s2, by omega, hstep S2, g⟩
  · rw [ht] at e2
    simp only [if_true] at e2
    have e := (ex_ov e2).2 a p rfl ht
    subst e
    obtain ⟨n, b2, k2, s2, g1, g2, g3, g4⟩ := R1.off ht
    refine ⟨fun hu => ?_, fun _ => ⟨n, b2, k2, s2, by simpa using g1, g2, g3, by simpa using g4⟩⟩
    rw [RS.next_ov, ht] at hu
    cases hu

theorem sim_cons {B : List Bk} {n : Nd} {l : List Nd} {s t u : RS} (h : s.ov = false) (h1 : Sim B (.n n) s t) (e2 : Ex (.l l) t u) (h2 : Sim B (.l l) t u) : Sim B (.l (n :: l)) s u := by
  intro d ls hf w ho he
  rw [formedL, Bool.and_eq_true] at hf
  have A := lowN_ext n d ls hf.1 w ho
  rw [lowL] at he ⊢
  by_cases hr : (lowN n ls).1 = true
  · rw [if_pos hr] at he ⊢
    have C := lowL_ext l d (lowN n ls).2 hf.2 A.w1 (A.act _ ⟨hr, rfl⟩).1
    have R1 := h1 h d ls hf.1 w ho (he.pre C.pre)
    have R2 := h2 d (lowN n ls).2 hf.2 A.w1 (A.act _ ⟨hr, rfl⟩).1 he
    cases ht : t.ov
    · rw [hr] at R1
      exact R1.seq ht R2
    · have e := (ex_ov e2).1 l rfl ht
      subst e
      exact ⟨fun hu => (by rw [ht] at hu; cases hu), R1.off⟩
  · rw [if_neg hr] at he ⊢
    have R1 := h1 h d ls hf.1 w ho he
    cases ht : t.ov
    · exact absurd (R1.on ht).1 hr
    · have e := (ex_ov e2).1 l rfl ht
      subst e
      exact ⟨fun hu => (by rw [ht] at hu; cases hu), R1.off⟩

theorem ends_at {ls : LS} {B : List Bk} {k a : Int} {ts : List Int} (ho : Open ls.bl ls.cur) {bl : List Blk} (hk : k ≠ 0) (hbl : ∀ b, ls.bl[ls.cur]? = some b → bl[ls.cur]? = some ⟨b.code, k, a, some ts⟩) (he : Emb bl B) : ∃ x : Bk, B[ls.cur]? = some x ∧ x.kind = k ∧ x.a = a ∧ x.tg = ts ∧ x.code.length = plen ls.bl ls.cur := by
  obtain ⟨b, h1, _⟩ := ho
  obtain ⟨x, g1, _, g2⟩ := he _ _ (hbl b h1)
  obtain ⟨g3, g4, g5, g6⟩ := g2 hk
  exact ⟨x, g1, g3, g4, g5, by rw [plen_of h1]; exact g6⟩

theorem sim_k1 {B : List Bk} {n : Nd} {s : RS} (h : n.kind = 1) : Sim B (.n n) s (s.note (.ins n.ins)) := by
  intro hs d ls hf w ho he
  obtain ⟨k, a, x, t, e, arms⟩ := n
  replace h : k = 1 := h
  rw [lowN, if_pos h] at he ⊢
  obtain ⟨b, h1, _⟩ := ho
  have hm : (ls.ins x.av).bl[ls.cur]? = some ⟨b.code ++ [x.av], b.kind, b.a, b.tg⟩ := by
    show (ls.bl.modify ls.cur _)[ls.cur]? = _
    rw [List.getElem?_modify, h1]
    exact congrArg some (if_pos rfl)
  obtain ⟨y, g1, ⟨c, g2⟩, _⟩ := he _ _ hm
  have hc : y.code[b.code.length]? = some x := by
    have e := congrArg (fun m => m[b.code.length]?) g2
    simp only [insl, List.getElem?_map, List.append_assoc] at e
    rw [List.getElem?_append_right (Nat.le_refl _), Nat.sub_self] at e
    cases hy : y.code[b.code.length]? with
    | none => rw [hy] at e; cases e
    | some z =>
      rw [hy] at e
      exact congrArg some (ins_av_inj _ _ (Option.some.inj e))
  have S : St1 B ls.cur (plen ls.bl ls.cur) s 0 ls.cur (plen ls.bl ls.cur + 1) (s.note (.ins x)) := by
    rw [plen_of h1]
    exact .ins hs g1 hc (.refl _ _ _)
  have hp : plen (ls.ins x.av).bl ls.cur = plen ls.bl ls.cur + 1 := by rw [plen_of hm, plen_of h1]; simp
  have hp' : plen (ls.ins x.av).bl (ls.ins x.av).cur = plen ls.bl ls.cur + 1 := hp
  refine ⟨fun _ => ⟨rfl, 0, ?_, ?_⟩, fun hu => ⟨0, _, _, _, ?_, S, hu, rfl⟩⟩
  · show 0 + 2 * s.ev.length ≤ 2 * (s.ev ++ [_]).length
    simp only [List.length_append]; omega
  · rw [hp']
    exact S
  · show 0 + 2 * s.ev.length ≤ 2 * (s.ev ++ [_]).length
    simp only [List.length_append]; omega

theorem sim_end {B : List Bk} {ls : LS} {s : RS} {k a : Int} (hk : k = 4 ∨ k = 5) (hs : s.ov = false) (ho : Open ls.bl ls.cur) (he : Emb (ls.end k a []).bl B) {f : Bool} {b' k' : Nat} : Rch B ls.cur (plen ls.bl ls.cur) s f b' k' (s.note (.mark k a)).over := by
  obtain ⟨x, g1, g2, g3, g4, g5⟩ := ends_at ho (k := k) (a := a) (ts := []) (by omega) (fun b hb => by
    show (ls.bl.modify ls.cur _)[ls.cur]? = _
    rw [List.getElem?_modify, hb]
    exact congrArg some (if_pos rfl)) he
  refine ⟨fun hu => (by cases hu), fun _ => ⟨1, ls.cur, x.code.length, (s.note (.mark k a)).over, ?_, ?_, rfl, rfl⟩⟩
  · show 1 + 2 * s.ev.length ≤ 2 * (s.ev ++ [_]).length
    simp only [List.length_append, List.length_singleton]; omega
  · rw [← g5]
    have := St1.fin (B := B) (n := 0) (b' := ls.cur) (k' := x.code.length) (s' := (s.note (.mark k a)).over) hs g1 (by rw [g2]; exact hk) (by rw [g2, g3]; exact .refl _ _ _)
    exact this
end Go.Low

/- Chapter 10: following the blocks of branches (plain Lean). -/
set_option linter.unusedVariables false
set_option linter.unusedSimpArgs false
namespace Go.Low
open Go Go.Am Go.Proofs.Ytdheeecpkkjfiaa

theorem join_post {B : List Bk} {s : LS} {es : List Nat} {e : Nat} (hes : e ∈ es) (ho : ∀ e, e ∈ es → Open s.bl e) (he : Emb (joinL es s).2.bl B) {t : RS} (ht : t.ov = false) :
    (joinL es s).1 = true ∧ St1 B e (plen s.bl e) t 1 (joinL es s).2.cur (plen (joinL es s).2.bl (joinL es s).2.cur) t := by
  have hne : es ≠ [] := by rintro rfl; cases hes
  unfold joinL at he ⊢
  rw [if_neg hne] at he ⊢
  refine ⟨rfl, ?_⟩
  have hbl : (LS.bl ((es.foldl (fun t b => (t.at b).end 1 0 [(s.bl.length : Int)]) (s.add 1)).at s.bl.length)) = closeL es 1 0 [(s.bl.length : Int)] (s.bl ++ List.replicate 1 Blk.nil) := foldl_end _ es _
  have he' : Emb (closeL es 1 0 [(s.bl.length : Int)] (s.bl ++ List.replicate 1 Blk.nil)) B := by rw [← hbl]; exact he
  have hp : plen (closeL es 1 0 [(s.bl.length : Int)] (s.bl ++ List.replicate 1 Blk.nil)) s.bl.length = 0 := by
    rw [plen_of (b := Blk.nil)]
    · rfl
    rw [closeL_not es _ (fun h => by have := (ho _ h).lt; omega), List.getElem?_append_right (Nat.le_refl _), Nat.sub_self]
    rfl
  obtain ⟨b, h1, h2⟩ := ho e hes
  obtain ⟨x, g1, _, g2⟩ := he' e _ (closeL_get (b := b) es _ hes (by rw [List.getElem?_append_left (ho e hes).lt, h1]))
  obtain ⟨g3, _, g5, g6⟩ := g2 (by simp)
  show St1 B e (plen s.bl e) t 1 s.bl.length (plen (LS.bl ((es.foldl (fun t b => (t.at b).end 1 0 [(s.bl.length : Int)]) (s.add 1)).at s.bl.length)) s.bl.length) t
  rw [hbl, hp, plen_of h1]
  have := St1.jump (B := B) (b := e) (s := t) (x := x) (n := 0) ht g1 g3 (g5.trans rfl) (.refl _ _ _)
  rw [show x.code.length = b.code.length from g6] at this
  exact this

theorem sim_k2 {B : List Bk} {n : Nd} {s t : RS} (h : n.kind = 2) (h1 : Sim B (.l (if (s.note (.mark 2 n.a)).pick 2 = 0 then n.thn else n.els)) (s.note (.mark 2 n.a)).next t) : Sim B (.n n) s t := by
  intro hs d ls hf w ho he
  obtain ⟨k, a, x, th, el, arms⟩ := n
  replace h : k = 2 := h
  replace h1 : Sim B (.l (if (s.note (.mark 2 a)).pick 2 = 0 then th else el)) (s.note (.mark 2 a)).next t := h1
  rw [formedN] at hf
  simp only [Bool.and_eq_true] at hf
  obtain ⟨⟨⟨_, hft⟩, hfe⟩, _⟩ := hf
  rw [lowN, if_neg (by omega), if_pos h] at he ⊢
  dsimp only at he ⊢
  have hops : ∀ e, e ∈ [ls.cur] → Open ls.bl e := fun e he => by rw [List.mem_singleton.1 he]; exact ho
  have A := Ext.close (k := 2) (a := a) (N := 2) w (by simp) hops (.inr (.inl ⟨rfl, rfl⟩)) (.inr ⟨_, rfl⟩) (by simp)
  rw [upT_two] at A
  generalize hs1 : (ls.add 2).end 2 a [(ls.bl.length : Int), (ls.bl.length : Int) + 1] = s1 at *
  have e1 : s1.bl = closeL [ls.cur] 2 a [(ls.bl.length : Int), (ls.bl.length : Int) + 1] (ls.bl ++ List.replicate 2 Blk.nil) := by rw [← hs1]; rfl
  rw [← e1] at A
  have l1 : s1.bl.length = ls.bl.length + 2 := by rw [e1, closeL_len]; simp
  have hcl := ho.lt
  have hnil : ∀ i, ls.bl.length ≤ i → i < ls.bl.length + 2 → s1.bl[i]? = some Blk.nil := fun i h2 h3 => by
    rw [e1, closeL_not _ _ (by simp; omega), List.getElem?_append_right h2, List.getElem?_replicate, if_pos (by omega)]
  have o1 := fun i h => (A.act i h).1
  have Bx := lowL_ext th (d - 1) (s1.at ls.bl.length) hft A.w1 (o1 ls.bl.length ⟨Nat.le_refl _, by omega⟩)
  generalize hr1 : lowL th (s1.at ls.bl.length) = r1 at *
  have Bf := Bx.frame (· = ls.bl.length + 1) fun i hi => by subst hi; exact ⟨o1 (ls.bl.length + 1) ⟨by omega, by omega⟩, fun h => by have : ls.bl.length + 1 = ls.bl.length := h; omega⟩
  have C := lowL_ext el (d - 1) (r1.2.at (ls.bl.length + 1)) hfe Bf.w1 (Bf.act _ (.inr rfl)).1
  generalize hr2 : lowL el (r1.2.at (ls.bl.length + 1)) = r2 at *
  have hdis : ∀ i, Oat r1 i → i ≠ ls.bl.length + 1 ∧ i < r1.2.bl.length := fun i hi => by
    have h3 := Bx.act i hi
    refine ⟨fun h4 => ?_, h3.1.lt⟩
    rcases h3.2 with h5 | h5
    · have : i = ls.bl.length := h5
      omega
    · have : s1.bl.length ≤ i := h5
      omega
  have Cf := C.frame (Oat r1) fun i hi => ⟨(Bx.act i hi).1, (hdis i hi).1⟩
  generalize hes0 : (if r1.1 then [r1.2.cur] else []) ++ (if r2.1 then [r2.2.cur] else []) = es at *
  have hes : ∀ i, i ∈ es → Oat r2 i ∨ Oat r1 i := fun i hi => by
    rw [← hes0] at hi
    unfold Oat
    revert hi
    cases r1.1 <;> cases r2.1 <;> simp [or_comm]
  have hoe : ∀ e, e ∈ es → Open r2.2.bl e := fun e hi => (Cf.act e (hes e hi)).1
  have hnd : es.Nodup := by
    rw [← hes0]
    cases h3 : r1.1 <;> cases h4 : r2.1 <;> simp
    intro h5
    obtain ⟨h6, h7⟩ := hdis r1.2.cur ⟨h3, rfl⟩
    rcases (C.act r2.2.cur ⟨h4, rfl⟩).2 with h8 | h8
    · have : r2.2.cur = ls.bl.length + 1 := h8
      omega
    · have : r1.2.bl.length ≤ r2.2.cur := h8
      omega
  have he2 : Emb r2.2.bl B := he.pre (Ext.join C.w1 hnd hoe).pre
  have he1 : Emb r1.2.bl B := he2.pre C.pre
  have he0 : Emb s1.bl B := he1.pre Bx.pre
  obtain ⟨y, g1, g2, g3, g4, g5⟩ := ends_at ho (k := 2) (a := a) (ts := [(ls.bl.length : Int), (ls.bl.length : Int) + 1]) (by omega) (fun b hb => by
    rw [e1]
    exact closeL_get _ _ (by simp) (by rw [List.getElem?_append_left hcl, hb])) he0
  have hpl := (s.note (.mark 2 a)).pick_lt (n := 2) (by omega)
  have hbr : ∀ {q : Nat}, ([(ls.bl.length : Int), (ls.bl.length : Int) + 1] : List Int)[(s.note (.mark 2 a)).pick 2]? = some (q : Int) → ∀ n' b' k' s', St1 B q 0 (s.note (.mark 2 a)).next n' b' k' s' → St1 B ls.cur (plen ls.bl ls.cur) s (n' + 1) b' k' s' := fun {q} hq n' b' k' s' S => by
    rw [← g5]
    exact .br hs g1 (.inl g2) (by rw [g2, g3, g4]; exact hq) (by rw [g2, g3]; exact S)
  have hev : (s.note (.mark 2 a)).next.ev.length = s.ev.length + 1 := by simp
  by_cases hp0 : (s.note (.mark 2 a)).pick 2 = 0
  · rw [if_pos hp0] at h1
    have R := h1 (d - 1) (s1.at ls.bl.length) hft A.w1 (o1 ls.bl.length ⟨Nat.le_refl _, by omega⟩) (by rw [hr1]; exact he1)
    rw [hr1] at R
    replace R : Rch B ls.bl.length (plen s1.bl ls.bl.length) (s.note (.mark 2 a)).next r1.1 r1.2.cur (plen r1.2.bl r1.2.cur) t := R
    rw [plen_of (hnil _ (Nat.le_refl _) (by omega))] at R
    refine R.wrap (q := 1) hev (hbr (by rw [hp0]; rfl)) (fun ht hr => ?_) (Nat.le_refl 2)
    have hm : r1.2.cur ∈ es := by rw [← hes0, hr]; simp
    have J := join_post hm hoe he ht
    have hpe : plen r2.2.bl r1.2.cur = plen r1.2.bl r1.2.cur := by
      unfold plen
      rw [C.fr _ (hdis _ ⟨hr, rfl⟩).2 (hdis _ ⟨hr, rfl⟩).1]
      rfl
    rw [hpe] at J
    exact J
  · rw [if_neg hp0] at h1
    have R := h1 (d - 1) (r1.2.at (ls.bl.length + 1)) hfe Bf.w1 (Bf.act _ (.inr rfl)).1 (by rw [hr2]; exact he2)
    rw [hr2] at R
    replace R : Rch B (ls.bl.length + 1) (plen r1.2.bl (ls.bl.length + 1)) (s.note (.mark 2 a)).next r2.1 r2.2.cur (plen r2.2.bl r2.2.cur) t := R
    have hn2 : r1.2.bl[ls.bl.length + 1]? = some Blk.nil := by
      rw [Bx.fr _ (by show _ < s1.bl.length; omega) (fun h => by have : ls.bl.length + 1 = ls.bl.length := h; omega)]
      exact hnil _ (by omega) (by omega)
    rw [plen_of hn2] at R
    refine R.wrap (q := 1) hev (hbr (by rw [show (s.note (.mark 2 a)).pick 2 = 1 by omega]; rfl)) (fun ht hr => ?_) (Nat.le_refl 2)
    have hm : r2.2.cur ∈ es := by rw [← hes0, hr]; simp
    exact join_post hm hoe he ht
end Go.Low

/- Chapter 10: following the blocks of loops and of matches (plain Lean). -/
set_option linter.unusedVariables false
set_option linter.unusedSimpArgs false
namespace Go.Low
open Go Go.Am Go.Proofs.Ytdheeecpkkjfiaa

theorem lowP_at : ∀ (ps : List (List Nd)) (d : Int) (f : Nat) (s : LS), formedP ps d = true → WF s.bl → (∀ i, f ≤ i ∧ i < f + ps.length → Open s.bl i) → f + ps.length ≤ s.bl.length → ∀ (c : Nat) (p : List Nd), ps[c]? = some p →
    ∃ z : LS, WF z.bl ∧ Open z.bl z.cur ∧ z.cur = f + c ∧ z.bl[f + c]? = s.bl[f + c]? ∧ formedL p d = true ∧ Pre (lowL p z).2.bl (lowP ps f s).2.bl ∧ ((lowL p z).1 = true → (lowL p z).2.cur ∈ (lowP ps f s).1 ∧ (lowP ps f s).2.bl[(lowL p z).2.cur]? = (lowL p z).2.bl[(lowL p z).2.cur]?)
  | [], d, f, s, _, _, _, _, c, p, h => by simp at h
  | q :: ps, d, f, s, hf, w, ho, hl, c, p, h => by
    rw [formedP, Bool.and_eq_true] at hf
    simp only [List.length_cons] at ho hl
    have A := lowL_ext q d (s.at f) hf.1 w (ho f ⟨Nat.le_refl _, by omega⟩)
    have Af := A.frame (fun i => f + 1 ≤ i ∧ i < f + 1 + ps.length) fun i hi => ⟨ho i ⟨by omega, by omega⟩, fun h => by have : i = f := h; omega⟩
    have hlen : s.bl.length ≤ (lowL q (s.at f)).2.bl.length := A.len
    have hdis : ∀ i, Oat (lowL q (s.at f)) i → ¬ (f + 1 ≤ i ∧ i < f + 1 + ps.length) ∧ i < (lowL q (s.at f)).2.bl.length := fun i hi => by
      have h3 := A.act i hi
      refine ⟨fun h4 => ?_, h3.1.lt⟩
      rcases h3.2 with h5 | h5
      · have : i = f := h5
        omega
      · have : s.bl.length ≤ i := h5
        omega
    have hop : ∀ i, f + 1 ≤ i ∧ i < f + 1 + ps.length → Open (lowL q (s.at f)).2.bl i := fun i hi => (Af.act i (.inr hi)).1
    rw [lowP]
    try dsimp only
    cases c with
    | zero =>
      simp only [List.getElem?_cons_zero, Option.some.injEq] at h
      subst h
      obtain ⟨Bx, _⟩ := lowP_ext ps d (f + 1) (lowL q (s.at f)).2 hf.2 A.w1 hop (by omega)
      refine ⟨s.at f, w, ho f ⟨Nat.le_refl _, by omega⟩, rfl, rfl, hf.1, Bx.pre, fun hr => ⟨by simp [hr], ?_⟩⟩
      exact Bx.fr _ (hdis _ ⟨hr, rfl⟩).2 (hdis _ ⟨hr, rfl⟩).1
    | succ c =>
      simp only [List.getElem?_cons_succ] at h
      obtain ⟨z, h1, h2, h3, h4, h5, h6, h7⟩ := lowP_at ps d (f + 1) (lowL q (s.at f)).2 hf.2 A.w1 hop (by omega) c p h
      have hc := (List.getElem?_eq_some_iff.1 h).1
      refine ⟨z, h1, h2, by omega, ?_, h5, h6, fun hr => ⟨List.mem_append.2 (.inr (h7 hr).1), (h7 hr).2⟩⟩
      rw [show f + (c + 1) = f + 1 + c by omega, h4]
      exact A.fr _ (by show _ < s.bl.length; omega) (fun h => by have : f + 1 + c = f := h; omega)

theorem upT_get {L N c : Nat} (h : c < N) : (upT L N)[c]? = some ((L + c : Nat) : Int) := by
  unfold upT
  rw [List.getElem?_map, List.getElem?_range h]
  simp

theorem sim_k4 {B : List Bk} {n : Nd} {s t : RS} {p : List Nd} (h : n.kind = 4) (hp : n.arms[(s.note (.mark 3 n.a)).pick n.arms.length]? = some p) (h1 : Sim B (.l p) (s.note (.mark 3 n.a)).next t) : Sim B (.n n) s t := by
  intro hs d ls hf w ho he
  obtain ⟨k, a, x, th, el, arms⟩ := n
  replace h : k = 4 := h
  replace hp : arms[(s.note (.mark 3 a)).pick arms.length]? = some p := hp
  replace h1 : Sim B (.l p) (s.note (.mark 3 a)).next t := h1
  rw [formedN] at hf
  simp only [Bool.and_eq_true] at hf
  obtain ⟨_, hfa⟩ := hf
  rw [lowN, if_neg (by omega), if_neg (by omega), if_neg (by omega), if_pos h] at he ⊢
  dsimp only at he ⊢
  have hne := (List.getElem?_eq_some_iff.1 hp).1
  have hops : ∀ e, e ∈ [ls.cur] → Open ls.bl e := fun e he => by rw [List.mem_singleton.1 he]; exact ho
  have A := Ext.close (k := 3) (a := a) (N := arms.length) w (by simp) hops (.inr (.inr (.inl ⟨rfl, by omega⟩))) (.inr ⟨_, rfl⟩) (by simp)
  generalize hs1 : (ls.add arms.length).end 3 a ((List.range arms.length).map fun (i : Nat) => (ls.bl.length : Int) + (i : Int)) = s1 at *
  have e1 : s1.bl = closeL [ls.cur] 3 a (upT ls.bl.length arms.length) (ls.bl ++ List.replicate arms.length Blk.nil) := by rw [← hs1]; rfl
  rw [← e1] at A
  have l1 : s1.bl.length = ls.bl.length + arms.length := by rw [e1, closeL_len]; simp
  have hcl := ho.lt
  obtain ⟨Bx, hnd⟩ := lowP_ext arms (d - 1) ls.bl.length s1 hfa A.w1 (fun i h => (A.act i h).1) (by omega)
  obtain ⟨z, z1, z2, z3, z4, z5, z6, z7⟩ := lowP_at arms (d - 1) ls.bl.length s1 hfa A.w1 (fun i h => (A.act i h).1) (by omega) _ p hp
  generalize hc : (s.note (.mark 3 a)).pick arms.length = c at *
  have hoe : ∀ e, e ∈ (lowP arms ls.bl.length s1).1 → Open (lowP arms ls.bl.length s1).2.bl e := fun e hi => (Bx.act e hi).1
  have he2 : Emb (lowP arms ls.bl.length s1).2.bl B := he.pre (Ext.join Bx.w1 hnd hoe).pre
  have he0 : Emb s1.bl B := he2.pre Bx.pre
  obtain ⟨y, g1, g2, g3, g4, g5⟩ := ends_at ho (k := 3) (a := a) (ts := upT ls.bl.length arms.length) (by omega) (fun b hb => by
    rw [e1]
    exact closeL_get _ _ (by simp) (by rw [List.getElem?_append_left hcl, hb])) he0
  have hev : (s.note (.mark 3 a)).next.ev.length = s.ev.length + 1 := by simp
  have R := h1 (d - 1) z z5 z1 z2 (he2.pre z6)
  have hz0 : plen z.bl z.cur = 0 := by
    rw [z3, plen_of (b := Blk.nil)]
    · rfl
    rw [z4, e1, closeL_not _ _ (by simp; omega), List.getElem?_append_right (by omega), List.getElem?_replicate, if_pos (by omega)]
  rw [hz0, z3] at R
  refine R.wrap (q := 1) (p := 1) hev (fun n' b' k' s' S => ?_) (fun ht hr => ?_) (Nat.le_refl 2)
  · rw [← g5]
    exact .br hs g1 (.inr g2) (by rw [g2, g3, g4, upT_len, hc]; exact upT_get hne) (by rw [g2, g3]; exact S)
  · obtain ⟨z8, z9⟩ := z7 hr
    have J := join_post z8 hoe he ht
    have hpe : plen (lowP arms ls.bl.length s1).2.bl (lowL p z).2.cur = plen (lowL p z).2.bl (lowL p z).2.cur := by unfold plen; rw [z9]
    rw [hpe] at J
    exact J

theorem sim_k3 {B : List Bk} {n : Nd} {s t : RS} (h : n.kind = 3) (h1 : Sim B (.w n.a n.thn) (s.note (.mark 2 n.a)) t) : Sim B (.n n) s t := by
  intro hs d ls hf w ho he
  obtain ⟨k, a, x, th, el, arms⟩ := n
  replace h : k = 3 := h
  replace h1 : Sim B (.w a th) (s.note (.mark 2 a)) t := h1
  rw [formedN] at hf
  simp only [Bool.and_eq_true] at hf
  obtain ⟨⟨⟨_, hft⟩, _⟩, _⟩ := hf
  rw [lowN, if_neg (by omega), if_neg (by omega), if_pos h] at he ⊢
  dsimp only at he ⊢
  have hops : ∀ e, e ∈ [ls.cur] → Open ls.bl e := fun e he => by rw [List.mem_singleton.1 he]; exact ho
  have A := Ext.close (k := 1) (a := 0) (N := 1) w (by simp) hops (.inl ⟨rfl, rfl⟩) (.inl rfl) (by simp)
  rw [show upT ls.bl.length 1 = [(ls.bl.length : Int)] by simp [upT]] at A
  generalize hX : closeL [ls.cur] 1 0 [(ls.bl.length : Int)] (ls.bl ++ List.replicate 1 Blk.nil) = X at A
  have lX : X.length = ls.bl.length + 1 := by rw [← hX, closeL_len]; simp
  have A2 := Ext.close (k := 2) (a := a) (N := 2) A.w1 (es := [ls.bl.length]) (by simp) (fun e he => by rw [List.mem_singleton.1 he]; exact (A.act _ ⟨Nat.le_refl _, by omega⟩).1) (.inr (.inl ⟨rfl, rfl⟩)) (.inr ⟨_, rfl⟩) (by simp)
  rw [upT_two] at A2
  rw [lX] at A2
  generalize hs1 : (((ls.add 3).end 1 0 [(ls.bl.length : Int)]).at ls.bl.length).end 2 a [(ls.bl.length : Int) + 1, (ls.bl.length : Int) + 2] = s1 at *
  have e1 : s1.bl = closeL [ls.bl.length] 2 a [((ls.bl.length + 1 : Nat) : Int), ((ls.bl.length + 1 : Nat) : Int) + 1] (X ++ List.replicate 2 Blk.nil) := by
    rw [← hs1, ← hX]
    show ((ls.bl ++ List.replicate 3 Blk.nil).modify ls.cur _).modify ls.bl.length _ = (((ls.bl ++ List.replicate 1 Blk.nil).modify ls.cur _) ++ List.replicate 2 Blk.nil).modify ls.bl.length _
    rw [← modify_app (by have := ho.lt; simp; omega), List.append_assoc, List.replicate_append_replicate]
    have : ((ls.bl.length + 1 : Nat) : Int) + 1 = (ls.bl.length : Int) + 2 := by omega
    rw [this]
    rfl
  rw [← e1] at A2
  have l1 : s1.bl.length = ls.bl.length + 3 := by rw [e1, closeL_len]; simp [lX]
  have hcl := ho.lt
  have hnil : ∀ i, ls.bl.length + 1 ≤ i → i < ls.bl.length + 3 → s1.bl[i]? = some Blk.nil := fun i h2 h3 => by
    rw [e1, closeL_not _ _ (by simp; omega), List.getElem?_append_right (by omega), List.getElem?_replicate, if_pos (by omega)]
  have hh1 : s1.bl[ls.bl.length]? = some ⟨Blk.nil.code, 2, a, some [((ls.bl.length + 1 : Nat) : Int), ((ls.bl.length + 1 : Nat) : Int) + 1]⟩ := by
    rw [e1]
    refine closeL_get _ _ (by simp) ?_
    rw [List.getElem?_append_left (by omega), ← hX, closeL_not _ _ (by simp; omega), List.getElem?_append_right (Nat.le_refl _), Nat.sub_self]
    rfl
  have ho1 : Open s1.bl (ls.bl.length + 1) := ⟨_, hnil _ (by omega) (by omega), rfl, rfl⟩
  have Bx := lowL_ext th (d - 1) (s1.at (ls.bl.length + 1)) hft A2.w1 ho1
  generalize hr : lowL th (s1.at (ls.bl.length + 1)) = r at *
  have hout : ∀ i, Oat r i → i ≠ ls.bl.length + 2 := fun i hi h4 => by
    rcases (Bx.act i hi).2 with h5 | h5
    · have : i = ls.bl.length + 1 := h5
      omega
    · have : s1.bl.length ≤ i := h5
      omega
  have hn2 : r.2.bl[ls.bl.length + 2]? = some Blk.nil := by
    rw [Bx.fr _ (by show _ < s1.bl.length; omega) (fun h => by have : ls.bl.length + 2 = ls.bl.length + 1 := h; omega)]
    exact hnil _ (by omega) (by omega)
  replace he : Emb (if r.1 = true then r.2.end 1 0 [(ls.bl.length : Int)] else r.2).bl B := he
  have hoat : r.1 = true → Open r.2.bl r.2.cur := fun hr1 => (Bx.act _ ⟨hr1, rfl⟩).1
  have he1 : Emb r.2.bl B := by
    by_cases hr1 : r.1 = true
    · rw [if_pos hr1] at he
      exact he.pre (Pre.mod (hoat hr1) fun b => ⟨[], by simp⟩)
    · rw [if_neg hr1] at he
      exact he
  have he0 : Emb s1.bl B := he1.pre Bx.pre
  obtain ⟨y, g1, g2, _, g4, g5⟩ := ends_at ho (k := 1) (a := 0) (ts := [(ls.bl.length : Int)]) (by omega) (fun b hb => by
    rw [e1, closeL_not _ _ (by simp; omega), List.getElem?_append_left (by omega), ← hX]
    exact closeL_get _ _ (by simp) (by rw [List.getElem?_append_left hcl, hb])) he0
  obtain ⟨hx, k1, _, k2⟩ := he0 _ _ hh1
  obtain ⟨k3, k4, k5, k6⟩ := k2 (by simp)
  replace k6 : hx.code = [] := List.length_eq_zero_iff.1 k6
  replace k3 : hx.kind = 2 := k3
  replace k4 : hx.a = a := k4
  replace k5 : hx.tg = [((ls.bl.length + 1 : Nat) : Int), ((ls.bl.length + 2 : Nat) : Int)] := by rw [k5]; simp only [Blk.ts, Option.getD_some]; congr 2
  have W := h1 (d - 1) (s1.at (ls.bl.length + 1)) ls.bl.length hft A2.w1 ho1 rfl (plen_of (hnil _ (by omega) (by omega))) (by rw [hr]; exact he1) ⟨hx, k1, k6, k3, k4, k5⟩ (fun hr1 => by
    rw [hr] at hr1 ⊢
    rw [if_pos hr1] at he
    obtain ⟨v, v1, v2, _, v4, v5⟩ := ends_at (ls := r.2) (hoat hr1) (k := 1) (a := 0) (ts := [(ls.bl.length : Int)]) (by omega) (fun b hb => by
      show (r.2.bl.modify r.2.cur _)[r.2.cur]? = _
      rw [List.getElem?_modify, hb]
      exact congrArg some (if_pos rfl)) he
    exact ⟨v, v1, v2, v4, v5⟩)
  have hpf : plen (if r.1 = true then r.2.end 1 0 [(ls.bl.length : Int)] else r.2).bl (ls.bl.length + 2) = 0 := by
    by_cases hr1 : r.1 = true
    · rw [if_pos hr1, plen_of (b := Blk.nil)]
      · rfl
      show (r.2.bl.modify r.2.cur _)[ls.bl.length + 2]? = _
      rw [List.getElem?_modify, hn2]
      exact congrArg some (if_neg (hout _ ⟨hr1, rfl⟩))
    · rw [if_neg hr1, plen_of hn2]
      rfl
  show Rch B ls.cur (plen ls.bl ls.cur) s true (ls.bl.length + 2) (plen (if r.1 = true then r.2.end 1 0 [(ls.bl.length : Int)] else r.2).bl (ls.bl.length + 2)) t
  rw [hpf]
  refine W.wrap (q := 0) (p := 2) (by simp) (fun n' b' k' s' S => ?_) (fun _ _ => ⟨rfl, .refl _ _ _⟩) (Nat.le_refl 2)
  rw [← g5]
  refine .jump (n := n' + 1) hs g1 g2 g4 ?_
  have := St1.br (B := B) (b := ls.bl.length) (s := s) (x := hx) (n := n') (b' := b') (k' := k') (s' := s') (t := if (s.note (.mark 2 a)).pick 2 = 0 then ls.bl.length + 1 else ls.bl.length + 2) hs k1 (.inl k3) (by
    rw [k3, k4, k5]
    have hp := (s.note (.mark 2 a)).pick_lt (n := 2) (by omega)
    simp only [List.length_cons, List.length_nil]
    by_cases hp0 : (s.note (.mark 2 a)).pick 2 = 0
    · rw [if_pos hp0, hp0]; rfl
    · rw [if_neg hp0, show (s.note (.mark 2 a)).pick 2 = 1 by omega]; rfl) (by rw [k3, k4]; exact S)
  rw [k6] at this
  exact this

theorem sim_all {B : List Bk} {c : Cm} {s t : RS} (h : Ex c s t) : Sim B c s t := by
  induction h with
  | nil s =>
    intro d ls hf w ho he
    refine ⟨fun _ => ⟨rfl, 0, by omega, .refl _ _ _⟩, fun hu => ⟨0, _, _, s, by omega, .refl _ _ _, hu, rfl⟩⟩
  | ov h => intro d ls hf w ho he; exact Rch.stop h
  | cons h h1 h2 ih1 ih2 => exact sim_cons h ih1 h2 ih2
  | k1 h => exact sim_k1 h
  | k2 h _ ih => exact sim_k2 h ih
  | k3 h _ ih => exact sim_k3 h ih
  | k4 h hp _ ih => exact sim_k4 h hp ih
  | @k5 n s h =>
    intro hs d ls hf w ho he
    obtain ⟨k, a, x, th, el, arms⟩ := n
    replace h : k = 5 := h
    rw [lowN, if_neg (by omega), if_neg (by omega), if_neg (by omega), if_neg (by omega), if_pos h] at he ⊢
    exact sim_end (.inl rfl) hs ho he
  | @k6 n s h =>
    intro hs d ls hf w ho he
    obtain ⟨k, a, x, th, el, arms⟩ := n
    replace h : k = 6 := h
    rw [lowN, if_neg (by omega), if_neg (by omega), if_neg (by omega), if_neg (by omega), if_neg (by omega)] at he ⊢
    exact sim_end (.inr rfl) hs ho he
  | out h => exact sim_out h
  | on h h0 h1 h2 ih1 ih2 => exact sim_on h h0 ih1 h2 ih2
end Go.Low

/- Chapter 10: the follower as a function; both have the same events (plain Lean). -/
set_option linter.unusedVariables false
set_option linter.unusedSimpArgs false
namespace Go.Low
open Go Go.Am Go.Proofs.Ytdheeecpkkjfiaa

def codeRun : List Ins → RS → RS
  | [], s => s
  | c :: l, s => if s.ov then s else codeRun l (s.note (.ins c))

theorem codeRun_ov {l : List Ins} {s : RS} (h : s.ov = true) : codeRun l s = s := by
  cases l with
  | nil => rfl
  | cons c l => rw [codeRun, if_pos h]

/-- One block from a place on, and what follows. -/
def blkRun (B : List Bk) (rec : Nat → RS → RS) (b k : Nat) (s : RS) : RS :=
  match B[b]? with
  | none => s
  | some x =>
    if (codeRun (x.code.drop k) s).ov then codeRun (x.code.drop k) s
    else if x.kind = 1 then rec (x.tg.getD 0 0).toNat (codeRun (x.code.drop k) s)
    else if x.kind = 2 ∨ x.kind = 3 then rec (x.tg.getD (((codeRun (x.code.drop k) s).note (.mark x.kind x.a)).pick x.tg.length) 0).toNat ((codeRun (x.code.drop k) s).note (.mark x.kind x.a)).next
    else ((codeRun (x.code.drop k) s).note (.mark x.kind x.a)).over

def fol (B : List Bk) : Nat → Nat → RS → RS
  | 0, _, s => s
  | n + 1, b, s => if s.ov then s else blkRun B (fol B n) b 0 s

theorem St1.over_eq {B : List Bk} {b k n b' k' : Nat} {s t : RS} (h : St1 B b k s n b' k' t) (ho : s.ov = true) : t = s := by
  cases h with
  | refl => rfl
  | ins h _ _ _ => rw [h] at ho; cases ho
  | jump h _ _ _ _ => rw [h] at ho; cases ho
  | br h _ _ _ _ => rw [h] at ho; cases ho
  | fin h _ _ _ => rw [h] at ho; cases ho

theorem St1.run {B : List Bk} {b k n b' k' : Nat} {s t : RS} (h : St1 B b k s n b' k' t) (ht : t.ov = true) : s.ov = false → ∀ m, n ≤ m → blkRun B (fol B m) b k s = t := by
  induction h with
  | refl b k s => intro hs; rw [hs] at ht; cases ht
  | @ins b k s x c n b' k' s' h hx hc h1 ih =>
    intro hs m hm
    have e1 : codeRun (x.code.drop k) s = codeRun (x.code.drop (k + 1)) (s.note (.ins c)) := by rw [drop_of hc, codeRun, if_neg (by rw [hs]; simp)]
    have e : blkRun B (fol B m) b k s = blkRun B (fol B m) b (k + 1) (s.note (.ins c)) := by
      unfold blkRun
      rw [hx]
      simp only
      rw [e1]
    rw [e]
    cases ho : (s.note (.ins c)).ov
    · exact ih ht ho m hm
    · have := h1.over_eq ho
      subst this
      unfold blkRun
      rw [hx]
      simp only
      rw [codeRun_ov ho, if_pos ho]
  | @jump b s x t n b' k' s' h hx hk htg h1 ih =>
    intro hs m hm
    unfold blkRun
    rw [hx]
    simp only
    rw [List.drop_length, codeRun, if_neg (by rw [hs]; simp), if_pos hk, htg]
    obtain ⟨m', rfl⟩ : ∃ m', m = m' + 1 := ⟨m - 1, by omega⟩
    show fol B (m' + 1) t s = _
    rw [fol, if_neg (by rw [hs]; simp)]
    exact ih ht hs m' (by omega)
  | @br b s x t n b' k' s' h hx hk htg h1 ih =>
    intro hs m hm
    unfold blkRun
    rw [hx]
    simp only
    rw [List.drop_length, codeRun, if_neg (by rw [hs]; simp), if_neg (by omega), if_pos hk, List.getD_eq_getElem?_getD, htg]
    obtain ⟨m', rfl⟩ : ∃ m', m = m' + 1 := ⟨m - 1, by omega⟩
    show fol B (m' + 1) t _ = _
    rw [fol]
    cases ho : (s.note (.mark x.kind x.a)).next.ov
    · rw [if_neg (by simp)]
      exact ih ht ho m' (by omega)
    · rw [if_pos rfl]
      exact (h1.over_eq ho).symm
  | @fin b s x n b' k' s' h hx hk h1 ih =>
    intro hs m hm
    unfold blkRun
    rw [hx]
    simp only
    rw [List.drop_length, codeRun, if_neg (by rw [hs]; simp), if_neg (by omega), if_neg (by omega)]
    exact (h1.over_eq rfl).symm

def Inv (s : RS) : Prop := s.ev.length ≤ 200 ∧ (s.ov = false → s.ev.length < 200)
theorem Inv.note {s : RS} (h : Inv s) (hs : s.ov = false) (e : Ev) : Inv (s.note e) := by
  have := h.2 hs
  refine ⟨by simp only [RS.note_ev, List.length_append, List.length_singleton]; omega, fun ho => ?_⟩
  simp only [RS.note_ov, hs, Bool.false_or, decide_eq_false_iff_not] at ho
  simp only [RS.note_ev, List.length_append, List.length_singleton]
  omega
theorem Inv.next {s : RS} (h : Inv s) : Inv s.next := by unfold Inv; rw [RS.next_ev, RS.next_ov]; exact h
theorem Inv.over {s : RS} (h : Inv s) : Inv s.over := ⟨h.1, fun ho => (by cases ho)⟩

theorem ex_inv {c : Cm} {s t : RS} (h : Ex c s t) : Inv s → ((∃ n, c = .n n) → s.ov = false) → Inv t := by
  induction h with
  | nil s => intro h _; exact h
  | ov h => intro h _; exact h
  | cons h h1 h2 ih1 ih2 => intro g _; exact ih2 (ih1 g fun _ => h) fun ⟨_, e⟩ => (by cases e)
  | k1 h => intro g hs; exact g.note (hs ⟨_, rfl⟩) _
  | k2 h _ ih => intro g hs; exact ih (g.note (hs ⟨_, rfl⟩) _).next fun ⟨_, e⟩ => (by cases e)
  | k3 h _ ih => intro g hs; exact ih (g.note (hs ⟨_, rfl⟩) _) fun ⟨_, e⟩ => (by cases e)
  | k4 h _ _ ih => intro g hs; exact ih (g.note (hs ⟨_, rfl⟩) _).next fun ⟨_, e⟩ => (by cases e)
  | k5 h => intro g hs; exact (g.note (hs ⟨_, rfl⟩) _).over
  | k6 h => intro g hs; exact (g.note (hs ⟨_, rfl⟩) _).over
  | out h => intro g _; exact g.next
  | @on a p s t u h h0 h1 h2 ih1 ih2 =>
    intro g _
    have g1 := ih1 g.next fun ⟨_, e⟩ => (by cases e)
    refine ih2 ?_ fun ⟨_, e⟩ => (by cases e)
    cases ht : t.ov
    · simpa using g1.note ht _
    · simpa using g1

theorem frz_emb : ∀ {bl : List Blk} {B : List Bk}, bl.map frzB = B.map Bk.av → Emb bl B := by
  intro bl B h i b hb
  have hk := frz_rel h
  have h1 := congrArg (fun m => m[i]?) h
  have h2 := congrArg (fun m => m[i]?) hk
  simp only [List.getElem?_map, hb, Option.map_some] at h1 h2
  cases hx : B[i]? with
  | none => rw [hx] at h1; cases h1
  | some x =>
    rw [hx] at h1 h2
    simp only [Option.map_some, Option.some.injEq] at h1 h2
    unfold frzB Bk.av at h1
    injection h1 with h1
    injection h1 with h3 h1
    injection h1 with _ h1
    injection h1 with h4 _
    injection h3 with h3
    injection h4 with _ h4
    injection h2 with h5 h6
    exact ⟨x, rfl, ⟨[], by rw [h3, List.append_nil]; rfl⟩, fun _ => ⟨h5.symm, h4.symm, h6.symm, by rw [h3, List.length_map]⟩⟩

theorem exec_follow {l : List Nd} {B : List Bk} (h : (lowRes l).1.map frzB = B.map Bk.av) (he : (lowRes l).2 = 0) {ch : List Nat} {t : RS} (hx : Ex (.l l) ⟨ch, 0, [], false⟩ t) : (fol B 2000 0 ⟨ch, 0, [], false⟩).ev = t.ev ∧ t.ev.length ≤ 200 := by
  unfold lowRes at h he
  by_cases hf : formedL l 60 = false
  · rw [if_pos hf] at he; cases he
  rw [if_neg hf] at h he
  by_cases hl : (lowL l lowS0).1 = true
  · rw [if_pos hl] at he; cases he
  rw [if_neg hl] at h he
  by_cases hb : 200 < (lowL l lowS0).2.bl.length ∨ (∃ b, b ∈ (lowL l lowS0).2.bl ∧ 400 < b.code.length)
  · rw [if_pos hb] at he; cases he
  rw [if_neg hb] at h
  have S := sim_all (B := B) hx 60 lowS0 (by simpa using hf) (fun t _ => rfl) ⟨Blk.nil, rfl, rfl, rfl⟩ (frz_emb h)
  have I := ex_inv hx ⟨by simp, fun _ => by simp⟩ fun ⟨_, e⟩ => (by cases e)
  have hov : t.ov = true := by
    cases ht : t.ov
    · exact absurd (S.on ht).1 hl
    · rfl
  obtain ⟨n, b2, k2, s2, h1, h2, h3, h4⟩ := S.off hov
  have hI := I.1
  have hr := h2.run h3 rfl 1999 (by simp only [List.length_nil] at h1; omega)
  refine ⟨?_, hI⟩
  have e : fol B 2000 0 ⟨ch, 0, [], false⟩ = blkRun B (fol B 1999) 0 0 ⟨ch, 0, [], false⟩ := by
    show (if (false : Bool) = true then _ else _) = _
    rw [if_neg (by simp)]
  rw [e, ← h4, ← hr]
  rfl
end Go.Low
