/- A part of the proof: an abstract machine for the walks, and what the walked functions compute. -/
import Derived.Lib.Bytealg
set_option linter.unusedVariables false
set_option linter.unusedSimpArgs false
set_option linter.unusedVariables false
set_option linter.unusedSimpArgs false
namespace Go.Lx
def isLet (c : UInt8) : Bool := (decide (97 ≤ c.toNat) && decide (c.toNat ≤ 122)) || (decide (65 ≤ c.toNat) && decide (c.toNat ≤ 90))
def isDig (c : UInt8) : Bool := decide (48 ≤ c.toNat) && decide (c.toNat ≤ 57)
def isBlank (c : UInt8) : Bool := c == 32 || c == 9 || c == 13 || c == 10
def isName (c : UInt8) : Bool := isLet c || isDig c || c == 95
def gp : Bool → List UInt8 → Nat
 | _, [] => 0
 | true, c :: l => 1 + gp (c != 10) l
 | false, c :: l => if isBlank c then 1 + gp false l else if c = 35 then 1 + gp true l else 0
def two : List (List UInt8) := [[58, 58], [61, 61], [38, 33], [45, 62]]
def one : List (List UInt8) := [[60], [62], [40], [41], [123], [125], [91], [93], [44], [59], [58], [46], [61], [43], [45], [42], [38]]
def syms : List (List UInt8) := two ++ one
def run (p : UInt8 → Bool) (l : List UInt8) : Nat := (l.takeWhile p).length
def numv (l : List UInt8) : Nat := l.foldl (fun n c => n * 10 + (c.toNat - 48)) 0
structure Tr where
 kind : Int
 len : Nat
 num : Int
 err : Int
 deriving DecidableEq
def symL (l : List UInt8) : Tr := if l.take 2 ∈ two then ⟨3, 2, 0, 0⟩ else if l.take 1 ∈ one then ⟨3, 1, 0, 0⟩ else ⟨3, 0, 0, 3⟩
def nameL (l : List UInt8) : Tr := if 24 < run isName l then ⟨1, run isName l, 0, 2⟩ else ⟨1, run isName l, 0, 0⟩
def digL (l : List UInt8) : Tr := if 10 < run isDig l ∨ 1000000000 < numv (l.take (run isDig l)) then ⟨2, run isDig l, 0, 2⟩ else ⟨2, run isDig l, numv (l.take (run isDig l)), 0⟩
def tokL : List UInt8 → Tr
 | [] => ⟨3, 0, 0, 3⟩
 | c :: l => if isLet c then nameL (c :: l) else if isDig c then digL (c :: l) else symL (c :: l)
structure Tk where
 kind : Int
 text : List UInt8
 num : Int
 off : Nat
 deriving DecidableEq, Inhabited
def lexF : Nat → Nat → List UInt8 → List Tk × Int × Nat
 | 0, _, _ => ([], 0, 0)
 | f + 1, b, s =>
  let g := gp false s
  let t := s.drop g
  if t = [] then ([], 0, 0)
  else if (tokL t).err ≠ 0 then ([], (tokL t).err, b + g)
  else
   let r := lexF f (b + g + (tokL t).len) (t.drop (tokL t).len)
   (⟨(tokL t).kind, t.take (tokL t).len, (tokL t).num, b + g⟩ :: r.1, r.2)
def lexM (s : List UInt8) : List Tk × Int × Nat :=
 let r := lexF (s.length + 1) 0 s
 if 6000 < r.1.length then ([], 2, (r.1.getD 6000 default).off) else if r.2.1 ≠ 0 then ([], r.2) else (r.1, 0, 0)
def lexT (s : List UInt8) : List Tk × Int × Nat := if 20000 < s.length then ([], 2, 20000) else lexM s
theorem run_le (p : UInt8 → Bool) (l : List UInt8) : run p l ≤ l.length := List.Sublist.length_le (List.takeWhile_sublist p)
theorem run_cons (p : UInt8 → Bool) (c : UInt8) (l : List UInt8) : run p (c :: l) = if p c then 1 + run p l else 0 := by
 unfold run
 rw [List.takeWhile_cons]
 split
 ·simp; omega
 ·rfl
theorem run_app {p : UInt8 → Bool} {c : UInt8} (hc : p c = false) (r : List UInt8) : ∀ l, run p (l ++ c :: r) = run p l
 | [] => by rw [List.nil_append, run_cons, hc]; rfl
 | x :: l => by rw [List.cons_append, run_cons, run_cons, run_app hc r l]
theorem run_take (p : UInt8 → Bool) : ∀ (l : List UInt8) (m : Nat), run p l ≤ m → run p (l.take m) = run p l
 | [], m, _ => by simp
 | x :: l, 0, h => by
  have : run p (x :: l) = 0 := by omega
  rw [this]; rfl
 | x :: l, m + 1, h => by
  rw [List.take_succ_cons, run_cons, run_cons]
  rw [run_cons] at h
  split
  ·rename_i hx
   rw [if_pos hx] at h
   rw [run_take p l m (by omega)]
  ·rfl
theorem run_all (p : UInt8 → Bool) : ∀ (l : List UInt8), (∀ c, c ∈ l → p c = true) → run p l = l.length
 | [], _ => rfl
 | x :: l, h => by rw [run_cons, if_pos (h x (by simp)), run_all p l (fun c hc => h c (by simp [hc]))]; simp; omega
theorem take_run : ∀ (p : UInt8 → Bool) (l : List UInt8) (c : UInt8), c ∈ l.take (run p l) → p c = true
 | p, [], c, h => by simp at h
 | p, x :: l, c, h => by
  rw [run_cons] at h
  cases hx : p x
  ·rw [hx] at h; simp at h
  ·rw [hx, if_pos rfl, Nat.add_comm, List.take_succ_cons] at h
   rcases List.mem_cons.1 h with rfl | h
   ·exact hx
   ·exact take_run p l c h
theorem run_next : ∀ (p : UInt8 → Bool) (l : List UInt8) (c : UInt8), l[run p l]? = some c → p c = false
 | p, [], c, h => by simp at h
 | p, x :: l, c, h => by
  rw [run_cons] at h
  cases hx : p x
  ·rw [hx, if_neg (by simp)] at h
   simp at h
   rw [← h]; exact hx
  ·rw [hx, if_pos rfl, Nat.add_comm, List.getElem?_cons_succ] at h
   exact run_next p l c h
theorem gp_le : ∀ (b : Bool) (l : List UInt8), gp b l ≤ l.length
 | true, [] => Nat.le_refl _
 | false, [] => Nat.le_refl _
 | true, c :: l => by rw [gp, List.length_cons]; have := gp_le (c != 10) l; omega
 | false, c :: l => by
  rw [gp, List.length_cons]
  split
  ·have := gp_le false l; omega
  ·split
   ·have := gp_le true l; omega
   ·omega
theorem gp_take : ∀ (b : Bool) (l : List UInt8) (m : Nat), gp b l ≤ m → gp b (l.take m) = gp b l
 | true, [], m, _ => by simp
 | false, [], m, _ => by simp
 | true, c :: l, 0, h => by rw [gp] at h; omega
 | true, c :: l, m + 1, h => by
  rw [List.take_succ_cons, gp, gp, gp_take _ l m (by rw [gp] at h; omega)]
 | false, c :: l, 0, h => by
  have : gp false (c :: l) = 0 := by omega
  rw [this]; rfl
 | false, c :: l, m + 1, h => by
  rw [List.take_succ_cons, gp, gp]
  rw [gp] at h
  split
  ·rename_i hc; rw [if_pos hc] at h; rw [gp_take _ l m (by omega)]
  ·rename_i hc
   rw [if_neg hc] at h
   split
   ·rename_i hc; rw [if_pos hc] at h; rw [gp_take _ l m (by omega)]
   ·rfl
theorem gp_stop : ∀ (b : Bool) (l : List UInt8), l.drop (gp b l) = [] ∨ ∃ c r, l.drop (gp b l) = c :: r ∧ isBlank c = false ∧ c ≠ 35
 | true, [] => .inl rfl
 | false, [] => .inl rfl
 | true, c :: l => by rw [gp, Nat.add_comm, List.drop_succ_cons]; exact gp_stop _ l
 | false, c :: l => by
  rw [gp]
  split
  ·rw [Nat.add_comm, List.drop_succ_cons]; exact gp_stop _ l
  ·rename_i h1
   split
   ·rw [Nat.add_comm, List.drop_succ_cons]; exact gp_stop _ l
   ·rename_i h2
    exact .inr ⟨c, l, rfl, by simpa using h1, h2⟩
theorem gp_nl : ∀ (b : Bool) (l r : List UInt8), gp b (l ++ 10 :: r) = if gp b l = l.length then l.length + 1 + gp false r else gp b l
 | true, [], r => by
  show 1 + gp false r = _
  simp [gp]
 | false, [], r => by
  show 1 + gp false r = _
  simp [gp]
 | true, c :: l, r => by
  rw [List.cons_append, gp, gp, gp_nl _ l r, List.length_cons]
  by_cases h : gp (c != 10) l = l.length
  ·rw [if_pos h, if_pos (by omega)]; omega
  ·rw [if_neg h, if_neg (by omega)]
 | false, c :: l, r => by
  rw [List.cons_append, gp, gp, gp_nl false l r, gp_nl true l r, List.length_cons]
  by_cases hb : isBlank c = true
  ·rw [if_pos hb, if_pos hb]
   by_cases h : gp false l = l.length
   ·rw [if_pos h, if_pos (by omega)]; omega
   ·rw [if_neg h, if_neg (by omega)]
  ·rw [if_neg hb, if_neg hb]
   by_cases h35 : c = 35
   ·rw [if_pos h35, if_pos h35]
    by_cases h : gp true l = l.length
    ·rw [if_pos h, if_pos (by omega)]; omega
    ·rw [if_neg h, if_neg (by omega)]
   ·rw [if_neg h35, if_neg h35, if_neg (by omega)]
theorem gp_one {c : UInt8} {l : List UInt8} (h : isBlank c = false) (h2 : c ≠ 35) : gp false (c :: l) = 0 := by rw [gp, if_neg (by simp [h]), if_neg h2]
theorem isLet_name {c : UInt8} (h : isLet c = true) : isName c = true := by simp [isName, h]
theorem sym_len (s : List UInt8) (hs : s ≠ []) (h : (symL s).err = 0) : 1 ≤ (symL s).len ∧ (symL s).len ≤ s.length := by
 unfold symL at h ⊢
 split at h
 ·rename_i h1
  rw [if_pos h1]
  match s, hs, h1 with
  | [c], _, h1 => revert h1; simp [two]
  | c :: d :: l, _, _ => simp
 ·rename_i h1
  split at h
  ·rename_i h2
   rw [if_neg h1, if_pos h2]
   match s, hs with
   | c :: l, _ => simp
  ·cases h
theorem tok_len {s : List UInt8} (hs : s ≠ []) (h : (tokL s).err = 0) : 1 ≤ (tokL s).len ∧ (tokL s).len ≤ s.length := by
 match s, hs with
 | c :: l, hs =>
  rw [tokL] at h ⊢
  split at h
  ·rename_i h1
   rw [if_pos h1]
   have := run_le isName (c :: l)
   have h2 : 1 ≤ run isName (c :: l) := by rw [run_cons, if_pos (isLet_name h1)]; omega
   unfold nameL
   split <;> exact ⟨h2, this⟩
  ·rename_i h1
   rw [if_neg h1]
   split at h
   ·rename_i h2
    rw [if_pos h2]
    have := run_le isDig (c :: l)
    have h3 : 1 ≤ run isDig (c :: l) := by rw [run_cons, if_pos h2]; omega
    unfold digL
    split <;> exact ⟨h3, this⟩
   ·rename_i h2
    rw [if_neg h2]
    exact sym_len _ hs h
theorem tok_err (s : List UInt8) : (tokL s).err = 0 ∨ (tokL s).err = 2 ∨ (tokL s).err = 3 := by
 match s with
 | [] => exact .inr (.inr rfl)
 | c :: l =>
  rw [tokL]
  split
  ·unfold nameL; split <;> simp
  ·split
   ·unfold digL; split <;> simp
   ·unfold symL; split
    ·simp
    ·split <;> simp
structure Sep (c : UInt8) : Prop where
 name : isName c = false
 dig : isDig c = false
 two : ∀ x, [x, c] ∉ two
theorem sep_nl : Sep 10 := ⟨by decide, by decide, fun x h => by simp [two] at h⟩
theorem sep_sp : Sep 32 := ⟨by decide, by decide, fun x h => by simp [two] at h⟩
theorem one_two (x : UInt8) : [x] ∉ two := by simp [two]
theorem tok_app {c : UInt8} (hc : Sep c) (r : List UInt8) {s : List UInt8} (hs : s ≠ []) : tokL (s ++ c :: r) = tokL s := by
 match s, hs with
 | x :: l, _ =>
  have e1 := run_app hc.name r (x :: l)
  have e2 := run_app hc.dig r (x :: l)
  rw [List.cons_append] at e1 e2
  rw [List.cons_append]
  rw [tokL, tokL]
  split
  ·unfold nameL; rw [e1]
  ·split
   ·unfold digL
    rw [e2, ← List.cons_append, List.take_append_of_le_length (run_le _ _)]
   ·unfold symL
    match l with
    | [] =>
     have h1 : (x :: ([] ++ c :: r)).take 2 = [x, c] := rfl
     have h2 : ([x] : List UInt8).take 2 = [x] := rfl
     rw [h1, h2, if_neg (hc.two x), if_neg (one_two x)]
     rfl
    | y :: l => rfl
theorem tok_take {s : List UInt8} (hs : s ≠ []) (h : (tokL s).err = 0) {m : Nat} (hm : (tokL s).len ≤ m) : tokL (s.take m) = tokL s := by
 match s, hs, m with
 | x :: l, hs, 0 =>
  have hl := tok_len (s := x :: l) hs h
  omega
 | x :: l, hs, m + 1 =>
  rw [List.take_succ_cons]
  rw [tokL] at h hm
  rw [tokL, tokL]
  split
  ·rename_i h1
   rw [if_pos h1] at hm
   have e : run isName (x :: l) ≤ m + 1 := by unfold nameL at hm; split at hm <;> exact hm
   have e1 := run_take isName (x :: l) (m + 1) e
   rw [List.take_succ_cons] at e1
   unfold nameL; rw [e1]
  ·rename_i h1
   rw [if_neg h1] at hm h
   split
   ·rename_i h2
    rw [if_pos h2] at hm
    have e : run isDig (x :: l) ≤ m + 1 := by unfold digL at hm; split at hm <;> exact hm
    have e1 := run_take isDig (x :: l) (m + 1) e
    rw [List.take_succ_cons] at e1
    unfold digL
    rw [e1]
    have e2 : (x :: l.take m).take (run isDig (x :: l)) = (x :: l).take (run isDig (x :: l)) := by
     rw [← List.take_succ_cons, List.take_take, Nat.min_eq_left e]
    rw [e2]
   ·rename_i h2
    rw [if_neg h2] at hm h
    match l, m with
    | [], m => rw [List.take_nil]
    | y :: l, m + 1 => rfl
    | y :: l, 0 =>
     unfold symL at hm h ⊢
     have h3 : (x :: (y :: l).take 0).take 2 = [x] := rfl
     rw [h3, if_neg (one_two x)]
     split at hm
     ·simp at hm
     ·rename_i h4
      rw [if_neg h4]
      rfl
theorem tok_self {s : List UInt8} (hs : s ≠ []) (h : (tokL s).err = 0) {c : UInt8} (hc : Sep c) (r : List UInt8) : tokL (s.take (tokL s).len ++ c :: r) = tokL s := by
 have hl := tok_len hs h
 have hne : s.take (tokL s).len ≠ [] := by
  intro e
  have := congrArg List.length e
  rw [List.length_take, List.length_nil] at this
  omega
 rw [tok_app hc r hne, tok_take hs h (Nat.le_refl _)]
theorem tok_next {s : List UInt8} (hs : s ≠ []) (h : (tokL s).err = 0) {c : UInt8} (hc : s[(tokL s).len]? = some c) :
    ((tokL s).kind = 1 → isName c = false) ∧ ((tokL s).kind = 2 → isDig c = false) ∧ ((tokL s).kind = 3 → s.take (tokL s).len ++ [c] ∉ syms) := by
  match s, hs with
  | x :: l, hs =>
    rw [tokL] at h hc ⊢
    split
    · rename_i h1
      rw [if_pos h1] at h hc
      have e : (nameL (x :: l)).len = run isName (x :: l) := by unfold nameL; split <;> rfl
      have k : (nameL (x :: l)).kind = 1 := by unfold nameL; split <;> rfl
      rw [k]
      rw [e] at hc
      exact ⟨fun _ => run_next _ _ _ hc, fun h => absurd h (by decide), fun h => absurd h (by decide)⟩
    · rename_i h1
      rw [if_neg h1] at h hc
      split
      · rename_i h2
        rw [if_pos h2] at h hc
        have e : (digL (x :: l)).len = run isDig (x :: l) := by unfold digL; split <;> rfl
        have k : (digL (x :: l)).kind = 2 := by unfold digL; split <;> rfl
        rw [k]
        rw [e] at hc
        exact ⟨fun h => absurd h (by decide), fun _ => run_next _ _ _ hc, fun h => absurd h (by decide)⟩
      · rename_i h2
        rw [if_neg h2] at h hc
        have k : (symL (x :: l)).kind = 3 := by unfold symL; split; rfl; split <;> rfl
        rw [k]
        refine ⟨fun h => absurd h (by decide), fun h => absurd h (by decide), fun _ => ?_⟩
        unfold symL at h hc ⊢
        split
        · rename_i h3
          match l, h3 with
          | [], h3 => exact absurd h3 (one_two x)
          | y :: l, _ =>
            intro hm
            simp [syms, two, one] at hm
        · rename_i h3
          rw [if_neg h3] at h hc
          split
          · rename_i h4
            rw [if_pos h4] at hc
            match l, h3, hc with
            | y :: l, h3, hc =>
              simp at hc
              subst hc
              intro hm
              have hm : [x, y] ∈ syms := hm
              have h3 : [x, y] ∉ two := h3
              rw [syms, List.mem_append] at hm
              rcases hm with hm | hm
              · exact h3 hm
              · simp [one] at hm
          · rename_i h4
            rw [if_neg h4] at h
            cases h
theorem lexF_fuel : ∀ (f f' b : Nat) (s : List UInt8), s.length < f → s.length < f' → lexF f b s = lexF f' b s
 | 0, _, _, _, h, _ => by omega
 | _, 0, _, _, _, h => by omega
 | f + 1, f' + 1, b, s, h, h' => by
  have hg := gp_le false s
  simp only [lexF]
  by_cases ht : s.drop (gp false s) = []
  ·rw [if_pos ht, if_pos ht]
  ·rw [if_neg ht, if_neg ht]
   by_cases he : (tokL (s.drop (gp false s))).err ≠ 0
   ·rw [if_pos he, if_pos he]
   ·rw [if_neg he, if_neg he]
    have hl := tok_len ht (Classical.not_not.1 he)
    have e := List.length_drop (i := gp false s) (l := s)
    rw [lexF_fuel f f' _ _ (by rw [List.length_drop]; omega) (by rw [List.length_drop]; omega)]
def lx (b : Nat) (s : List UInt8) : List Tk × Int × Nat := lexF (s.length + 1) b s
theorem lx_end {b : Nat} {s : List UInt8} (h : s.drop (gp false s) = []) : lx b s = ([], 0, 0) := by simp only [lx, lexF]; rw [if_pos h]
theorem lx_err {b : Nat} {s : List UInt8} (h : s.drop (gp false s) ≠ []) (he : (tokL (s.drop (gp false s))).err ≠ 0) : lx b s = ([], (tokL (s.drop (gp false s))).err, b + gp false s) := by
 simp only [lx, lexF]; rw [if_neg h, if_pos he]
theorem lx_tok {b : Nat} {s : List UInt8} (h : s.drop (gp false s) ≠ []) (he : (tokL (s.drop (gp false s))).err = 0) :
    lx b s = (⟨(tokL (s.drop (gp false s))).kind, (s.drop (gp false s)).take (tokL (s.drop (gp false s))).len, (tokL (s.drop (gp false s))).num, b + gp false s⟩ :: (lx (b + gp false s + (tokL (s.drop (gp false s))).len) ((s.drop (gp false s)).drop (tokL (s.drop (gp false s))).len)).1,
      (lx (b + gp false s + (tokL (s.drop (gp false s))).len) ((s.drop (gp false s)).drop (tokL (s.drop (gp false s))).len)).2) := by
  have hl := tok_len h he
  have hg := gp_le false s
  have e := List.length_drop (i := gp false s) (l := s)
  have e2 := List.length_drop (i := (tokL (s.drop (gp false s))).len) (l := s.drop (gp false s))
  simp only [lx]
  rw [lexF]
  simp only
  rw [if_neg h, if_neg (by simpa using he)]
  rw [lexF_fuel s.length (((s.drop (gp false s)).drop (tokL (s.drop (gp false s))).len).length + 1) _ _ (by omega) (by omega)]
theorem lx_cases (b : Nat) (s : List UInt8) :
    (s.drop (gp false s) = [] ∧ lx b s = ([], 0, 0)) ∨
    (∃ c t, s.drop (gp false s) = c :: t ∧ isBlank c = false ∧ c ≠ 35 ∧ (tokL (c :: t)).err ≠ 0 ∧ lx b s = ([], (tokL (c :: t)).err, b + gp false s)) ∨
    (∃ c t k n v, s.drop (gp false s) = c :: t ∧ isBlank c = false ∧ c ≠ 35 ∧ tokL (c :: t) = ⟨k, n, v, 0⟩ ∧ 1 ≤ n ∧ n ≤ (c :: t).length ∧
      lx b s = (⟨k, (c :: t).take n, v, b + gp false s⟩ :: (lx (b + gp false s + n) ((c :: t).drop n)).1, (lx (b + gp false s + n) ((c :: t).drop n)).2)) := by
  rcases gp_stop false s with h | ⟨c, t, h, h1, h2⟩
  · exact .inl ⟨h, lx_end h⟩
  · right
    have hne : s.drop (gp false s) ≠ [] := by rw [h]; simp
    by_cases he : (tokL (c :: t)).err = 0
    · right
      have hl := tok_len (s := c :: t) (by simp) he
      have e := lx_tok (b := b) hne (by rw [h]; exact he)
      rw [h] at e
      cases hk : tokL (c :: t) with
      | mk k n v er =>
        rw [hk] at he hl e
        simp only at he hl e
        subst he
        exact ⟨c, t, k, n, v, h, h1, h2, hk, hl.1, hl.2, e⟩
    · left
      have e := lx_err (b := b) hne (by rw [h]; exact he)
      rw [h] at e
      exact ⟨c, t, h, h1, h2, he, e⟩
theorem drop_len {s t : List UInt8} {n : Nat} (h : s.drop n = t) (hn : n ≤ s.length) : s.length = n + t.length := by rw [← h, List.length_drop]; omega
theorem lx_shift : ∀ (n : Nat) (b d : Nat) (s : List UInt8), s.length < n → lx (b + d) s = ((lx b s).1.map fun t => { t with off := t.off + d }, (lx b s).2.1, if (lx b s).2.1 = 0 then 0 else (lx b s).2.2 + d)
 | 0, _, _, _, h => by omega
 | n + 1, b, d, s, hn => by
  have hg := gp_le false s
  rcases lx_cases b s with ⟨h, e⟩ | ⟨c, t, h, h1, h2, h3, e⟩ | ⟨c, t, k, m, v, h, h1, h2, h3, h4, h5, e⟩
  ·rw [e, lx_end h]; rfl
  ·rw [e, lx_err (by rw [h]; simp) (by rw [h]; exact h3), h]
   simp only [List.map_nil]
   rw [if_neg h3]
   congr 2
   omega
  ·have hs := drop_len h hg
   rw [e, lx_tok (by rw [h]; simp) (by rw [h, h3]), h, h3]
   simp only
   have ih := lx_shift n (b + gp false s + m) d ((c :: t).drop m) (by rw [List.length_drop]; omega)
   rw [show b + d + gp false s + m = b + gp false s + m + d by omega, ih]
   simp only [List.map_cons]
   congr 3
   omega
theorem lx_err23 : ∀ (n : Nat) (b : Nat) (s : List UInt8), s.length < n → (lx b s).2.1 ≠ 0 → ((lx b s).2.1 = 2 ∨ (lx b s).2.1 = 3) ∧ b ≤ (lx b s).2.2 ∧ (lx b s).2.2 < b + s.length
 | 0, _, _, h, _ => by omega
 | n + 1, b, s, hn, he => by
  have hg := gp_le false s
  rcases lx_cases b s with ⟨h, e⟩ | ⟨c, t, h, h1, h2, h3, e⟩ | ⟨c, t, k, m, v, h, h1, h2, h3, h4, h5, e⟩
  ·rw [e] at he; exact absurd rfl he
  ·have hs := drop_len h hg
   rw [e]
   have := tok_err (c :: t)
   simp only [List.length_cons] at hs
   exact ⟨this.resolve_left h3, Nat.le_add_right .., by simp only; omega⟩
  ·have hs := drop_len h hg
   rw [e] at he ⊢
   simp only at he ⊢
   have ih := lx_err23 n (b + gp false s + m) ((c :: t).drop m) (by rw [List.length_drop]; omega) he
   rw [List.length_drop] at ih
   exact ⟨ih.1, by omega, by omega⟩
theorem lx_ok0 : ∀ (n : Nat) (b : Nat) (s : List UInt8), s.length < n → (lx b s).2.1 = 0 → (lx b s).2.2 = 0
 | 0, _, _, h, _ => by omega
 | n + 1, b, s, hn, he => by
  have hg := gp_le false s
  rcases lx_cases b s with ⟨h, e⟩ | ⟨c, t, h, h1, h2, h3, e⟩ | ⟨c, t, k, m, v, h, h1, h2, h3, h4, h5, e⟩
  ·rw [e]
  ·rw [e] at he; exact absurd he h3
  ·have hs := drop_len h hg
   rw [e] at he ⊢
   exact lx_ok0 n _ _ (by rw [List.length_drop]; omega) he
def Cov (s : List UInt8) (at_ : Nat) : List Tk → Prop
  | [] => at_ ≤ s.length ∧ gp false (s.drop at_) = s.length - at_
  | t :: ts => t.text ≠ [] ∧ at_ ≤ t.off ∧ gp false ((s.take t.off).drop at_) = t.off - at_ ∧ t.off + t.text.length ≤ s.length ∧ (s.drop t.off).take t.text.length = t.text ∧
      (∀ c, s[t.off + t.text.length]? = some c → (t.kind = 1 → isName c = false) ∧ (t.kind = 2 → isDig c = false) ∧ (t.kind = 3 → t.text ++ [c] ∉ syms)) ∧ Cov s (t.off + t.text.length) ts
theorem lx_cov : ∀ (n b : Nat) (w s : List UInt8), s.length < n → b ≤ w.length → w.drop b = s → (lx b s).2.1 = 0 → Cov w b (lx b s).1
 | 0, _, _, _, h, _, _, _ => by omega
 | n + 1, b, w, s, hn, hb, hw, he => by
  have hg := gp_le false s
  have hwl := drop_len hw hb
  rcases lx_cases b s with ⟨h, e⟩ | ⟨c, t, h, h1, h2, h3, e⟩ | ⟨c, t, k, m, v, h, h1, h2, h3, h4, h5, e⟩
  ·rw [e]
   refine ⟨hb, ?_⟩
   rw [hw]
   have := congrArg List.length h
   rw [List.length_drop, List.length_nil] at this
   omega
  ·rw [e] at he; exact absurd he h3
  ·have hs := drop_len h hg
   rw [e] at he ⊢
   simp only at he
   have hlen : ((c :: t).take m).length = m := by rw [List.length_take]; omega
   have hwt : w.drop (b + gp false s) = c :: t := by rw [← List.drop_drop, hw, h]
   refine ⟨?_, by simp only; omega, ?_, ?_, ?_, ?_, ?_⟩
   ·intro h0
    have h0 : (c :: t).take m = [] := h0
    rw [h0, List.length_nil] at hlen
    omega
   ·simp only
    rw [List.drop_take, hw, show b + gp false s - b = gp false s by omega]
    exact gp_take false s _ (Nat.le_refl _)
   ·simp only
    rw [hlen]
    omega
   ·simp only
    rw [hlen, hwt]
   ·intro x hx
    simp only at hx ⊢
    rw [hlen] at hx
    have hx2 : (c :: t)[m]? = some x := by
     rw [← hwt, List.getElem?_drop]; exact hx
    have := tok_next (s := c :: t) (by simp) (by rw [h3]) (c := x) (by rw [h3]; exact hx2)
    rw [h3] at this
    exact this
   ·simp only
    rw [hlen]
    refine lx_cov n _ w _ (by rw [List.length_drop]; omega) (by omega) ?_ he
    rw [← List.drop_drop, hwt]
theorem lx_join : ∀ (n b : Nat) (s r : List UInt8), s.length < n → (lx b s).2.1 = 0 → lx b (s ++ 10 :: r) = ((lx b s).1 ++ (lx (b + s.length + 1) r).1, (lx (b + s.length + 1) r).2)
 | 0, _, _, _, h, _ => by omega
 | n + 1, b, s, r, hn, he => by
  have hg := gp_le false s
  have hnl := gp_nl false s r
  rcases lx_cases b s with ⟨h, e⟩ | ⟨c, t, h, h1, h2, h3, e⟩ | ⟨c, t, k, m, v, h, h1, h2, h3, h4, h5, e⟩
  ·have hgl : gp false s = s.length := by
    have := congrArg List.length h
    rw [List.length_drop, List.length_nil] at this
    omega
   rw [if_pos hgl] at hnl
   have hd : (s ++ 10 :: r).drop (gp false (s ++ 10 :: r)) = r.drop (gp false r) := by
    rw [hnl, List.drop_append, show s.length + 1 + gp false r - s.length = gp false r + 1 by omega, List.drop_succ_cons, List.drop_eq_nil_of_le (by omega)]
    rfl
   rw [e, List.nil_append]
   rcases lx_cases (b + s.length + 1) r with ⟨g, e'⟩ | ⟨c, t, g, g1, g2, g3, e'⟩ | ⟨c, t, k, m, v, g, g1, g2, g3, g4, g5, e'⟩
   ·rw [e', lx_end (by rw [hd]; exact g)]
   ·rw [e', lx_err (by rw [hd, g]; simp) (by rw [hd, g]; exact g3), hd, g, hnl]
    congr 2
    omega
   ·rw [e', lx_tok (by rw [hd, g]; simp) (by rw [hd, g, g3]), hd, g, g3, hnl]
    simp only
    rw [show b + (s.length + 1 + gp false r) = b + s.length + 1 + gp false r by omega]
  ·rw [e] at he; exact absurd he h3
  ·have hs := drop_len h hg
   have hgl : gp false s ≠ s.length := by
    intro h0
    rw [h0, List.length_cons] at hs
    omega
   rw [if_neg hgl] at hnl
   have hd : (s ++ 10 :: r).drop (gp false (s ++ 10 :: r)) = (c :: t) ++ 10 :: r := by
    rw [hnl, List.drop_append_of_le_length hg, h]
   have ht := tok_app sep_nl r (s := c :: t) (by simp)
   rw [h3] at ht
   rw [e] at he ⊢
   simp only at he
   have ih := lx_join n (b + gp false s + m) ((c :: t).drop m) r (by rw [List.length_drop]; omega) he
   rw [lx_tok (by rw [hd]; simp) (by rw [hd, ht]), hd, ht, hnl]
   simp only
   rw [List.take_append_of_le_length h5, List.drop_append_of_le_length h5, ih, List.length_drop]
   rw [show b + gp false s + m + ((c :: t).length - m) + 1 = b + s.length + 1 by omega]
   rfl
def sepT : List Tk → List UInt8
 | [] => []
 | t :: ts => t.text ++ 32 :: sepT ts
def SameTk (t u : Tk) : Prop := t.kind = u.kind ∧ t.text = u.text ∧ t.num = u.num
inductive SameL : List Tk → List Tk → Prop
 | nil : SameL [] []
 | cons {t u : Tk} {l m : List Tk} : SameTk t u → SameL l m → SameL (t :: l) (u :: m)
theorem gp_sp (s : List UInt8) : gp false (32 :: s) = 1 + gp false s := by rw [gp, if_pos (by decide)]
theorem lx_sp (b : Nat) (s : List UInt8) : lx b (32 :: s) = lx (b + 1) s := by
 have hd : (32 :: s).drop (gp false (32 :: s)) = s.drop (gp false s) := by rw [gp_sp, Nat.add_comm, List.drop_succ_cons]
 rcases lx_cases (b + 1) s with ⟨g, e'⟩ | ⟨c, t, g, g1, g2, g3, e'⟩ | ⟨c, t, k, m, v, g, g1, g2, g3, g4, g5, e'⟩
 ·rw [e', lx_end (by rw [hd]; exact g)]
 ·rw [e', lx_err (by rw [hd, g]; simp) (by rw [hd, g]; exact g3), hd, g, gp_sp]
  congr 2
  omega
 ·rw [e', lx_tok (by rw [hd, g]; simp) (by rw [hd, g, g3]), hd, g, g3, gp_sp]
  simp only
  rw [show b + (1 + gp false s) = b + 1 + gp false s by omega]
theorem lx_sep : ∀ (n b b' : Nat) (s : List UInt8), s.length < n → (lx b s).2.1 = 0 → SameL (lx b s).1 (lx b' (sepT (lx b s).1)).1 ∧ (lx b' (sepT (lx b s).1)).2 = (0, 0)
 | 0, _, _, _, h, _ => by omega
 | n + 1, b, b', s, hn, he => by
  have hg := gp_le false s
  rcases lx_cases b s with ⟨h, e⟩ | ⟨c, t, h, h1, h2, h3, e⟩ | ⟨c, t, k, m, v, h, h1, h2, h3, h4, h5, e⟩
  ·rw [e]; exact ⟨.nil, rfl⟩
  ·rw [e] at he; exact absurd he h3
  ·have hs := drop_len h hg
   rw [e] at he ⊢
   simp only at he
   have hts := tok_self (s := c :: t) (by simp) (by rw [h3]) sep_sp (sepT (lx (b + gp false s + m) ((c :: t).drop m)).1)
   rw [h3] at hts
   simp only at hts
   have hlen : ((c :: t).take m).length = m := by rw [List.length_take]; omega
   obtain ⟨m', rfl⟩ : ∃ m', m = m' + 1 := ⟨m - 1, by omega⟩
   have ih := lx_sep n (b + gp false s + (m' + 1)) (b' + (m' + 1) + 1) ((c :: t).drop (m' + 1)) (by rw [List.length_drop]; omega) he
   generalize (lx (b + gp false s + (m' + 1)) ((c :: t).drop (m' + 1))).1 = R at *
   have hsep : sepT (⟨k, (c :: t).take (m' + 1), v, b + gp false s⟩ :: R) = (c :: t).take (m' + 1) ++ 32 :: sepT R := rfl
   have hg0 : gp false ((c :: t).take (m' + 1) ++ 32 :: sepT R) = 0 := by
    rw [List.take_succ_cons, List.cons_append]
    exact gp_one h1 h2
   have hd : ((c :: t).take (m' + 1) ++ 32 :: sepT R).drop (gp false ((c :: t).take (m' + 1) ++ 32 :: sepT R)) = (c :: t).take (m' + 1) ++ 32 :: sepT R := by rw [hg0]; rfl
   rw [hsep, lx_tok (b := b') (s := (c :: t).take (m' + 1) ++ 32 :: sepT R) (by rw [hd]; simp) (by rw [hd, hts]), hd, hts, hg0]
   simp only
   rw [List.take_left' hlen, List.drop_left' hlen, Nat.add_zero, lx_sp]
   exact ⟨.cons ⟨rfl, rfl, rfl⟩ ih.1, ih.2⟩
theorem lx_pre : ∀ (n b : Nat) (s : List UInt8) (i : Nat), s.length < n →
    (∀ u, (lx b s).1[i]? = some u → b ≤ u.off ∧ u.off < b + s.length ∧ lx b (s.take (u.off - b)) = ((lx b s).1.take i, 0, 0)) ∧
    ((lx b s).2.1 ≠ 0 → lx b (s.take ((lx b s).2.2 - b)) = ((lx b s).1, 0, 0))
  | 0, _, _, _, h => by omega
  | n + 1, b, s, i, hn => by
    have hg := gp_le false s
    have hcut : ∀ m, gp false s ≤ m → gp false (s.take m) = gp false s := fun m hm => gp_take false s m hm
    have hend : lx b (s.take (gp false s)) = ([], 0, 0) := by
      apply lx_end
      rw [hcut _ (Nat.le_refl _)]
      exact List.drop_eq_nil_of_le (by rw [List.length_take]; omega)
    rcases lx_cases b s with ⟨h, e⟩ | ⟨c, t, h, h1, h2, h3, e⟩ | ⟨c, t, k, m, v, h, h1, h2, h3, h4, h5, e⟩
    · rw [e]
      exact ⟨fun u hu => by simp at hu, fun h0 => absurd rfl h0⟩
    · rw [e]
      refine ⟨fun u hu => by simp at hu, fun _ => ?_⟩
      simp only
      rw [show b + gp false s - b = gp false s by omega]
      exact hend
    · have hs := drop_len h hg
      have step : ∀ p, m ≤ p → lx b (s.take (gp false s + p)) = (⟨k, (c :: t).take m, v, b + gp false s⟩ :: (lx (b + gp false s + m) (((c :: t).drop m).take (p - m))).1, (lx (b + gp false s + m) (((c :: t).drop m).take (p - m))).2) := by
        intro p hp
        have hd : (s.take (gp false s + p)).drop (gp false (s.take (gp false s + p))) = (c :: t).take p := by
          rw [hcut _ (by omega), List.drop_take, h, show gp false s + p - gp false s = p by omega]
        have hne : (c :: t).take p ≠ [] := by
          obtain ⟨q, rfl⟩ : ∃ q, p = q + 1 := ⟨p - 1, by omega⟩
          rw [List.take_succ_cons]; simp
        have ht := tok_take (s := c :: t) (by simp) (by rw [h3]) (m := p) (by rw [h3]; exact hp)
        rw [h3] at ht
        rw [lx_tok (by rw [hd]; exact hne) (by rw [hd, ht]), hd, ht, hcut _ (by omega)]
        simp only
        rw [List.take_take, Nat.min_eq_left hp, List.drop_take]
      rw [e]
      simp only
      refine ⟨fun u hu => ?_, fun he => ?_⟩
      · cases i with
        | zero =>
          simp at hu
          subst hu
          simp only [List.length_cons] at hs
          refine ⟨by simp only; omega, by simp only; omega, ?_⟩
          simp only
          rw [show b + gp false s - b = gp false s by omega]
          exact hend
        | succ i =>
          rw [List.getElem?_cons_succ] at hu
          obtain ⟨g1, g2, g3⟩ := (lx_pre n (b + gp false s + m) ((c :: t).drop m) i (by rw [List.length_drop]; omega)).1 u hu
          rw [List.length_drop] at g2
          refine ⟨by omega, by omega, ?_⟩
          rw [show u.off - b = gp false s + (u.off - b - gp false s) by omega, step _ (by omega), show u.off - b - gp false s - m = u.off - (b + gp false s + m) by omega, g3, List.take_succ_cons]
      · have g := (lx_pre n (b + gp false s + m) ((c :: t).drop m) 0 (by rw [List.length_drop]; omega)).2 he
        have g4 := lx_err23 (((c :: t).drop m).length + 1) (b + gp false s + m) ((c :: t).drop m) (Nat.lt_succ_self _) he
        rw [show (lx (b + gp false s + m) ((c :: t).drop m)).2.2 - b = gp false s + ((lx (b + gp false s + m) ((c :: t).drop m)).2.2 - b - gp false s) by omega, step _ (by omega),
          show (lx (b + gp false s + m) ((c :: t).drop m)).2.2 - b - gp false s - m = (lx (b + gp false s + m) ((c :: t).drop m)).2.2 - (b + gp false s + m) by omega, g]
end Go.Lx

set_option linter.unusedVariables false
set_option linter.unusedSimpArgs false
namespace Go.Lx
theorem lexM_eq (s : List UInt8) : lexM s = if 6000 < (lx 0 s).1.length then ([], 2, ((lx 0 s).1.getD 6000 default).off) else if (lx 0 s).2.1 ≠ 0 then ([], (lx 0 s).2) else ((lx 0 s).1, 0, 0) := rfl
theorem lexT_le {s : List UInt8} (h : s.length ≤ 20000) : lexT s = lexM s := if_neg (by omega)
theorem lexT_gt {s : List UInt8} (h : 20000 < s.length) : lexT s = ([], 2, 20000) := if_pos h
theorem lexM_ok {s : List UInt8} (h : (lexM s).2.1 = 0) : lexM s = ((lx 0 s).1, 0, 0) ∧ (lx 0 s).2.1 = 0 ∧ (lx 0 s).1.length ≤ 6000 := by
 rw [lexM_eq] at h ⊢
 split at h
 ·cases h
 ·rename_i h1
  split at h
  ·rename_i h2; exact absurd h h2
  ·rename_i h2
   rw [if_neg h1, if_neg h2]
   exact ⟨rfl, Classical.not_not.1 h2, by omega⟩
theorem lexM_of {s : List UInt8} (h1 : (lx 0 s).2.1 = 0) (h2 : (lx 0 s).1.length ≤ 6000) : lexM s = ((lx 0 s).1, 0, 0) := by
 rw [lexM_eq, if_neg (by omega), if_neg (by simpa using h1)]
theorem lexM_bad {s : List UInt8} (h : (lexM s).2.1 ≠ 0) : (lexM s).1 = [] ∧ ((lexM s).2.1 = 2 ∨ (lexM s).2.1 = 3) ∧ (lexM s).2.2 < s.length ∧ (lexM (s.take (lexM s).2.2)).2.1 = 0 := by
 rw [lexM_eq] at h ⊢
 split
 ·rename_i h1
  have hu : (lx 0 s).1[6000]? = some ((lx 0 s).1.getD 6000 default) := by
   rw [List.getD_eq_getElem?_getD, List.getElem?_eq_getElem h1]; rfl
  obtain ⟨g1, g2, g3⟩ := (lx_pre (s.length + 1) 0 s 6000 (Nat.lt_succ_self _)).1 _ hu
  rw [Nat.sub_zero] at g3
  refine ⟨rfl, .inl rfl, by simp only; omega, ?_⟩
  simp only
  rw [lexM_of (by rw [g3]) (by rw [g3]; simp; omega)]
 ·rename_i h1
  rw [if_neg h1] at h
  split
  ·rename_i h2
   have g := lx_err23 (s.length + 1) 0 s (Nat.lt_succ_self _) h2
   have g3 := (lx_pre (s.length + 1) 0 s 0 (Nat.lt_succ_self _)).2 h2
   rw [Nat.sub_zero] at g3
   refine ⟨rfl, g.1, by simp only; omega, ?_⟩
   simp only
   rw [lexM_of (by rw [g3]) (by rw [g3]; simp only; omega)]
  ·rename_i h2
   rw [if_neg h2] at h
   exact absurd rfl h
theorem tok_small {s : List UInt8} (h : (tokL s).err = 0) : (tokL s).len ≤ 24 := by
 match s with
 | [] => cases h
 | c :: l =>
  rw [tokL] at h ⊢
  split
  ·rename_i h1
   rw [if_pos h1] at h
   unfold nameL at h ⊢
   split at h
   ·cases h
   ·rename_i h2; rw [if_neg h2]; simp only; omega
  ·rename_i h1
   rw [if_neg h1] at h
   split
   ·rename_i h2
    rw [if_pos h2] at h
    unfold digL at h ⊢
    split at h
    ·cases h
    ·rename_i h3; rw [if_neg h3]; simp only; omega
   ·unfold symL
    split
    ·simp
    ·split <;> simp
theorem lx_small : ∀ (n b : Nat) (s : List UInt8), s.length < n → ∀ t, t ∈ (lx b s).1 → t.text.length ≤ 24
 | 0, _, _, h, _, _ => by omega
 | n + 1, b, s, hn, u, hu => by
  have hg := gp_le false s
  rcases lx_cases b s with ⟨h, e⟩ | ⟨c, t, h, h1, h2, h3, e⟩ | ⟨c, t, k, m, v, h, h1, h2, h3, h4, h5, e⟩
  ·rw [e] at hu; cases hu
  ·rw [e] at hu; cases hu
  ·have hs := drop_len h hg
   rw [e] at hu
   rcases List.mem_cons.1 hu with rfl | hu
   ·have := tok_small (s := c :: t) (by rw [h3])
    rw [h3] at this
    simp only [List.length_take] at this ⊢
    omega
   ·exact lx_small n _ _ (by rw [List.length_drop]; omega) u hu
theorem lx_count : ∀ (n b : Nat) (s : List UInt8), s.length < n → (lx b s).1.length ≤ s.length
 | 0, _, _, h => by omega
 | n + 1, b, s, hn => by
  have hg := gp_le false s
  rcases lx_cases b s with ⟨h, e⟩ | ⟨c, t, h, h1, h2, h3, e⟩ | ⟨c, t, k, m, v, h, h1, h2, h3, h4, h5, e⟩
  ·rw [e]; exact Nat.zero_le _
  ·rw [e]; exact Nat.zero_le _
  ·have hs := drop_len h hg
   rw [e]
   have := lx_count n (b + gp false s + m) ((c :: t).drop m) (by rw [List.length_drop]; omega)
   rw [List.length_drop] at this
   simp only [List.length_cons]
   simp only [List.length_cons] at this hs
   omega
def up (d : Nat) (t : Tk) : Tk := { t with off := t.off + d }
theorem lx_up (d : Nat) (s : List UInt8) (h : (lx 0 s).2.1 = 0) : lx d s = ((lx 0 s).1.map (up d), 0, 0) := by
 have := lx_shift (s.length + 1) 0 d s (Nat.lt_succ_self _)
 rw [Nat.zero_add, h, if_pos rfl] at this
 exact this
theorem join_ok {a b : List UInt8} (ha : (lx 0 a).2.1 = 0) (hb : (lx 0 b).2.1 = 0) : lx 0 (a ++ 10 :: b) = ((lx 0 a).1 ++ (lx 0 b).1.map (up (a.length + 1)), 0, 0) := by
 rw [lx_join (a.length + 1) 0 a b (Nat.lt_succ_self _) ha, Nat.zero_add, lx_up _ _ hb]
theorem SameL.length {l m : List Tk} (h : SameL l m) : l.length = m.length := by
 induction h with
 | nil => rfl
 | cons _ _ ih => simp [ih]
theorem SameL.get {l m : List Tk} (h : SameL l m) : ∀ {i : Nat} {t : Tk}, l[i]? = some t → ∃ u, m[i]? = some u ∧ SameTk t u := by
 induction h with
 | nil => intro i t h; simp at h
 | cons h1 _ ih =>
  intro i t h
  cases i with
  | zero => simp at h; subst h; exact ⟨_, rfl, h1⟩
  | succ i => exact ih (by simpa using h)
theorem sep_ok {s : List UInt8} (h : (lx 0 s).2.1 = 0) (hc : (lx 0 s).1.length ≤ 6000) : (lexM (sepT (lx 0 s).1)).2.1 = 0 ∧ SameL (lx 0 s).1 (lexM (sepT (lx 0 s).1)).1 := by
 obtain ⟨g1, g2⟩ := lx_sep (s.length + 1) 0 0 s (Nat.lt_succ_self _) h
 have e := lexM_of (s := sepT (lx 0 s).1) (by rw [g2]) (by rw [← g1.length]; exact hc)
 rw [e]
 exact ⟨rfl, g1⟩
theorem sepT_snoc (l : List Tk) (t : Tk) : sepT (l ++ [t]) = sepT l ++ t.text ++ [32] := by
 induction l with
 | nil => simp [sepT]
 | cons u l ih => rw [List.cons_append, sepT, sepT, ih]; simp
theorem sepT_len (l : List Tk) (h : ∀ t, t ∈ l → t.text.length ≤ 24) : (sepT l).length ≤ 25 * l.length := by
 induction l with
 | nil => exact Nat.zero_le _
 | cons u l ih =>
  have := h u (by simp)
  have := ih fun t ht => h t (by simp [ht])
  rw [sepT, List.length_append, List.length_cons, List.length_cons]
  omega
end Go.Lx

set_option linter.unusedVariables false
set_option linter.unusedSimpArgs false
namespace Go.Lx
theorem find_len (s : List UInt8) (n : Nat) : ∀ ys : List (List UInt8), (∀ y, y ∈ ys → y.length = n) → ys.find? (fun y => decide (s.take y.length = y)) = if s.take n ∈ ys then some (s.take n) else none
 | [], _ => by simp
 | y :: ys, h => by
  have hy := h y (by simp)
  rw [List.find?_cons, hy, find_len s n ys fun z hz => h z (by simp [hz])]
  by_cases he : s.take n = y
  ·rw [he, decide_eq_true rfl, if_pos (List.mem_cons_self : y ∈ y :: ys)]
  ·rw [decide_eq_false he]
   simp only
   by_cases hm : s.take n ∈ ys
   ·rw [if_pos hm, if_pos (by simp [hm])]
   ·rw [if_neg hm, if_neg (by simp [hm, he])]
theorem find_syms (s : List UInt8) : (syms.find? fun y => decide (s.take y.length = y)) = if s.take 2 ∈ two then some (s.take 2) else if s.take 1 ∈ one then some (s.take 1) else none := by
 rw [syms, List.find?_append, find_len s 2 two (by decide), find_len s 1 one (by decide)]
 split
 ·rfl
 ·rfl
def fin (out : List Tk) (r : List Tk × Int × Nat) : List Tk × Int × Nat :=
 if 6000 < out.length + r.1.length then ([], 2, (r.1.getD (6000 - out.length) default).off) else if r.2.1 ≠ 0 then ([], r.2) else (out ++ r.1, 0, 0)
theorem fin_nil (s : List UInt8) : fin [] (lx 0 s) = lexM s := by
 rw [lexM_eq, fin]; simp
theorem lx_gap (b : Nat) (s : List UInt8) : lx b s = lx (b + gp false s) (s.drop (gp false s)) := by
 have h0 : gp false (s.drop (gp false s)) = 0 := by
  rcases gp_stop false s with h | ⟨c, r, h, h1, h2⟩
  ·rw [h]; rfl
  ·rw [h]; exact gp_one h1 h2
 have hd : (s.drop (gp false s)).drop (gp false (s.drop (gp false s))) = s.drop (gp false s) := by rw [h0]; rfl
 rcases lx_cases b s with ⟨h, e⟩ | ⟨c, t, h, h1, h2, h3, e⟩ | ⟨c, t, k, m, v, h, h1, h2, h3, h4, h5, e⟩
 ·rw [e, lx_end (by rw [hd]; exact h)]
 ·rw [e, lx_err (by rw [hd, h]; simp) (by rw [hd, h]; exact h3), hd, h0, h]
  rfl
 ·rw [e, lx_tok (b := b + gp false s) (s := s.drop (gp false s)) (by rw [hd, h]; simp) (by rw [hd, h, h3]), hd, h0, h, h3]
  rfl
def tkAt (l : List UInt8) (a : Nat) : Tk := ⟨(tokL (l.drop a)).kind, (l.drop a).take (tokL (l.drop a)).len, (tokL (l.drop a)).num, a⟩
def nxt (l : List UInt8) (a : Nat) : Nat := a + gp false (l.drop a)
theorem nxt_le {l : List UInt8} {a : Nat} (h : a ≤ l.length) : nxt l a ≤ l.length := by
 have := gp_le false (l.drop a)
 rw [List.length_drop] at this
 unfold nxt; omega
theorem nxt_ge (l : List UInt8) (a : Nat) : a ≤ nxt l a := Nat.le_add_right ..
theorem lx_nxt (l : List UInt8) (a : Nat) : lx a (l.drop a) = lx (nxt l a) (l.drop (nxt l a)) := by
 rw [lx_gap a (l.drop a), List.drop_drop]; rfl
def Beg (l : List UInt8) (a : Nat) : Prop := gp false (l.drop a) = 0
theorem beg_nxt (l : List UInt8) (a : Nat) : Beg l (nxt l a) := by
 unfold Beg nxt
 rw [← List.drop_drop]
 rcases gp_stop false (l.drop a) with h | ⟨c, r, h, h1, h2⟩
 ·rw [h]; rfl
 ·rw [h]; exact gp_one h1 h2
theorem lx_at_end {l : List UInt8} : lx l.length (l.drop l.length) = ([], 0, 0) := lx_end (by simp)
theorem drop_ne {l : List UInt8} {a : Nat} (h : a < l.length) : l.drop a ≠ [] := fun e => by
 have := congrArg List.length e
 rw [List.length_drop, List.length_nil] at this
 omega
theorem lx_at_err {l : List UInt8} {a : Nat} (h : a < l.length) (hb : Beg l a) (he : (tokL (l.drop a)).err ≠ 0) : lx a (l.drop a) = ([], (tokL (l.drop a)).err, a) := by
 have hd : (l.drop a).drop (gp false (l.drop a)) = l.drop a := by rw [hb]; rfl
 rw [lx_err (by rw [hd]; exact drop_ne h) (by rw [hd]; exact he), hd, hb]
 rfl
theorem lx_at_tok {l : List UInt8} {a : Nat} (h : a < l.length) (hb : Beg l a) (he : (tokL (l.drop a)).err = 0) : a < nxt l (a + (tkAt l a).text.length) ∧ a + (tkAt l a).text.length ≤ l.length ∧
    lx a (l.drop a) = (tkAt l a :: (lx (nxt l (a + (tkAt l a).text.length)) (l.drop (nxt l (a + (tkAt l a).text.length)))).1, (lx (nxt l (a + (tkAt l a).text.length)) (l.drop (nxt l (a + (tkAt l a).text.length)))).2) := by
  have hd : (l.drop a).drop (gp false (l.drop a)) = l.drop a := by rw [hb]; rfl
  have hl := tok_len (drop_ne h) he
  rw [List.length_drop] at hl
  have hlen : (tkAt l a).text.length = (tokL (l.drop a)).len := by
    show ((l.drop a).take _).length = _
    rw [List.length_take, List.length_drop]; omega
  have hn := nxt_ge l (a + (tkAt l a).text.length)
  refine ⟨by omega, by omega, ?_⟩
  rw [lx_tok (by rw [hd]; exact drop_ne h) (by rw [hd]; exact he), hd, hb, List.drop_drop, Nat.add_zero, ← lx_nxt, hlen]
  rfl
theorem fin_tok {out : List Tk} {t : Tk} {r : List Tk × Int × Nat} (h : out.length < 6000) : fin out (t :: r.1, r.2) = fin (out ++ [t]) r := by
 unfold fin
 simp only [List.length_cons, List.length_append, List.length_nil, List.append_assoc, List.singleton_append]
 have e : 6000 - out.length = (6000 - (out.length + 1)) + 1 := by omega
 rw [e, List.getD_cons_succ, show out.length + (r.1.length + 1) = out.length + (0 + 1) + r.1.length by omega]
theorem fin_full {out : List Tk} {t : Tk} {r : List Tk × Int × Nat} (h : out.length = 6000) : fin out (t :: r.1, r.2) = ([], 2, t.off) := by
 unfold fin
 simp only [List.length_cons]
 rw [if_pos (by omega), h]
 rfl
theorem fin_err {out : List Tk} {e : Int} {p : Nat} (h : out.length ≤ 6000) (he : e ≠ 0) : fin out ([], e, p) = ([], e, p) := by
 unfold fin
 rw [if_neg (by simp; omega), if_pos he]
theorem fin_end {out : List Tk} (h : out.length ≤ 6000) : fin out ([], 0, 0) = (out, 0, 0) := by
 unfold fin
 rw [if_neg (by simp; omega), if_neg (by simp)]
 simp
end Go.Lx

set_option linter.unusedVariables false
set_option linter.unusedSimpArgs false
namespace Go.Lx
open Go
theorem gp_run : ∀ l : List UInt8, gp false l = run isBlank l + gp false (l.drop (run isBlank l))
 | [] => rfl
 | c :: l => by
  rw [run_cons]
  by_cases h : isBlank c = true
  ·rw [if_pos h, gp, if_pos h, Nat.add_comm 1 (run isBlank l), List.drop_succ_cons]
   have := gp_run l
   omega
  ·rw [if_neg h, List.drop_zero]; omega
theorem gp_true : ∀ l : List UInt8, (Lib.indexByte l 10 = -1 ∧ gp true l = l.length) ∨ ∃ k : Nat, Lib.indexByte l 10 = k ∧ k < l.length ∧ gp true l = k + gp false (l.drop k)
 | [] => .inl ⟨rfl, rfl⟩
 | c :: l => by
  by_cases h : c = 10
  ·subst h
   refine .inr ⟨0, rfl, Nat.succ_pos _, ?_⟩
   rw [List.drop_zero, Nat.zero_add]
   show 1 + gp false l = gp false (10 :: l)
   rw [gp, if_pos (by decide)]
  ·have hb : (c == 10) = false := beq_eq_false_iff_ne.2 h
   have hn : (c != 10) = true := by rw [bne, hb]; rfl
   rw [Lib.indexByte, hb, gp, hn]
   rcases gp_true l with ⟨h1, h2⟩ | ⟨k, h1, h2, h3⟩
   ·left
    rw [h1, h2, List.length_cons]
    exact ⟨rfl, by omega⟩
   ·right
    refine ⟨k + 1, ?_, by rw [List.length_cons]; omega, by rw [List.drop_succ_cons, h3]; omega⟩
    rw [h1]
    have : ((k : Int) == -1) = false := by simp
    rw [this]
    rfl
theorem gp_cmt (t : List UInt8) : (Lib.indexByte (35 :: t) 10 = -1 ∧ gp false (35 :: t) = (35 :: t).length) ∨ ∃ k : Nat, Lib.indexByte (35 :: t) 10 = k ∧ 1 ≤ k ∧ k < (35 :: t).length ∧ gp false (35 :: t) = k + gp false ((35 :: t).drop k) := by
 have e : gp false (35 :: t) = 1 + gp true t := by rw [gp, if_neg (by decide), if_pos rfl]
 have e2 : ((35 : UInt8) == 10) = false := rfl
 rw [e, Lib.indexByte, e2]
 rcases gp_true t with ⟨h1, h2⟩ | ⟨k, h1, h2, h3⟩
 ·left
  rw [h1, h2, List.length_cons]
  exact ⟨rfl, by omega⟩
 ·right
  refine ⟨k + 1, ?_, by omega, by rw [List.length_cons]; omega, by rw [List.drop_succ_cons, h3]; omega⟩
  rw [h1]
  have : ((k : Int) == -1) = false := by simp
  rw [this]
  rfl
theorem nxt_turn {l : List UInt8} {a : Nat} (h : a ≤ l.length) :
    let b := a + run isBlank (l.drop a)
    b ≤ l.length ∧ nxt l a = nxt l b ∧ ((b = l.length ∧ nxt l b = b) ∨ ∃ c, l[b]? = some c ∧ (c ≠ 35 ∧ nxt l b = b ∨ c = 35 ∧ ((Lib.indexByte (l.drop b) 10 = -1 ∧ nxt l b = l.length) ∨ ∃ k : Nat, Lib.indexByte (l.drop b) 10 = k ∧ 1 ≤ k ∧ b + k < l.length ∧ nxt l b = nxt l (b + k)))) := by
  intro b
  have hr := run_le isBlank (l.drop a)
  have hg := gp_run (l.drop a)
  rw [List.length_drop] at hr
  have hbd : (l.drop a).drop (run isBlank (l.drop a)) = l.drop b := by rw [List.drop_drop]
  rw [hbd] at hg
  have hb : b ≤ l.length := by show a + _ ≤ _; omega
  refine ⟨hb, ?_, ?_⟩
  · unfold nxt; rw [hg]; show _ = a + _ + _; omega
  · by_cases hlt : b < l.length
    · right
      have hc : l[b]? = some l[b] := List.getElem?_eq_getElem hlt
      have hd : l.drop b = l[b] :: l.drop (b + 1) := List.drop_eq_getElem_cons hlt
      refine ⟨l[b], hc, ?_⟩
      have hnb : isBlank l[b] = false := run_next isBlank (l.drop a) _ (by rw [List.getElem?_drop]; exact hc)
      by_cases h35 : l[b] = 35
      · right
        refine ⟨h35, ?_⟩
        rw [h35] at hd
        have hlen : (l.drop b).length = l.length - b := List.length_drop
        unfold nxt
        rw [hd] at hlen ⊢
        rcases gp_cmt (l.drop (b + 1)) with ⟨h1, h2⟩ | ⟨k, h1, h2, h3, h4⟩
        · exact .inl ⟨h1, by rw [h2, hlen]; omega⟩
        · refine .inr ⟨k, h1, h2, by omega, ?_⟩
          rw [h4, ← hd, List.drop_drop]; omega
      · left
        refine ⟨h35, ?_⟩
        unfold nxt
        rw [hd, gp_one hnb h35]; rfl
    · left
      have : b = l.length := by omega
      refine ⟨this, ?_⟩
      unfold nxt
      rw [this, List.drop_length]; rfl
end Go.Lx

set_option linter.unusedVariables false
set_option linter.unusedSimpArgs false
namespace Go.Lx
def ysP (l : List UInt8) (a : Nat) : List (Tk × Int) := (lx a (l.drop a)).1.map (fun t => (t, (0 : Int))) ++ (if (lx a (l.drop a)).2.1 ≠ 0 then [(tkAt l (lx a (l.drop a)).2.2, (lx a (l.drop a)).2.1)] else [])
theorem ysP_end (l : List UInt8) : ysP l l.length = [] := by unfold ysP; rw [lx_at_end]; rfl
theorem ysP_err {l : List UInt8} {a : Nat} (h : a < l.length) (hb : Beg l a) (he : (tokL (l.drop a)).err ≠ 0) : ysP l a = [(tkAt l a, (tokL (l.drop a)).err)] := by
 unfold ysP; rw [lx_at_err h hb he]; simp only; rw [if_pos he]; rfl
theorem ysP_tok {l : List UInt8} {a : Nat} (h : a < l.length) (hb : Beg l a) (he : (tokL (l.drop a)).err = 0) : ysP l a = (tkAt l a, 0) :: ysP l (nxt l (a + (tkAt l a).text.length)) := by
 unfold ysP; rw [(lx_at_tok h hb he).2.2]; rfl
theorem tkAt_len {l : List UInt8} {a : Nat} (h : a < l.length) : a + (tkAt l a).text.length ≤ l.length := by
 show a + ((l.drop a).take _).length ≤ _
 rw [List.length_take, List.length_drop]; omega
theorem drop_one {α : Type} {ys : List α} {i : Nat} {y : α} {r : List α} (h : ys.drop i = y :: r) : ys[i]? = some y ∧ ys.drop (i + 1) = r ∧ i < ys.length := by
 have h1 : (ys.drop i)[0]? = some y := by rw [h]; rfl
 rw [List.getElem?_drop, Nat.add_zero] at h1
 have h2 : (ys.drop i).drop 1 = r := by rw [h]; rfl
 rw [List.drop_drop] at h2
 exact ⟨h1, h2, (List.getElem?_eq_some_iff.1 h1).1⟩
end Go.Lx

set_option linter.unusedVariables false
set_option linter.unusedSimpArgs false
namespace Go.Lx
theorem lx_first (l : List UInt8) : lx 0 l = lx (nxt l 0) (l.drop (nxt l 0)) := lx_nxt l 0
def Kept (l : List UInt8) (i : Nat) (s : List Tk) : Prop := s = (lx 0 l).1.take i ∧ s.length = i ∧ i ≤ 6000
theorem ysP_inv {l : List UInt8} {i : Nat} {t : Tk} {e : Int} (h : (ysP l (nxt l 0))[i]? = some (t, e)) :
    (e = 0 ∧ (lx 0 l).1[i]? = some t) ∨ (e ≠ 0 ∧ i = (lx 0 l).1.length ∧ (lx 0 l).2 = (e, t.off)) := by
  unfold ysP at h
  rw [← lx_first] at h
  rcases Nat.lt_or_ge i (lx 0 l).1.length with hi | hi
  · rw [List.getElem?_append_left (by simpa using hi), List.getElem?_map] at h
    left
    cases hx : (lx 0 l).1[i]? with
    | none => rw [hx] at h; cases h
    | some u => rw [hx] at h; cases h; exact ⟨rfl, rfl⟩
  · rw [List.getElem?_append_right (by simpa using hi)] at h
    right
    split at h
    · rename_i he
      rw [List.length_map] at h
      have h0 : i - (lx 0 l).1.length = 0 := by
        have := (List.getElem?_eq_some_iff.1 h).1
        simp at this
        omega
      rw [h0] at h
      simp only [List.getElem?_cons_zero, Option.some.injEq, Prod.mk.injEq] at h
      obtain ⟨rfl, rfl⟩ := h
      exact ⟨he, by omega, rfl⟩
    · cases h
theorem ysP_full {l : List UInt8} {s : List Tk} (h : Kept l (ysP l (nxt l 0)).length s) : (lx 0 l).2.1 = 0 → lexM l = (s, 0, 0) := by
 intro he
 obtain ⟨h1, h2, h3⟩ := h
 unfold ysP at h1 h3
 rw [← lx_first, if_neg (by simpa using he), List.append_nil, List.length_map] at h1 h3
 rw [List.take_length] at h1
 rw [lexM_eq, if_neg (by omega), if_neg (by simpa using he), h1]
theorem lexM_full {l : List UInt8} {t : Tk} (h : (lx 0 l).1[6000]? = some t) : lexM l = ([], 2, t.off) := by
 have := (List.getElem?_eq_some_iff.1 h).1
 rw [lexM_eq, if_pos this, List.getD_eq_getElem?_getD, h]; rfl
theorem lexM_err {l : List UInt8} {e : Int} {p : Nat} (h1 : (lx 0 l).1.length ≤ 6000) (h2 : (lx 0 l).2 = (e, p)) (he : e ≠ 0) : lexM l = ([], e, p) := by
 rw [lexM_eq, if_neg (by omega), h2, if_pos he]
theorem Kept.nil (l : List UInt8) : Kept l 0 [] := ⟨rfl, rfl, Nat.zero_le _⟩
theorem Kept.snoc {l : List UInt8} {i : Nat} {s : List Tk} {t : Tk} (h : Kept l i s) (ht : (lx 0 l).1[i]? = some t) (hi : i ≠ 6000) : Kept l (i + 1) (s ++ [t]) := by
 obtain ⟨h1, h2, h3⟩ := h
 exact ⟨by rw [List.take_add_one, ht, ← h1]; rfl, by simp [h2], by omega⟩
theorem kept_end {l : List UInt8} {s : List Tk} (h : Kept l (ysP l (nxt l 0)).length s) : lexM l = (s, 0, 0) := by
 refine ysP_full h ?_
 obtain ⟨h1, h2, h3⟩ := h
 by_cases he : (lx 0 l).2.1 = 0
 ·exact he
 ·exfalso
  have hl : (ysP l (nxt l 0)).length = (lx 0 l).1.length + 1 := by
   unfold ysP; rw [← lx_first, if_pos he]; simp
  rw [hl] at h1 h2
  rw [h1, List.length_take] at h2
  omega
end Go.Lx
