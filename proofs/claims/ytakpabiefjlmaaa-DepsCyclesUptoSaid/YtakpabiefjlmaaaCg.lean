/- A part of the proof: an abstract machine for the walks, and what the walked functions compute. -/
import Derived.Test.YtakpabiefjlmaaaCe
import Derived.Test.YtakpabiefjlmaaaCf
set_option linter.unusedVariables false
set_option linter.unusedSimpArgs false
/- Chapter 22, plain laws: walks in a relation, and what reaches computes. -/
set_option linter.unusedSimpArgs false
set_option linter.unusedVariables false
namespace Go.Proofs.Ytakpabiefjlmaaa
open Go.Am Go.Proofs

/-- What a module uses. -/
def us (u : List (List Int)) (a : Int) : List Int := u.getD a.toNat []
/-- All are in range. -/
def Vd (u : List (List Int)) : Prop := ∀ l, l ∈ u → ∀ x, x ∈ l → 0 ≤ x ∧ x < u.length
/-- A walk of n uses. -/
def Wk (u : List (List Int)) : Nat → Int → Int → Prop
  | 0, a, b => a = b
  | n + 1, a, b => ∃ c, c ∈ us u a ∧ Wk u n c b

theorem us_of {u : List (List Int)} {i : Nat} {l : List Int} (h : u[i]? = some l) : us u (i : Int) = l := by simp [us, List.getD_eq_getElem?_getD, h]
theorem us_mem {u : List (List Int)} {a x : Int} (h : x ∈ us u a) : us u a ∈ u ∧ a.toNat < u.length := by
  unfold us at h ⊢
  rw [List.getD_eq_getElem?_getD] at h ⊢
  cases hl : u[a.toNat]? with
  | none => rw [hl] at h; exact absurd h (by simp)
  | some l =>
    obtain ⟨h1, _⟩ := List.getElem?_eq_some_iff.1 hl
    exact ⟨List.mem_of_getElem? hl, h1⟩
theorem Vd.us {u : List (List Int)} (hv : Vd u) {a x : Int} (h : x ∈ us u a) : 0 ≤ x ∧ x < u.length := hv _ (us_mem h).1 x h
theorem Wk.snoc {u : List (List Int)} : ∀ {n : Nat} {a b c : Int}, Wk u n a b → c ∈ us u b → Wk u (n + 1) a c
  | 0, a, b, c, h, hc => by
    have e : a = b := h
    subst e
    exact ⟨c, hc, rfl⟩
  | n + 1, a, b, c, ⟨d, hd, h⟩, hc => ⟨d, hd, h.snoc hc⟩
theorem Wk.unsnoc {u : List (List Int)} : ∀ {n : Nat} {a c : Int}, Wk u (n + 1) a c → ∃ b, Wk u n a b ∧ c ∈ us u b
  | 0, a, c, ⟨d, hd, h⟩ => by
    have e : d = c := h
    subst e
    exact ⟨a, rfl, hd⟩
  | n + 1, a, c, ⟨d, hd, h⟩ => by
    obtain ⟨b, h1, h2⟩ := h.unsnoc
    exact ⟨b, ⟨d, hd, h1⟩, h2⟩
theorem Wk.trans {u : List (List Int)} : ∀ {n m : Nat} {a b c : Int}, Wk u n a b → Wk u m b c → Wk u (n + m) a c
  | 0, m, a, b, c, h, h2 => by
    have e : a = b := h
    subst e
    rw [Nat.zero_add]; exact h2
  | n + 1, m, a, b, c, ⟨d, hd, h⟩, h2 => by
    rw [Nat.add_right_comm]
    exact ⟨d, hd, h.trans h2⟩
theorem Wk.rg {u : List (List Int)} (hv : Vd u) : ∀ {n : Nat} {a b : Int}, (0 ≤ a ∧ a < u.length) → Wk u n a b → 0 ≤ b ∧ b < u.length
  | 0, a, b, ha, h => by
    have e : a = b := h
    subst e; exact ha
  | n + 1, a, b, ha, ⟨c, hc, h⟩ => h.rg hv (hv.us hc)

/-- Successors within a set: a closed walk that is short. -/
theorem closed_of {u : List (List Int)} {S : Int → Prop} {a : Int} (ha : S a) (hr : ∀ x, S x → 0 ≤ x ∧ x < u.length) (hs : ∀ x, S x → ∃ y, y ∈ us u x ∧ S y) :
    ∃ b k, S b ∧ 1 ≤ k ∧ k ≤ u.length ∧ Wk u k b b := by
  have hsx : ∀ x : {x // S x}, ∃ y : {y // S y}, y.1 ∈ us u x.1 := fun x => by
    obtain ⟨y, h1, h2⟩ := hs x.1 x.2
    exact ⟨⟨y, h2⟩, h1⟩
  let f : {x // S x} → {x // S x} := fun x => Classical.choose (hsx x)
  have hf : ∀ x : {x // S x}, (f x).1 ∈ us u x.1 := fun x => Classical.choose_spec (hsx x)
  let g : Nat → {x // S x} := fun n => Nat.rec ⟨a, ha⟩ (fun _ x => f x) n
  have hg : ∀ n, (g (n + 1)).1 ∈ us u (g n).1 := fun n => hf (g n)
  have hw : ∀ k n, Wk u k (g n).1 (g (n + k)).1 := by
    intro k
    induction k with
    | zero => intro n; rfl
    | succ k ih => intro n; exact (ih n).snoc (hg (n + k))
  by_cases hd : ((List.range (u.length + 1)).map fun n => (g n).1).Nodup
  · exfalso
    have := nodup_le (N := u.length) hd (fun x hx => by
      obtain ⟨n, _, rfl⟩ := List.mem_map.1 hx
      exact hr _ (g n).2)
    simp at this
    omega
  · have : ∃ i j, i < j ∧ j < u.length + 1 ∧ (g i).1 = (g j).1 := by
      refine Classical.byContradiction fun hn => hd ?_
      rw [List.Nodup, List.pairwise_iff_getElem]
      intro i j hi hj hij he
      simp only [List.length_map, List.length_range] at hi hj
      simp only [List.getElem_map, List.getElem_range] at he
      exact hn ⟨i, j, hij, hj, he⟩
    obtain ⟨i, j, h1, h2, h3⟩ := this
    refine ⟨(g i).1, j - i, (g i).2, by omega, by omega, ?_⟩
    have := hw (j - i) i
    rw [show i + (j - i) = j by omega, ← h3] at this
    exact this
/-- If there is a closed walk, there is a short one. -/
theorem closed_short {u : List (List Int)} (hv : Vd u) {a : Int} {k : Nat} (hk : 1 ≤ k) (h : Wk u k a a) (ha : 0 ≤ a ∧ a < u.length) : ∃ (b : Int) (k : Nat), (0 ≤ b ∧ b < u.length) ∧ 1 ≤ k ∧ k ≤ u.length ∧ Wk u k b b := by
  obtain ⟨b, k, ⟨hb, _⟩, h1, h2, h3⟩ := closed_of (u := u) (S := fun x => (0 ≤ x ∧ x < u.length) ∧ ∃ k, 1 ≤ k ∧ Wk u k x x) (a := a) ⟨ha, k, hk, h⟩ (fun x hx => hx.1) (fun x hx => by
    obtain ⟨hx, k, hk, h⟩ := hx
    obtain ⟨k, rfl⟩ : ∃ j, k = j + 1 := ⟨k - 1, by omega⟩
    obtain ⟨c, hc, hw⟩ := h
    exact ⟨c, hc, hv.us hc, k + 1, by omega, hw.snoc hc⟩)
  exact ⟨b, k, hb, h1, h2, h3⟩

theorem rgt_set {n : Nat} {R : List (List Bool)} (hR : Sq n R) {i j : Nat} (hi : i < n) (v : Bool) (a b : Nat) (hb : b < n) :
    rgt (R.set i ((R.getD i []).set j v)) a b = if a = i ∧ j = b then v else rgt R a b := by
  obtain ⟨r, hr, hl⟩ := hR.get hi
  have hRl := hR.ln
  simp only [rgt, List.getD_eq_getElem?_getD, List.getElem?_set, hr, Option.getD_some]
  by_cases h : i = a
  · subst h
    rw [if_pos rfl, if_pos (by omega)]
    by_cases hj : j = b
    · subst hj
      simp [List.getElem?_set, hl, hb]
    · simp [List.getElem?_set, hj, hr]
  · rw [if_neg h]
    simp [Ne.symm h]
theorem rgt_goJ {n i m : Nat} (hi : i < n) : ∀ {k j : Nat} {R : List (List Bool)}, Sq n R → j + k ≤ n → ∀ a b, b < n → rgt (goJ i m k j R) a b = if a = i ∧ j ≤ b ∧ b < j + k then (rgt R i b || rgt R m b) else rgt R a b
  | 0, j, R, hR, hj, a, b, hb => by
    rw [goJ, if_neg (by omega)]
  | k + 1, j, R, hR, hj, a, b, hb => by
    obtain ⟨r, hr, hrl⟩ := hR.get hi
    have hR' : Sq n (R.set i ((R.getD i []).set j (rgt R i j || rgt R m j))) := hR.set i (by rw [List.length_set, List.getD_eq_getElem?_getD, hr]; exact hrl)
    rw [goJ, rgt_goJ hi hR' (by omega) a b hb, rgt_set hR hi _ a b hb, rgt_set hR hi _ i b hb, rgt_set hR hi _ m b hb]
    by_cases ha : a = i
    · subst ha
      by_cases hjb : j = b
      · subst hjb
        rw [if_neg (by omega), if_pos ⟨rfl, rfl⟩, if_pos ⟨rfl, Nat.le_refl _, by omega⟩]
      · by_cases h2 : j + 1 ≤ b ∧ b < j + 1 + k
        · rw [if_pos ⟨rfl, h2⟩, if_neg (by simp [hjb]), if_neg (by simp [hjb]), if_pos ⟨rfl, by omega, by omega⟩]
        · rw [if_neg (by omega), if_neg (by simp [hjb]), if_neg (by omega)]
    · rw [if_neg (by simp [ha]), if_neg (by simp [ha]), if_neg (by simp [ha])]

/-- All that is said is so. -/
def RSnd (u : List (List Int)) (R : List (List Bool)) : Prop := ∀ a b, a < u.length → b < u.length → rgt R a b = true → ∃ k, Wk u k (a : Int) (b : Int)
/-- All walks of at most c uses are known. -/
def RCpl (u : List (List Int)) (c : Nat) (R : List (List Bool)) : Prop := ∀ k a b, k ≤ c → a < u.length → b < u.length → Wk u k (a : Int) (b : Int) → rgt R a b = true
def RLe (n : Nat) (R S : List (List Bool)) : Prop := ∀ a b, b < n → rgt R a b = true → rgt S a b = true

theorem goK_spec {u : List (List Int)} (hv : Vd u) {i : Nat} (hi : i < u.length) : ∀ {l : List Int} {R : List (List Bool)}, (∀ x, x ∈ l → x ∈ us u i) → Sq u.length R → RSnd u R →
    RSnd u (goK i u.length l R) ∧ RLe u.length R (goK i u.length l R) ∧ ∀ x, x ∈ l → ∀ b, b < u.length → rgt R x.toNat b = true → rgt (goK i u.length l R) i b = true
  | [], R, _, hR, hs => ⟨hs, fun a b hb h => h, fun x hx => absurd hx (by simp)⟩
  | y :: l, R, hl, hR, hs => by
    have hy := hl y (by simp)
    have hyr := hv.us hy
    have hR' := sq_goJ (m := y.toNat) (k := u.length) (j := 0) hi hR
    have hgj := fun a b hb => rgt_goJ (m := y.toNat) (k := u.length) (j := 0) hi hR (by omega) a b hb
    have hs' : RSnd u (goJ i y.toNat u.length 0 R) := by
      intro a b ha hb h
      rw [hgj a b hb] at h
      split at h
      · rename_i hc
        rw [hc.1]
        rw [Bool.or_eq_true] at h
        rcases h with h | h
        · exact hs i b hi hb h
        · obtain ⟨k, hk⟩ := hs y.toNat b (by omega) hb h
          rw [show ((y.toNat : Nat) : Int) = y by omega] at hk
          exact ⟨k + 1, y, hy, hk⟩
      · exact hs a b ha hb h
    have hle : RLe u.length R (goJ i y.toNat u.length 0 R) := by
      intro a b hb h
      rw [hgj a b hb]
      split
      · rename_i hc
        rw [← hc.1, h, Bool.true_or]
      · exact h
    obtain ⟨h1, h2, h3⟩ := goK_spec hv hi (fun x hx => hl x (List.mem_cons_of_mem _ hx)) hR' hs'
    rw [goK]
    refine ⟨h1, fun a b hb h => h2 a b hb (hle a b hb h), fun x hx b hb h => ?_⟩
    rcases List.mem_cons.1 hx with rfl | hx
    · refine h2 i b hb ?_
      rw [hgj i b hb, if_pos ⟨rfl, Nat.zero_le _, by omega⟩, h, Bool.or_true]
    · exact h3 x hx b hb (hle _ b hb h)
theorem goI_spec {u : List (List Int)} (hv : Vd u) : ∀ {k i : Nat} {R : List (List Bool)}, i + k ≤ u.length → Sq u.length R → RSnd u R →
    RSnd u (goI u k i R) ∧ RLe u.length R (goI u k i R) ∧ ∀ a, i ≤ a → a < i + k → ∀ x, x ∈ us u (a : Int) → ∀ b, b < u.length → rgt R x.toNat b = true → rgt (goI u k i R) a b = true
  | 0, i, R, _, hR, hs => ⟨hs, fun a b hb h => h, fun a h1 h2 => by omega⟩
  | k + 1, i, R, hk, hR, hs => by
    obtain ⟨g1, g2, g3⟩ := goK_spec hv (show i < u.length by omega) (l := us u (i : Int)) (fun x hx => hx) hR hs
    have e : us u (i : Int) = u.getD i [] := rfl
    rw [e] at g1 g2 g3
    obtain ⟨h1, h2, h3⟩ := goI_spec hv (k := k) (i := i + 1) (by omega) (sq_goK (by omega) hR) g1
    rw [goI]
    refine ⟨h1, fun a b hb h => h2 a b hb (g2 a b hb h), fun a ha1 ha2 x hx b hb h => ?_⟩
    by_cases hai : a = i
    · subst hai
      exact h2 a b hb (g3 x hx b hb h)
    · exact h3 a (by omega) (by omega) x hx b hb (g2 _ b hb h)
theorem goN_spec {u : List (List Int)} (hv : Vd u) : ∀ {k c : Nat} {R : List (List Bool)}, Sq u.length R → RSnd u R → RCpl u c R → RSnd u (goN u k R) ∧ RCpl u (c + k) (goN u k R)
  | 0, c, R, _, hs, hc => ⟨hs, hc⟩
  | k + 1, c, R, hR, hs, hc => by
    obtain ⟨h1, h2, h3⟩ := goI_spec hv (k := u.length) (i := 0) (by omega) hR hs
    have hc' : RCpl u (c + 1) (goI u u.length 0 R) := by
      intro n a b hn ha hb hw
      by_cases hn2 : n ≤ c
      · exact h2 a b hb (hc n a b hn2 ha hb hw)
      · obtain rfl : n = c + 1 := by omega
        obtain ⟨x, hx, hw⟩ := hw
        have hxr := hv.us hx
        refine h3 a (Nat.zero_le _) (by omega) x hx b hb (hc c _ b (Nat.le_refl _) (by omega) hb ?_)
        rw [show ((x.toNat : Nat) : Int) = x by omega]
        exact hw
    rw [goN, show c + (k + 1) = (c + 1) + k by omega]
    exact goN_spec hv (sq_goI (by omega) hR) h1 hc'
theorem reaches_spec {u : List (List Int)} (hv : Vd u) : RSnd u (reaches u) ∧ RCpl u u.length (reaches u) := by
  have hg : ∀ a b, a < u.length → rgt (initR u.length u.length) a b = true → a = b := by
    intro a b ha h
    simp only [rgt, initR, List.getD_eq_getElem?_getD, List.getElem?_map, List.getElem?_range ha, Option.map_some, Option.getD_some, List.getElem?_set] at h
    by_cases hab : a = b
    · exact hab
    · rw [if_neg hab, List.getElem?_replicate] at h
      split at h <;> simp at h
  have := goN_spec hv (k := u.length) (c := 0) (Sq.init u.length) (fun a b ha hb h => ⟨0, by rw [hg a b ha h]; rfl⟩) (fun k a b hk ha hb hw => by
    obtain rfl : k = 0 := by omega
    have e : (a : Int) = b := hw
    have e : a = b := by omega
    subst e
    simp [rgt, initR, List.getD_eq_getElem?_getD, ha])
  rw [Nat.zero_add] at this
  exact this
theorem cyclic_iff {u : List (List Int)} (hv : Vd u) : cyclic u = true ↔ ∃ (a : Int) (k : Nat), (0 ≤ a ∧ a < (u.length : Int)) ∧ 1 ≤ k ∧ Wk u k a a := by
  obtain ⟨h1, h2⟩ := reaches_spec hv
  rw [cyclic, anyR_true]
  constructor
  · rintro ⟨i, _, hi, h⟩
    rw [cyAt, List.any_eq_true] at h
    obtain ⟨x, hx, h⟩ := h
    have hx' : x ∈ us u (i : Int) := hx
    have hxr := hv.us hx'
    obtain ⟨k, hk⟩ := h1 _ _ (by omega) (by omega) h
    rw [show ((x.toNat : Nat) : Int) = x by omega] at hk
    exact ⟨i, k + 1, by omega, by omega, x, hx', hk⟩
  · rintro ⟨a, k, ha, hk, h⟩
    obtain ⟨b, k, hb, hk1, hk2, hw⟩ := closed_short hv hk h ha
    obtain ⟨k, rfl⟩ : ∃ j, k = j + 1 := ⟨k - 1, by omega⟩
    obtain ⟨c, hc, hw⟩ := hw
    have hcr := hv.us hc
    refine ⟨b.toNat, Nat.zero_le _, by omega, ?_⟩
    rw [cyAt, List.any_eq_true]
    refine ⟨c, hc, h2 k _ _ (by omega) (by omega) (by omega) ?_⟩
    rw [show ((c.toNat : Nat) : Int) = c by omega, show ((b.toNat : Nat) : Int) = b by omega]
    exact hw
end Go.Proofs.Ytakpabiefjlmaaa

/- Chapter 22, plain laws: orders. -/
set_option linter.unusedSimpArgs false
set_option linter.unusedVariables false
namespace Go.Proofs.Ytakpabiefjlmaaa
open Go.Am Go.Proofs

theorem nxt_none {out : List Int} : ∀ {r : List (List Int)} {i : Nat}, nxt out r i = none → ∀ j l, r[j]? = some l → good out (i + j) l = false
  | [], i, _, j, l, hl => by simp at hl
  | q :: r, i, h, j, l, hl => by
    rw [nxt] at h
    split at h
    · cases h
    · rename_i hg
      cases j with
      | zero => simp at hl; subst hl; simpa using hg
      | succ j =>
        rw [show i + (j + 1) = (i + 1) + j by omega]
        exact nxt_none h j l (by simpa using hl)
theorem nxt_first {out : List Int} : ∀ {r : List (List Int)} {i m : Nat}, nxt out r i = some m → ∀ j l, i + j < m → r[j]? = some l → good out (i + j) l = false
  | [], i, m, h, j, l, _, hl => by simp at hl
  | q :: r, i, m, h, j, l, hj, hl => by
    rw [nxt] at h
    split at h
    · cases h; omega
    · rename_i hg
      cases j with
      | zero => simp at hl; subst hl; simpa using hg
      | succ j =>
        rw [show i + (j + 1) = (i + 1) + j by omega]
        exact nxt_first h j l (by omega) (by simpa using hl)

/-- What stands before a smaller one is used by it. -/
def Adj (u : List (List Int)) (o : List Int) : Prop := ∀ i a b, o[i]? = some a → o[i + 1]? = some b → b < a → a ∈ us u b
/-- None smaller than the last one could have come in its place. -/
def AdjL (u : List (List Int)) (o : List Int) : Prop := ∀ q a, o = q ++ [a] → ∀ b : Nat, (b : Int) < a → ∀ l, u[b]? = some l → good q b l = false
theorem ordGo_adj {u : List (List Int)} : ∀ {k : Nat} {out o : List Int}, ordGo u k out = some o → Adj u out → AdjL u out → Adj u o
  | 0, out, o, h, h1, h2 => by cases h; exact h1
  | k + 1, out, o, h, h1, h2 => by
    rw [ordGo] at h
    cases hn : nxt out u 0 with
    | none => simp [hn] at h
    | some m =>
      simp only [hn] at h
      obtain ⟨l, hl, hg⟩ := nxt_good hn
      have hl : u[m]? = some l := by simpa using hl
      refine ordGo_adj h ?_ ?_
      · intro i a b ha hb hba
        by_cases hi : i + 1 < out.length
        · rw [List.getElem?_append_left (by omega)] at ha hb
          exact h1 i a b ha hb hba
        · obtain ⟨h3, _⟩ := List.getElem?_eq_some_iff.1 hb
          simp only [List.length_append, List.length_singleton] at h3
          have e : i + 1 = out.length := by omega
          rw [List.getElem?_append_left (by omega)] at ha
          rw [List.getElem?_append_right (by omega), e, Nat.sub_self] at hb
          simp only [List.getElem?_cons_zero, Option.some.injEq] at hb
          subst hb
          have hq : out = out.take i ++ [a] := by
            have h4 : out.take (i + 1) = out := List.take_of_length_le (by omega)
            have h5 : out.take (i + 1) = out.take i ++ [a] := by rw [List.take_add_one, ha]; rfl
            rw [h4] at h5
            exact h5
          have h5 := h2 _ a hq m hba l hl
          rw [us_of hl]
          simp only [good, Bool.and_eq_false_iff, Bool.not_eq_false', decide_eq_true_eq] at h5
          simp only [good, Bool.and_eq_true, Bool.not_eq_true', decide_eq_false_iff_not, List.all_eq_true, decide_eq_true_eq] at hg
          rcases h5 with h5 | h5
          · exact absurd (by rw [hq]; exact List.mem_append_left _ h5) hg.1
          · rw [List.all_eq_false] at h5
            obtain ⟨x, hx, hx2⟩ := h5
            simp only [decide_eq_true_eq] at hx2
            have h6 := hg.2 x hx
            rw [hq] at h6
            rcases List.mem_append.1 h6 with h6 | h6
            · exact absurd h6 hx2
            · rw [List.mem_singleton.1 h6] at hx; exact hx
      · intro q a hq b hb l' hl'
        obtain ⟨rfl, h7⟩ := List.append_inj' hq rfl
        cases h7
        have := nxt_first hn b l' (by omega) hl'
        simpa using this
theorem valid_Vd {u : List (List Int)} (h : valid u = true) : Vd u := valid_mem h
theorem valid_len {u : List (List Int)} (h : valid u = true) : u.length ≤ 16 := by
  unfold valid at h
  simp only [Bool.and_eq_true, decide_eq_true_eq] at h
  exact h.1
/-- A full order has all. -/
theorem Topo.full {u : List (List Int)} {o : List Int} (h : Topo u o) (hl : o.length = u.length) {a : Int} (ha : 0 ≤ a ∧ a < u.length) : a ∈ o := by
  refine Classical.byContradiction fun hn => ?_
  have h1 : (a :: o).Nodup := List.nodup_cons.2 ⟨hn, h.nd⟩
  have := nodup_le (N := u.length) h1 (fun x hx => by
    rcases List.mem_cons.1 hx with rfl | hx
    · exact ha
    · obtain ⟨i, hi, rfl⟩ := List.getElem_of_mem hx
      exact (h.us i _ (by simp [hi])).1)
  simp only [List.length_cons] at this
  omega
theorem take_mem_lt {o : List Int} {i : Nat} {c : Int} (h : c ∈ o.take i) : ∃ j, j < i ∧ o[j]? = some c := by
  obtain ⟨j, hj, e⟩ := List.getElem_of_mem h
  simp only [List.length_take] at hj
  rw [List.getElem_take] at e
  exact ⟨j, by omega, by rw [List.getElem?_eq_getElem (by omega), e]⟩
theorem take_mono {o : List Int} {i j : Nat} (h : i ≤ j) {c : Int} (hc : c ∈ o.take i) : c ∈ o.take j := by
  obtain ⟨k, hk, e⟩ := take_mem_lt hc
  refine List.mem_of_getElem? (i := k) ?_
  rw [List.getElem?_take, if_pos (by omega)]
  exact e
theorem Topo.walk {u : List (List Int)} {o : List Int} (h : Topo u o) : ∀ {k i : Nat} {a b : Int}, o[i]? = some a → Wk u (k + 1) a b → b ∈ o.take i
  | 0, i, a, b, ha, ⟨c, hc, hw⟩ => by
    have e : c = b := hw
    subst e
    exact (h.us i a ha).2 c hc
  | k + 1, i, a, b, ha, ⟨c, hc, hw⟩ => by
    obtain ⟨j, hj, hj2⟩ := take_mem_lt ((h.us i a ha).2 c hc)
    exact take_mono (by omega) (h.walk hj2 hw)

theorem nodup_sub : ∀ {l q : List Int}, l.Nodup → (∀ x, x ∈ l → x ∈ q) → l.length ≤ q.length
  | [], q, _, _ => Nat.zero_le _
  | x :: l, q, h, hs => by
    obtain ⟨h1, h2⟩ := List.nodup_cons.1 h
    have hx := hs x (by simp)
    have := nodup_sub (q := q.erase x) h2 (fun y hy => (List.mem_erase_of_ne (fun e : y = x => h1 (e ▸ hy))).2 (hs y (List.mem_cons_of_mem _ hy)))
    rw [List.length_erase_of_mem hx] at this
    have := List.length_pos_of_mem hx
    simp only [List.length_cons]
    omega
/-- No order: there is a cycle. -/
theorem ordGo_none {u : List (List Int)} (hv : Vd u) : ∀ {k : Nat} {out : List Int}, ordGo u k out = none → out.length + k ≤ u.length → Topo u out → ∃ (a : Int) (k : Nat), (0 ≤ a ∧ a < (u.length : Int)) ∧ 1 ≤ k ∧ Wk u k a a
  | 0, out, h, _, _ => by cases h
  | k + 1, out, h, hk, ht => by
    rw [ordGo] at h
    cases hn : nxt out u 0 with
    | some m =>
      simp only [hn] at h
      obtain ⟨l, hl, hg⟩ := nxt_good hn
      refine ordGo_none hv h (by simp only [List.length_append, List.length_singleton]; omega) (ht.add (by simpa using hl) hg)
    | none =>
      have h1 : ∃ a : Int, (0 ≤ a ∧ a < u.length) ∧ a ∉ out := by
        refine Classical.byContradiction fun hc => ?_
        have h2 : ∀ a, a < u.length → (a : Int) ∈ out := fun a ha => Classical.byContradiction fun h3 => hc ⟨a, by omega, h3⟩
        have h4 : ((List.range u.length).map fun (n : Nat) => (n : Int)).Nodup := by
          rw [List.Nodup, List.pairwise_map]
          exact List.Pairwise.imp (fun hab => by omega) List.nodup_range
        have h5 := nodup_sub (q := out) h4 (fun x hx => by
          obtain ⟨n, hn, rfl⟩ := List.mem_map.1 hx
          exact h2 n (List.mem_range.1 hn))
        simp at h5
        omega
      obtain ⟨a, ha, hna⟩ := h1
      obtain ⟨b, k, hb, h1, h2, h3⟩ := closed_of (u := u) (S := fun x => (0 ≤ x ∧ x < u.length) ∧ x ∉ out) (a := a) ⟨ha, hna⟩ (fun x hx => hx.1) (fun x hx => by
        obtain ⟨hx, hxn⟩ := hx
        obtain ⟨m, rfl⟩ := Int.eq_ofNat_of_zero_le hx.1
        obtain ⟨l, hl⟩ := get?_of (show m < u.length by omega)
        have := nxt_none hn m l hl
        rw [Nat.zero_add] at this
        simp only [good, Bool.and_eq_false_iff, Bool.not_eq_false', decide_eq_true_eq] at this
        rcases this with h | h
        · exact absurd h hxn
        · rw [List.all_eq_false] at h
          obtain ⟨y, hy, hy2⟩ := h
          simp only [decide_eq_true_eq] at hy2
          rw [us_of hl]
          exact ⟨y, hy, hv.us (by rw [us_of hl]; exact hy), hy2⟩)
      exact ⟨b, k, hb.1, h1, h3⟩

theorem Topo.acyclic {u : List (List Int)} {o : List Int} (h : Topo u o) (hl : o.length = u.length) {a : Int} (ha : 0 ≤ a ∧ a < u.length) {k : Nat} (hk : 1 ≤ k) : ¬ Wk u k a a := by
  intro hw
  obtain ⟨i, hi, e⟩ := List.getElem_of_mem (h.full hl ha)
  have hi2 : o[i]? = some a := by simp [hi, e]
  obtain ⟨k, rfl⟩ : ∃ j, k = j + 1 := ⟨k - 1, by omega⟩
  exact h.ne hi2 (h.walk hi2 hw)
/-- What an order is: none, exactly if there is a cycle. -/
theorem order_cases {u : List (List Int)} (hv : valid u = true) : (cyclic u = true ∧ order u = ([], 15)) ∨ (cyclic u = false ∧ (order u).2 = 0 ∧ (order u).1.length = u.length ∧ Adj u (order u).1) := by
  have hvd := valid_Vd hv
  have htp := order_topo u
  unfold order at htp ⊢
  rw [if_pos hv] at htp ⊢
  cases ho : ordGo u u.length [] with
  | none =>
    refine .inl ⟨?_, rfl⟩
    exact (cyclic_iff hvd).2 (ordGo_none hvd ho (by simp) (Topo.nil u))
  | some o =>
    rw [ho] at htp
    have hol := ordGo_len ho
    simp only [List.length_nil, Nat.zero_add] at hol
    refine .inr ⟨?_, rfl, hol, ?_⟩
    · cases hc : cyclic u with
      | false => rfl
      | true =>
        obtain ⟨a, k, ha, hk, hw⟩ := (cyclic_iff hvd).1 hc
        exact absurd hw (htp.acyclic hol ha hk)
    · exact ordGo_adj ho (fun i a b ha => by simp at ha) (fun q a hq => by simp at hq)
theorem acyclic_walk {u : List (List Int)} (hv : valid u = true) (hc : cyclic u = false) {a : Int} {k : Nat} (ha : 0 ≤ a ∧ a < u.length) (hk : 1 ≤ k) : ¬ Wk u k a a := fun hw => by
  rw [(cyclic_iff (valid_Vd hv)).2 ⟨a, k, ha, hk, hw⟩] at hc
  cases hc
end Go.Proofs.Ytakpabiefjlmaaa

/- Chapter 22, plain laws: the searches for cycles. -/
set_option linter.unusedSimpArgs false
set_option linter.unusedVariables false
namespace Go.Proofs.Ytakpabiefjlmaaa
open Go.Am Go.Proofs

/-- A path of uses that begins with a module. -/
structure Pth (u : List (List Int)) (a : Int) (p : List Int) : Prop where
  h0 : p[0]? = some a
  st : ∀ (i : Nat) (x y : Int), p[i]? = some x → p[i + 1]? = some y → y ∈ us u x
theorem Pth.pos {u : List (List Int)} {a : Int} {p : List Int} (h : Pth u a p) : 0 < p.length := by
  obtain ⟨h1, _⟩ := List.getElem?_eq_some_iff.1 h.h0
  exact h1
theorem Pth.last {u : List (List Int)} {a : Int} {p : List Int} (h : Pth u a p) : p[p.length - 1]? = some (lst p) := by
  have := h.pos
  simp [lst, List.getD_eq_getElem?_getD, show p.length - 1 < p.length by omega]
theorem Pth.snoc {u : List (List Int)} {a n : Int} {p : List Int} (h : Pth u a p) (hn : n ∈ us u (lst p)) : Pth u a (p ++ [n]) := by
  have hp := h.pos
  refine ⟨by rw [List.getElem?_append_left hp]; exact h.h0, fun i x y hx hy => ?_⟩
  by_cases hi : i + 1 < p.length
  · rw [List.getElem?_append_left (by omega)] at hx hy
    exact h.st i x y hx hy
  · obtain ⟨h3, _⟩ := List.getElem?_eq_some_iff.1 hy
    simp only [List.length_append, List.length_singleton] at h3
    have e : i + 1 = p.length := by omega
    rw [List.getElem?_append_left (by omega), show i = p.length - 1 by omega, h.last] at hx
    rw [List.getElem?_append_right (by omega), e, Nat.sub_self] at hy
    simp at hx hy
    rw [← hx, ← hy]; exact hn
theorem Pth.wk {u : List (List Int)} {a : Int} {p : List Int} (h : Pth u a p) : ∀ (k i : Nat) (x y : Int), p[i]? = some x → p[i + k]? = some y → Wk u k x y
  | 0, i, x, y, hx, hy => by
    rw [Nat.add_zero, hx] at hy
    exact Option.some.inj hy
  | k + 1, i, x, y, hx, hy => by
    obtain ⟨h1, _⟩ := List.getElem?_eq_some_iff.1 hy
    obtain ⟨z, hz⟩ := get?_of (show i + 1 < p.length by omega)
    exact ⟨z, h.st i x z hx hz, h.wk k (i + 1) z y hz (by rw [show i + 1 + k = i + (k + 1) by omega]; exact hy)⟩

theorem thrAdd_spec (path : List Int) : ∀ (l w : List Int) (q : List (List Int)), ∃ w' q' z, thrAdd path l (w, q) = (w', q') ∧ q' = q ++ z ∧ w'.length = w.length + z.length ∧
    (∀ x, x ∈ w' ↔ x ∈ w ∨ x ∈ l) ∧ (∀ p, p ∈ z → ∃ n, n ∈ l ∧ p = path ++ [n]) ∧ (∀ n, n ∈ l → n ∉ w → path ++ [n] ∈ z) ∧ (w.Nodup → w'.Nodup)
  | [], w, q => ⟨w, q, [], rfl, by simp, by simp, by simp, by simp, by simp, fun h => h⟩
  | n :: l, w, q => by
    by_cases hn : n ∈ w
    · obtain ⟨w', q', z, h1, h2, h3, h4, h5, h6, h7⟩ := thrAdd_spec path l w q
      refine ⟨w', q', z, by rw [thrAdd, if_pos hn]; exact h1, h2, h3, fun x => ?_, fun p hp => ?_, fun m hm hmw => ?_, h7⟩
      · rw [h4, List.mem_cons]
        constructor
        · rintro (h | h)
          · exact .inl h
          · exact .inr (.inr h)
        · rintro (h | rfl | h)
          · exact .inl h
          · exact .inl hn
          · exact .inr h
      · obtain ⟨m, hm, e⟩ := h5 p hp
        exact ⟨m, List.mem_cons_of_mem _ hm, e⟩
      · rcases List.mem_cons.1 hm with rfl | hm
        · exact absurd hn hmw
        · exact h6 m hm hmw
    · obtain ⟨w', q', z, h1, h2, h3, h4, h5, h6, h7⟩ := thrAdd_spec path l (w ++ [n]) (q ++ [path ++ [n]])
      refine ⟨w', q', (path ++ [n]) :: z, by rw [thrAdd, if_neg hn]; exact h1, by rw [h2]; simp, by rw [h3]; simp; omega, fun x => ?_, fun p hp => ?_, fun m hm hmw => ?_, fun hw => h7 ?_⟩
      · rw [h4]; simp only [List.mem_append, List.mem_cons, List.not_mem_nil, or_false, or_assoc]
      · rcases List.mem_cons.1 hp with rfl | hp
        · exact ⟨n, by simp, rfl⟩
        · obtain ⟨m, hm, e⟩ := h5 p hp
          exact ⟨m, List.mem_cons_of_mem _ hm, e⟩
      · by_cases hmn : m = n
        · subst hmn; simp
        · rcases List.mem_cons.1 hm with rfl | hm
          · exact absurd rfl hmn
          · exact List.mem_cons_of_mem _ (h6 m hm (by simp [hmw, hmn]))
      · rw [List.nodup_append]
        exact ⟨hw, by simp, fun a ha b hb e => by rw [List.mem_singleton.1 hb] at e; exact hn (e ▸ ha)⟩

/-- The search through paths: D done, w used, q the paths, their lengths F or F + 1. -/
structure BI (u : List (List Int)) (a : Int) (D : Int → Prop) (F : Nat) (w : List Int) (q : List (List Int)) : Prop where
  pt : ∀ p, p ∈ q → Pth u a p ∧ F ≤ p.length ∧ p.length ≤ F + 1
  so : q.Pairwise fun p p' => p.length ≤ p'.length
  dn : ∀ v, D v → a ∉ us u v ∧ ∀ c, c ∈ us u v → c ∈ w
  cv : ∀ c, c = a ∨ c ∈ w → D c ∨ ∃ p, p ∈ q ∧ lst p = c
  l1 : ∀ k v, Wk u k a v → k + 1 < F → D v
  l2 : ∀ k v, Wk u k a v → k + 1 = F → D v ∨ ∃ p, p ∈ q ∧ lst p = v ∧ p.length = F

variable {u : List (List Int)} {a : Int} {D : Int → Prop} {F : Nat} {w : List Int} {q : List (List Int)}

theorem BI.bump (h : BI u a D F w q) (hF : 1 ≤ F) (hq : ∀ p, p ∈ q → p.length = F + 1) : BI u a D (F + 1) w q := by
  have hlv : ∀ k v, Wk u k a v → k + 1 < F + 1 → D v := by
    intro k v hw hk
    by_cases h1 : k + 1 < F
    · exact h.l1 k v hw h1
    · rcases h.l2 k v hw (by omega) with h2 | ⟨p, hp, _, h3⟩
      · exact h2
      · have := hq p hp; omega
  refine ⟨fun p hp => ⟨(h.pt p hp).1, by rw [hq p hp]; exact Nat.le_refl _, by rw [hq p hp]; omega⟩, h.so, h.dn, h.cv, hlv, fun k v hw hk => ?_⟩
  obtain ⟨k, rfl⟩ : ∃ j, k = j + 1 := ⟨k - 1, by omega⟩
  obtain ⟨b, hb, hvb⟩ := hw.unsnoc
  have := (h.dn b (hlv k b hb (by omega))).2 v hvb
  rcases h.cv v (.inr this) with h2 | ⟨p, hp, e⟩
  · exact .inl h2
  · exact .inr ⟨p, hp, e, hq p hp⟩

theorem BI.pop {path : List Int} (h : BI u a D F w (path :: q)) (hl : path.length = F) (ha : a ∉ us u (lst path)) {w' : List Int} {z : List (List Int)}
    (h4 : ∀ x, x ∈ w' ↔ x ∈ w ∨ x ∈ us u (lst path)) (h5 : ∀ p, p ∈ z → ∃ n, n ∈ us u (lst path) ∧ p = path ++ [n]) (h6 : ∀ n, n ∈ us u (lst path) → n ∉ w → path ++ [n] ∈ z) :
    BI u a (fun v => D v ∨ v = lst path) F w' (q ++ z) := by
  have hzl : ∀ p, p ∈ z → Pth u a p ∧ p.length = F + 1 := by
    intro p hp
    obtain ⟨n, hn, rfl⟩ := h5 p hp
    exact ⟨(h.pt path (by simp)).1.snoc hn, by simp [hl]⟩
  have hmv : ∀ {X : List Int → Prop} (c : Int), (∃ p, p ∈ path :: q ∧ lst p = c ∧ X p) → (D c ∨ c = lst path) ∨ ∃ p, p ∈ q ++ z ∧ lst p = c ∧ X p := by
    rintro X c ⟨p, hp, e, hx⟩
    rcases List.mem_cons.1 hp with rfl | hp
    · exact .inl (.inr e.symm)
    · exact .inr ⟨p, List.mem_append_left _ hp, e, hx⟩
  refine ⟨fun p hp => ?_, ?_, fun v hv => ?_, fun c hc => ?_, fun k v hw hk => .inl (h.l1 k v hw hk), fun k v hw hk => ?_⟩
  · rcases List.mem_append.1 hp with hp | hp
    · exact h.pt p (List.mem_cons_of_mem _ hp)
    · exact ⟨(hzl p hp).1, by rw [(hzl p hp).2]; omega, by rw [(hzl p hp).2]; exact Nat.le_refl _⟩
  · rw [List.pairwise_append]
    refine ⟨(List.pairwise_cons.1 h.so).2, ?_, fun p hp p' hp' => ?_⟩
    · refine List.Pairwise.imp_of_mem (R := fun _ _ => True) (fun {a b} ha hb _ => ?_) (List.pairwise_of_forall fun _ _ => trivial)
      rw [(hzl a ha).2, (hzl b hb).2]; exact Nat.le_refl _
    · rw [(hzl p' hp').2]
      exact (h.pt p (List.mem_cons_of_mem _ hp)).2.2
  · rcases hv with hv | rfl
    · exact ⟨(h.dn v hv).1, fun c hc => (h4 c).2 (.inl ((h.dn v hv).2 c hc))⟩
    · exact ⟨ha, fun c hc => (h4 c).2 (.inr hc)⟩
  · have hold : (c = a ∨ c ∈ w) → (D c ∨ c = lst path) ∨ ∃ p, p ∈ q ++ z ∧ lst p = c := by
      intro hc
      rcases h.cv c hc with h1 | ⟨p, hp, e⟩
      · exact .inl (.inl h1)
      · rcases hmv (X := fun _ => True) c ⟨p, hp, e, trivial⟩ with h2 | ⟨p, h2, h3, _⟩
        · exact .inl h2
        · exact .inr ⟨p, h2, h3⟩
    rcases hc with hc | hc
    · exact hold (.inl hc)
    · rcases (h4 c).1 hc with hc | hc
      · exact hold (.inr hc)
      · by_cases hcw : c ∈ w
        · exact hold (.inr hcw)
        · exact .inr ⟨path ++ [c], List.mem_append_right _ (h6 c hc hcw), lst_snoc _ _⟩
  · rcases h.l2 k v hw hk with h1 | h1
    · exact .inl (.inl h1)
    · exact hmv v h1

/-- What the search finds. -/
def Found (u : List (List Int)) (a : Int) (r : List Int) : Prop :=
  (r = [] ∧ ∀ j, 1 ≤ j → ¬ Wk u j a a) ∨ (Pth u a r ∧ a ∈ us u (lst r) ∧ ∀ j, 1 ≤ j → Wk u j a a → r.length ≤ j)

theorem thr_spec (hv : Vd u) : ∀ (k F : Nat) (D : Int → Prop) (w : List Int) (q : List (List Int)), 1 ≤ F → w.Nodup → (∀ x, x ∈ w → 0 ≤ x ∧ x < u.length) → u.length + q.length < k + w.length → BI u a D F w q → Found u a (thr u a k w q)
  | 0, F, D, w, q, hF, hnd, hr, hk, h => by
    have := nodup_le hnd hr
    omega
  | k + 1, F, D, w, [], hF, hnd, hr, hk, h => by
    rw [thr]
    refine .inl ⟨rfl, fun j hj hw => ?_⟩
    have hD : ∀ c, c = a ∨ c ∈ w → D c := fun c hc => by
      rcases h.cv c hc with h1 | ⟨p, hp, _⟩
      · exact h1
      · cases hp
    have hall : ∀ n b, Wk u n a b → D b := by
      intro n
      induction n with
      | zero => intro b hb; exact hD b (.inl (Eq.symm hb))
      | succ n ih =>
        intro b hb
        obtain ⟨c, hc, hb⟩ := hb.unsnoc
        exact hD b (.inr ((h.dn c (ih c hc)).2 b hb))
    obtain ⟨j, rfl⟩ : ∃ i, j = i + 1 := ⟨j - 1, by omega⟩
    obtain ⟨b, hb, hab⟩ := hw.unsnoc
    exact (h.dn b (hall j b hb)).1 hab
  | k + 1, F, D, w, path :: q, hF, hnd, hr, hk, h => by
    -- the front has length F'
    have hfr : ∃ F', 1 ≤ F' ∧ path.length = F' ∧ BI u a D F' w (path :: q) := by
      have h1 := h.pt path (by simp)
      by_cases hl : path.length = F
      · exact ⟨F, hF, hl, h⟩
      · refine ⟨F + 1, by omega, by omega, h.bump hF fun p hp => ?_⟩
        rcases List.mem_cons.1 hp with rfl | hp
        · omega
        · have := (List.pairwise_cons.1 h.so).1 p hp
          have := (h.pt p (List.mem_cons_of_mem _ hp)).2.2
          omega
    obtain ⟨F', hF', hl, h⟩ := hfr
    rw [thr]
    have e : u.getD (lst path).toNat [] = us u (lst path) := rfl
    rw [e]
    by_cases ha : a ∈ us u (lst path)
    · rw [if_pos ((srt_mem _ _).2 ha)]
      refine .inr ⟨(h.pt path (by simp)).1, ha, fun j hj hw => ?_⟩
      refine Classical.byContradiction fun hlt => ?_
      obtain ⟨j, rfl⟩ : ∃ i, j = i + 1 := ⟨j - 1, by omega⟩
      obtain ⟨b, hb, hab⟩ := hw.unsnoc
      exact (h.dn b (h.l1 j b hb (by omega))).1 hab
    · rw [if_neg (fun h => ha ((srt_mem _ _).1 h))]
      obtain ⟨w', q', z, h1, h2, h3, h4, h5, h6, h7⟩ := thrAdd_spec path (srt (us u (lst path))) w (path :: q)
      rw [h1]
      have e2 : q'.drop 1 = q ++ z := by rw [h2]; rfl
      simp only [e2]
      have hb := h.pop hl ha (w' := w') (z := z) (fun x => by rw [h4, srt_mem]) (fun p hp => by
        obtain ⟨n, hn, e⟩ := h5 p hp
        exact ⟨n, (srt_mem _ _).1 hn, e⟩) (fun n hn hnw => h6 n ((srt_mem _ _).2 hn) hnw)
      refine thr_spec hv k F' _ w' (q ++ z) hF' (h7 hnd) (fun x hx => ?_) ?_ hb
      · rcases (h4 x).1 hx with hx | hx
        · exact hr x hx
        · exact hv.us ((srt_mem _ _).1 hx)
      · simp only [List.length_cons, List.length_append] at hk ⊢
        omega
theorem through_spec (hv : Vd u) (ha : 0 ≤ a ∧ a < u.length) : Found u a (through u a) := by
  refine thr_spec hv _ 1 (fun _ => False) [] [[a]] (Nat.le_refl _) (by simp) (by simp) (by simp) ?_
  refine ⟨fun p hp => ?_, by simp, fun v hv => hv.elim, fun c hc => .inr ⟨[a], by simp, ?_⟩, fun k v hw hk => by omega, fun k v hw hk => .inr ⟨[a], by simp, ?_⟩⟩
  · rw [List.mem_singleton.1 hp]
    refine ⟨⟨rfl, fun i x y hx hy => by simp at hy⟩, by simp, by simp⟩
  · rcases hc with rfl | hc
    · rfl
    · cases hc
  · obtain rfl : k = 0 := by omega
    have e : a = v := hw
    subst e
    exact ⟨rfl, rfl⟩
end Go.Proofs.Ytakpabiefjlmaaa

/- Chapter 22, plain laws: shortest cycles. -/
set_option linter.unusedSimpArgs false
set_option linter.unusedVariables false
namespace Go.Proofs.Ytakpabiefjlmaaa
open Go.Am Go.Proofs

/-- The best one of the first m. -/
def Best (u : List (List Int)) (m : Nat) (b : List Int) : Prop :=
  (b = [] ∧ ∀ j, j < m → through u (j : Int) = []) ∨
  (b ≠ [] ∧ ∃ i, i < m ∧ b = through u (i : Int) ∧ ∀ j, j < m → through u (j : Int) ≠ [] → b.length < (through u (j : Int)).length ∨ (b.length = (through u (j : Int)).length ∧ i ≤ j))
theorem Best.step {u : List (List Int)} {m : Nat} {b : List Int} (h : Best u m b) : Best u (m + 1) (betL (through u (m : Int)) b) := by
  unfold betL
  by_cases ht : through u (m : Int) = []
  · rw [if_neg (by rw [ht]; simp)]
    rcases h with ⟨h1, h2⟩ | ⟨h1, i, h2, h3, h4⟩
    · refine .inl ⟨h1, fun j hj => ?_⟩
      by_cases hjm : j = m
      · rw [hjm]; exact ht
      · exact h2 j (by omega)
    · refine .inr ⟨h1, i, by omega, h3, fun j hj hne => ?_⟩
      by_cases hjm : j = m
      · rw [hjm] at hne; exact absurd ht hne
      · exact h4 j (by omega) hne
  · have hpos : 0 < (through u (m : Int)).length := List.length_pos_iff.2 ht
    rcases h with ⟨h1, h2⟩ | ⟨h1, i, h2, h3, h4⟩
    · rw [if_pos ⟨hpos, .inl h1⟩]
      refine .inr ⟨ht, m, by omega, rfl, fun j hj hne => ?_⟩
      by_cases hjm : j = m
      · rw [hjm]; exact .inr ⟨rfl, Nat.le_refl _⟩
      · exact absurd (h2 j (by omega)) hne
    · by_cases hlt : (through u (m : Int)).length < b.length
      · rw [if_pos ⟨hpos, .inr hlt⟩]
        refine .inr ⟨ht, m, by omega, rfl, fun j hj hne => ?_⟩
        by_cases hjm : j = m
        · rw [hjm]; exact .inr ⟨rfl, Nat.le_refl _⟩
        · have := h4 j (by omega) hne
          omega
      · rw [if_neg (by rintro ⟨_, h5 | h5⟩; exact h1 h5; exact hlt h5)]
        refine .inr ⟨h1, i, by omega, h3, fun j hj hne => ?_⟩
        by_cases hjm : j = m
        · rw [hjm]; omega
        · exact h4 j (by omega) hne
theorem cycGo_best {u : List (List Int)} : ∀ (k m : Nat) (b : List Int), Best u m b → Best u (m + k) (cycGo u k m b)
  | 0, m, b, h => h
  | k + 1, m, b, h => by
    rw [cycGo, show m + (k + 1) = (m + 1) + k by omega]
    exact cycGo_best k (m + 1) _ h.step
theorem cycle_best {u : List (List Int)} (hv : valid u = true) : Best u u.length (cycle u) := by
  unfold cycle
  rw [if_pos hv]
  have := cycGo_best (u := u) u.length 0 [] (.inl ⟨rfl, fun j hj => absurd hj (Nat.not_lt_zero _)⟩)
  rwa [Nat.zero_add] at this

/-- What a shortest cycle is: l of length d, through its members no closed walk is shorter, and its first is its least. -/
structure Short (u : List (List Int)) (l : List Int) : Prop where
  rg : ∀ (i : Nat) (x : Int), l[i]? = some x → 0 ≤ x ∧ x < u.length
  pos : 0 < l.length
  st : ∀ (i : Nat) (x y : Int), l[i]? = some x → l[i + 1]? = some y → y ∈ us u x
  cl : ∀ (x y : Int), l[l.length - 1]? = some x → l[0]? = some y → y ∈ us u x
  nd : ∀ (i : Nat) (x : Int), l[i]? = some x → x ∉ l.take i
  mn : ∀ (x y : Int), x ∈ l → l[0]? = some y → y ≤ x
  sh : ∀ (a : Int) (j : Nat), (0 ≤ a ∧ a < u.length) → 1 ≤ j → Wk u j a a → l.length ≤ j ∧ (l.length = j → ∀ y, l[0]? = some y → y ≤ a)
theorem cycle_cases {u : List (List Int)} (hv : valid u = true) : (cycle u = [] ∧ cyclic u = false) ∨ (cyclic u = true ∧ Short u (cycle u)) := by
  have hvd := valid_Vd hv
  have hts : ∀ j, j < u.length → Found u (j : Int) (through u (j : Int)) := fun j hj => through_spec hvd (by omega)
  rcases cycle_best hv with ⟨h1, h2⟩ | ⟨h1, i, hi, h3, h4⟩
  · refine .inl ⟨h1, ?_⟩
    cases hc : cyclic u with
    | false => rfl
    | true =>
      obtain ⟨a, k, ha, hk, hw⟩ := (cyclic_iff hvd).1 hc
      obtain ⟨j, rfl⟩ := Int.eq_ofNat_of_zero_le ha.1
      rcases hts j (by omega) with ⟨_, h5⟩ | ⟨h5, _⟩
      · exact absurd hw (h5 k hk)
      · rw [h2 j (by omega)] at h5
        exact absurd h5.pos (Nat.lt_irrefl 0)
  · generalize cycle u = l at *
    have hmin : ∀ (a : Int) (j : Nat), (0 ≤ a ∧ a < u.length) → 1 ≤ j → Wk u j a a → l.length ≤ j ∧ (l.length = j → (i : Int) ≤ a) := by
      intro a j ha hj hw
      obtain ⟨m, rfl⟩ := Int.eq_ofNat_of_zero_le ha.1
      rcases hts m (by omega) with ⟨_, h5⟩ | ⟨h5, _, h6⟩
      · exact absurd hw (h5 j hj)
      · have := h6 j hj hw
        have hne : through u (m : Int) ≠ [] := List.length_pos_iff.1 h5.pos
        have := h4 m (by omega) hne
        omega
    rcases hts i hi with ⟨h5, _⟩ | ⟨h5, h6, _⟩
    · rw [← h3] at h5; exact absurd h5 h1
    · rw [← h3] at h5 h6
      have hrg : ∀ (k : Nat) (x : Int), l[k]? = some x → 0 ≤ x ∧ x < u.length := by
        intro k x hx
        have := h5.wk k 0 i x h5.h0 (by rw [Nat.zero_add]; exact hx)
        exact this.rg hvd (by omega)
      have hcw : ∀ (k : Nat) (x : Int), l[k]? = some x → Wk u l.length x x := by
        intro k x hx
        obtain ⟨hk, _⟩ := List.getElem?_eq_some_iff.1 hx
        have w1 := h5.wk (l.length - 1 - k) k x (lst l) hx (by rw [show k + (l.length - 1 - k) = l.length - 1 by omega]; exact h5.last)
        have w2 := h5.wk k 0 i x h5.h0 (by rw [Nat.zero_add]; exact hx)
        have := (w1.snoc h6).trans w2
        rwa [show l.length - 1 - k + 1 + k = l.length by omega] at this
      have hlen := h5.pos
      refine .inr ⟨(cyclic_iff hvd).2 ⟨i, l.length, by omega, hlen, hcw 0 i h5.h0⟩, hrg, hlen, h5.st, fun x y hx hy => ?_, fun k x hx hin => ?_, fun x y hx hy => ?_, fun a j ha hj hw => ?_⟩
      · rw [h5.last] at hx; rw [h5.h0] at hy
        cases hx; cases hy; exact h6
      · obtain ⟨j, hj, hj2⟩ := take_mem_lt hin
        obtain ⟨hk, _⟩ := List.getElem?_eq_some_iff.1 hx
        have := h5.wk (k - j) j x x hj2 (by rw [show j + (k - j) = k by omega]; exact hx)
        have := (hmin x (k - j) (hrg k x hx) (by omega) this).1
        omega
      · obtain ⟨k, hk, e⟩ := List.getElem_of_mem hx
        have hk2 : l[k]? = some x := by simp [hk, e]
        rw [h5.h0] at hy; cases hy
        exact (hmin x l.length (hrg k x hk2) hlen (hcw k x hk2)).2 rfl
      · refine ⟨(hmin a j ha hj hw).1, fun he y hy => ?_⟩
        rw [h5.h0] at hy; cases hy
        exact (hmin a j ha hj hw).2 he
theorem Short.isCy {u : List (List Int)} {l : List Int} (h : Short u l) : isCy u l = true := by
  unfold Ytakpabiefjlmaaa.isCy
  rw [Bool.and_eq_true, Bool.and_eq_true, allR_true, allR_true]
  refine ⟨fun j _ hj => ?_, fun j _ hj => ?_, decide_eq_true h.pos⟩
  · obtain ⟨x, hx⟩ := get?_of (show j < l.length by omega)
    have hgx : l.getD j 0 = x := by simp [List.getD_eq_getElem?_getD, hx]
    have h1 := h.rg j x hx
    have h2 := h.nd j x hx
    rw [cy1, hgx]
    simp [h2]
    omega
  · obtain ⟨x, hx⟩ := get?_of (show j < l.length by omega)
    have hgx : l.getD j 0 = x := by simp [List.getD_eq_getElem?_getD, hx]
    obtain ⟨y, hy⟩ := get?_of (show (j + 1) % l.length < l.length from Nat.mod_lt _ h.pos)
    have hgy : l.getD ((j + 1) % l.length) 0 = y := by simp [List.getD_eq_getElem?_getD, hy]
    rw [cy2, hgx, hgy, decide_eq_true_eq]
    by_cases hj2 : j + 1 < l.length
    · rw [Nat.mod_eq_of_lt hj2] at hy
      exact h.st j x y hx hy
    · have e : j + 1 = l.length := by omega
      rw [e, Nat.mod_self] at hy
      rw [show j = l.length - 1 by omega] at hx
      exact h.cl x y hx hy

/-- What distance says is so. -/
theorem dK_spec {to : Int} : ∀ {l : List Int} {s s' : List Int × List Int}, dK to l s = some s' → ∀ x, x ∈ s'.2 → x ∈ s.2 ∨ x ∈ l
  | [], s, s', h, x, hx => by cases h; exact .inl hx
  | y :: l, s, s', h, x, hx => by
    rw [dK] at h
    split at h
    · cases h
    · split at h
      · rcases dK_spec h x hx with h1 | h1
        · exact .inl h1
        · exact .inr (List.mem_cons_of_mem _ h1)
      · rcases dK_spec h x hx with h1 | h1
        · rcases List.mem_append.1 h1 with h1 | h1
          · exact .inl h1
          · rw [List.mem_singleton.1 h1]; exact .inr (by simp)
        · exact .inr (List.mem_cons_of_mem _ h1)
theorem dK_none {to : Int} : ∀ {l : List Int} {s : List Int × List Int}, dK to l s = none → to ∈ l
  | [], s, h => by cases h
  | y :: l, s, h => by
    rw [dK] at h
    split at h
    · rename_i e; rw [e]; simp
    · split at h
      · exact List.mem_cons_of_mem _ (dK_none h)
      · exact List.mem_cons_of_mem _ (dK_none h)
theorem dI_spec {u : List (List Int)} {to : Int} : ∀ {now : List Int} {s s' : List Int × List Int}, dI u to now s = some s' → ∀ x, x ∈ s'.2 → x ∈ s.2 ∨ ∃ b, b ∈ now ∧ x ∈ us u b
  | [], s, s', h, x, hx => by cases h; exact .inl hx
  | y :: now, s, s', h, x, hx => by
    rw [dI] at h
    cases hk : dK to (u.getD y.toNat []) s with
    | none => rw [hk] at h; cases h
    | some s1 =>
      rw [hk, Option.bind_some] at h
      rcases dI_spec h x hx with h1 | ⟨b, h1, h2⟩
      · rcases dK_spec hk x h1 with h3 | h3
        · exact .inl h3
        · exact .inr ⟨y, by simp, h3⟩
      · exact .inr ⟨b, List.mem_cons_of_mem _ h1, h2⟩
theorem dI_none {u : List (List Int)} {to : Int} : ∀ {now : List Int} {s : List Int × List Int}, dI u to now s = none → ∃ b, b ∈ now ∧ to ∈ us u b
  | [], s, h => by cases h
  | y :: now, s, h => by
    rw [dI] at h
    cases hk : dK to (u.getD y.toNat []) s with
    | none => exact ⟨y, by simp, dK_none hk⟩
    | some s1 =>
      rw [hk, Option.bind_some] at h
      obtain ⟨b, h1, h2⟩ := dI_none h
      exact ⟨b, List.mem_cons_of_mem _ h1, h2⟩
theorem dN_spec {u : List (List Int)} {a to : Int} : ∀ {k n : Nat} {now seen : List Int}, (∀ x, x ∈ now → Wk u n a x) → 0 < dN u to k (n + 1) now seen → Wk u (dN u to k (n + 1) now seen) a to
  | 0, n, now, seen, h, hp => absurd hp (Nat.lt_irrefl 0)
  | k + 1, n, now, seen, h, hp => by
    rw [dN] at hp ⊢
    cases hd : dI u to now (seen, []) with
    | none =>
      obtain ⟨b, h1, h2⟩ := dI_none hd
      exact (h b h1).snoc h2
    | some s =>
      rw [hd] at hp
      simp only at hp ⊢
      refine dN_spec (fun x hx => ?_) hp
      rcases dI_spec hd x hx with h1 | ⟨b, h1, h2⟩
      · cases h1
      · exact (h b h1).snoc h2
theorem dist_spec {u : List (List Int)} {a to : Int} (h : 0 < dist u a to) : Wk u (dist u a to) a to := dN_spec (n := 0) (fun x hx => by rw [List.mem_singleton.1 hx]; rfl) h
end Go.Proofs.Ytakpabiefjlmaaa

/- Chapter 22, plain laws: what has to be checked again. -/
set_option linter.unusedSimpArgs false
set_option linter.unusedVariables false
namespace Go.Proofs.Ytakpabiefjlmaaa
open Go.Am Go.Proofs

theorem hit_congr {S S' : List Int} {f : List Bool} {x : Int} (h : x ∈ S ↔ x ∈ S') : hit S f x = hit S' f x := by
  unfold hit
  rw [decide_eq_decide.2 h]
theorem any_congr_of {l : List Int} {p q : Int → Bool} (h : ∀ x, x ∈ l → p x = q x) : l.any p = l.any q := by
  induction l with
  | nil => rfl
  | cons x l ih => rw [List.any_cons, List.any_cons, h x (by simp), ih fun y hy => h y (List.mem_cons_of_mem _ hy)]
theorem topo_mid {u : List (List Int)} {pre r : List Int} {m : Int} (h : Topo u (pre ++ m :: r)) : (0 ≤ m ∧ m < u.length) ∧ (∀ x, x ∈ us u m → x ∈ pre) ∧ m ∉ pre ∧ m ∉ r ∧ ∀ x, x ∈ pre → x ∉ r := by
  have h1 := h.us pre.length m (by simp)
  have h2 := List.nodup_append.1 h.nd
  refine ⟨h1.1, fun x hx => by simpa using h1.2 x hx, fun hm => h2.2.2 m hm m (by simp) rfl, (List.nodup_cons.1 h2.2.1).1, fun x hx hr => h2.2.2 x hx x (List.mem_cons_of_mem _ hr) rfl⟩
theorem stGo_spec {u : List (List Int)} {t f : List Bool} : ∀ (r st pre : List Int), Topo u (pre ++ r) → (∀ x, x ∈ st → x ∈ pre) → st.Nodup →
    (∀ x, x ∈ st → x ∈ stGo u t f r st) ∧ (∀ x, x ∈ stGo u t f r st → x ∈ st ∨ x ∈ r) ∧ (stGo u t f r st).Nodup ∧
    ∀ m, m ∈ r → (m ∈ stGo u t f r st ↔ (t.getD m.toNat false || (us u m).any (hit (stGo u t f r st) f)) = true)
  | [], st, pre, _, _, hn => ⟨fun x h => h, fun x h => .inl h, hn, fun m h => absurd h (by simp)⟩
  | m :: r, st, pre, ht, hs, hn => by
    obtain ⟨hm1, hm2, hm3, hm4, hm5⟩ := topo_mid ht
    rw [stGo]
    have e : u.getD m.toNat [] = us u m := rfl
    rw [e]
    have key : ∀ st', (st' = st ∨ st' = st ++ [m]) → (∀ x, x ∈ st' → x ∈ pre ++ [m]) ∧ st'.Nodup := by
      rintro st' (rfl | rfl)
      · exact ⟨fun x hx => List.mem_append_left _ (hs x hx), hn⟩
      · refine ⟨fun x hx => ?_, ?_⟩
        · rcases List.mem_append.1 hx with hx | hx
          · exact List.mem_append_left _ (hs x hx)
          · exact List.mem_append_right _ hx
        · rw [List.nodup_append]
          exact ⟨hn, by simp, fun a ha b hb e => hm3 (by rw [List.mem_singleton.1 hb] at e; exact e ▸ hs a ha)⟩
    have hst' : (if (t.getD m.toNat false || (us u m).any (hit st f)) = true then st ++ [m] else st) = st ∨ (if (t.getD m.toNat false || (us u m).any (hit st f)) = true then st ++ [m] else st) = st ++ [m] := by
      split
      · exact .inr rfl
      · exact .inl rfl
    have hmem : ∀ x, x ∈ (if (t.getD m.toNat false || (us u m).any (hit st f)) = true then st ++ [m] else st) ↔ x ∈ st ∨ (x = m ∧ (t.getD m.toNat false || (us u m).any (hit st f)) = true) := by
      intro x
      split
      · rename_i h
        rw [List.mem_append, List.mem_singleton]
        exact ⟨fun h1 => h1.elim .inl fun h1 => .inr ⟨h1, h⟩, fun h1 => h1.elim .inl fun h1 => .inr h1.1⟩
      · rename_i h
        exact ⟨.inl, fun h1 => h1.elim id fun h1 => absurd h1.2 h⟩
    generalize (if (t.getD m.toNat false || (us u m).any (hit st f)) = true then st ++ [m] else st) = st' at *
    obtain ⟨k1, k2⟩ := key st' hst'
    obtain ⟨h1, h2, h3, h4⟩ := stGo_spec (t := t) (f := f) r st' (pre ++ [m]) (by rw [List.append_assoc]; exact ht) k1 k2
    refine ⟨fun x hx => h1 x ((hmem x).2 (.inl hx)), fun x hx => ?_, h3, fun a ha => ?_⟩
    · rcases h2 x hx with h | h
      · rcases (hmem x).1 h with h | h
        · exact .inl h
        · exact .inr (by rw [h.1]; simp)
      · exact .inr (List.mem_cons_of_mem _ h)
    · rcases List.mem_cons.1 ha with rfl | ha
      · have hh : (us u a).any (hit (stGo u t f r st') f) = (us u a).any (hit st f) := any_congr_of fun x hx => hit_congr (by
          have hxp := hm2 x hx
          have hxa : x ≠ a := fun e => hm3 (e ▸ hxp)
          constructor
          · intro h
            rcases h2 x h with h | h
            · rcases (hmem x).1 h with h | h
              · exact h
              · exact absurd h.1 hxa
            · exact absurd h (hm5 x hxp)
          · exact fun h => h1 x ((hmem x).2 (.inl h)))
        rw [hh]
        constructor
        · intro h
          rcases h2 a h with h | h
          · rcases (hmem a).1 h with h | h
            · exact absurd (hs a h) hm3
            · exact h.2
          · exact absurd h hm4
        · exact fun h => h1 a ((hmem a).2 (.inr ⟨rfl, h⟩))
      · exact h4 a ha

theorem srt_lt {l : List Int} (h : l.Nodup) : (srt l).Pairwise (· < ·) := by
  have h1 : (srt l).Pairwise (· ≤ ·) := by
    have := List.pairwise_mergeSort (le := fun a b : Int => decide (a ≤ b)) (fun a b c h1 h2 => by simp at *; omega) (fun a b => by simp; omega) l
    exact List.Pairwise.imp (fun h => by simpa using h) this
  have h2 : (srt l).Nodup := (List.mergeSort_perm l _).nodup_iff.2 h
  exact (List.Pairwise.and h1 h2).imp fun ⟨a, b⟩ => by omega

/-- What Stale returns. -/
structure StOk (u : List (List Int)) (t f : List Bool) (l : List Int) : Prop where
  rq : ∀ m, m < u.length → ((m : Int) ∈ l ↔ required u t f l m = true)
  rg : ∀ x, x ∈ l → 0 ≤ x ∧ x < u.length
  so : l.Pairwise (· < ·)
theorem stale_ok {u : List (List Int)} {t f : List Bool} (hv : valid u = true) (hc : cyclic u = false) (ht : t.length = u.length) (hf : f.length = u.length) : StOk u t f (stale u t f) := by
  rcases order_cases hv with ⟨h1, _⟩ | ⟨_, h1, h2, _⟩
  · rw [hc] at h1; cases h1
  · have htp := order_topo u
    have e : stale u t f = srt (stGo u t f (order u).1 []) := if_pos ⟨h1, ht, hf⟩
    obtain ⟨k1, k2, k3, k4⟩ := stGo_spec (t := t) (f := f) (order u).1 [] [] htp (fun x hx => hx) (by simp)
    rw [e]
    generalize (order u).1 = o at *
    refine ⟨fun m hm => ?_, fun x hx => ?_, srt_lt k3⟩
    · have hmo := htp.full h2 (a := m) (by omega)
      rw [srt_mem, k4 m hmo]
      have : required u t f (srt (stGo u t f o [])) m = (t.getD (m : Int).toNat false || (us u m).any (hit (stGo u t f o []) f)) := by
        unfold required
        rw [Int.toNat_natCast]
        congr 1
        exact any_congr_of fun x _ => hit_congr (srt_mem _ _)
      rw [this]
    · rcases k2 x ((srt_mem _ _).1 hx) with h | h
      · cases h
      · obtain ⟨i, hi, rfl⟩ := List.getElem_of_mem h
        exact (htp.us i _ (by simp [hi])).1
/-- More has to be checked again if more changed. -/
theorem StOk.mono {u : List (List Int)} {t f t' f' : List Bool} {l l' : List Int} (hv : valid u = true) (hc : cyclic u = false) (h : StOk u t f l) (h' : StOk u t' f' l')
    (ht : ∀ i : Nat, t.getD i false = true → t'.getD i false = true) (hf : ∀ i : Nat, f.getD i false = true → f'.getD i false = true) : ∀ x, x ∈ l → x ∈ l' := by
  rcases order_cases hv with ⟨h1, _⟩ | ⟨_, h1, h2, _⟩
  · rw [hc] at h1; cases h1
  · have htp := order_topo u
    generalize (order u).1 = o at *
    have key : ∀ (n i : Nat) (x : Int), i < n → o[i]? = some x → x ∈ l → x ∈ l' := by
      intro n
      induction n with
      | zero => intro i x hi; exact absurd hi (Nat.not_lt_zero _)
      | succ n ih =>
        intro i x hi hx hxl
        obtain ⟨hr, hus⟩ := htp.us i x hx
        obtain ⟨m, rfl⟩ := Int.eq_ofNat_of_zero_le hr.1
        have hm : m < u.length := by omega
        have h3 := (h.rq m hm).1 hxl
        refine (h'.rq m hm).2 ?_
        unfold required at h3 ⊢
        rw [Bool.or_eq_true] at h3 ⊢
        rcases h3 with h3 | h3
        · exact .inl (ht m h3)
        · refine .inr ?_
          rw [List.any_eq_true] at h3 ⊢
          obtain ⟨y, hy, h4⟩ := h3
          refine ⟨y, hy, ?_⟩
          unfold hit at h4 ⊢
          rw [Bool.and_eq_true, decide_eq_true_eq] at h4 ⊢
          obtain ⟨j, hj, hjy⟩ := take_mem_lt (hus y hy)
          exact ⟨ih j y (by omega) hjy h4.1, hf _ h4.2⟩
    intro x hx
    obtain ⟨i, hi, e⟩ := List.getElem_of_mem (htp.full h2 (h.rg x hx))
    exact key (i + 1) i x (by omega) (by simp [hi, e]) hx
theorem StOk.none {u : List (List Int)} {t f : List Bool} {l : List Int} (h : StOk u t f l) (hf : ∀ i : Nat, f.getD i false = false) {m : Nat} (hm : m < u.length) : ((m : Int) ∈ l ↔ t.getD m false = true) := by
  rw [h.rq m hm, required]
  have : (u.getD m []).any (hit l f) = false := by
    rw [List.any_eq_false]
    intro x _
    simp [hit, hf x.toNat]
    intro _
    have := hf x.toNat
    rwa [List.getD_eq_getElem?_getD] at this
  rw [this, Bool.or_false]
end Go.Proofs.Ytakpabiefjlmaaa

/- Chapter 22, plain laws: waves. -/
set_option linter.unusedSimpArgs false
set_option linter.unusedVariables false
namespace Go.Proofs.Ytakpabiefjlmaaa
open Go.Am Go.Proofs

theorem rkm_le {ρ : Int → Int} : ∀ {l : List Int} {a b : Int}, a ≤ b → (∀ n, n ∈ l → ρ n + 1 ≤ b) → rkm ρ l a ≤ b
  | [], a, b, h, _ => h
  | n :: l, a, b, h, hl => by
    rw [rkm]
    exact rkm_le (by have := hl n (by simp); omega) fun m hm => hl m (List.mem_cons_of_mem _ hm)
theorem rkm_ge {ρ : Int → Int} : ∀ {l : List Int} {a : Int}, a ≤ rkm ρ l a
  | [], a => Int.le_refl a
  | n :: l, a => Int.le_trans (Int.le_max_left ..) (rkm_ge (l := l))
theorem rkm_congr {ρ ρ' : Int → Int} : ∀ {l : List Int} {a : Int}, (∀ n, n ∈ l → ρ n = ρ' n) → rkm ρ l a = rkm ρ' l a
  | [], a, _ => rfl
  | n :: l, a, h => by
    rw [rkm, rkm, h n (by simp)]
    exact rkm_congr fun m hm => h m (List.mem_cons_of_mem _ hm)
theorem addW_len {W : List (List Int)} {r : Nat} {m : Int} (h : r ≤ W.length) : (addW W r m).length = if r < W.length then W.length else W.length + 1 := by
  unfold addW
  split <;> simp
theorem addW_mem {W : List (List Int)} {r : Nat} {m : Int} (h : r ≤ W.length) (i : Nat) (x : Int) : x ∈ (addW W r m).getD i [] ↔ x ∈ W.getD i [] ∨ (i = r ∧ x = m) := by
  unfold addW
  split
  · rename_i hr
    simp only [List.getD_eq_getElem?_getD, List.getElem?_set]
    by_cases hi : r = i
    · subst hi
      simp [hr]
    · rw [if_neg hi]
      simp [Ne.symm hi]
  · obtain rfl : r = W.length := by omega
    simp only [List.getD_eq_getElem?_getD]
    by_cases hi : i < W.length
    · rw [List.getElem?_append_left hi]
      have : i ≠ W.length := by omega
      simp [this]
    · rw [List.getElem?_append_right (by omega), List.getElem?_eq_none (show W.length ≤ i by omega)]
      by_cases h2 : i = W.length
      · subst h2; simp
      · rw [List.getElem?_eq_none (by simp; omega)]
        simp [h2]
theorem addW_sum {W : List (List Int)} {r : Nat} {m : Int} (h : r ≤ W.length) : ((addW W r m).map List.length).sum = (W.map List.length).sum + 1 := by
  unfold addW
  split
  · rename_i hr
    clear h
    induction W generalizing r with
    | nil => simp at hr
    | cons w W ih =>
      cases r with
      | zero => simp [List.getD_eq_getElem?_getD]; omega
      | succ r =>
        have := ih (r := r) (by simpa using hr)
        simp only [List.getD_eq_getElem?_getD, List.set_cons_succ, List.map_cons, List.sum_cons, List.getElem?_cons_succ] at this ⊢
        omega
  · simp
theorem addW_nd {W : List (List Int)} {r : Nat} {m : Int} (h : ∀ w, w ∈ W → w.Nodup) (hm : m ∉ W.getD r []) : ∀ w, w ∈ addW W r m → w.Nodup := by
  unfold addW
  split
  · rename_i hr
    intro w hw
    rcases List.mem_or_eq_of_mem_set hw with hw | rfl
    · exact h w hw
    · rw [List.nodup_append]
      refine ⟨h _ ?_, by simp, fun a ha b hb e => hm (by rw [List.mem_singleton.1 hb] at e; exact e ▸ ha)⟩
      simp [List.getD_eq_getElem?_getD, hr]
  · intro w hw
    rcases List.mem_append.1 hw with hw | hw
    · exact h w hw
    · rw [List.mem_singleton.1 hw]; simp

/-- The waves of those before. -/
structure WI (u : List (List Int)) (pre : List Int) (ρ : Int → Int) (W : List (List Int)) : Prop where
  rg : ∀ n, n ∈ pre → 0 ≤ ρ n ∧ ρ n < W.length
  mem : ∀ (i : Nat) (x : Int), x ∈ W.getD i [] ↔ x ∈ pre ∧ ρ x = i
  nd : ∀ w, w ∈ W → w.Nodup
  sm : (W.map List.length).sum = pre.length
  ln : W.length ≤ pre.length
  rk : ∀ n, n ∈ pre → ρ n = rkm ρ (us u n) 0
theorem wGo_spec {u : List (List Int)} : ∀ (r pre : List Int) (ρ : Int → Int) (W : List (List Int)), Topo u (pre ++ r) → WI u pre ρ W → ∃ ρ', WI u (pre ++ r) ρ' (wGo u r ρ W)
  | [], pre, ρ, W, _, h => ⟨ρ, by rw [List.append_nil]; exact h⟩
  | m :: r, pre, ρ, W, ht, h => by
    obtain ⟨hm1, hm2, hm3, hm4, hm5⟩ := topo_mid ht
    rw [wGo]
    have e : u.getD m.toNat [] = us u m := rfl
    rw [e]
    have hle : rkm ρ (us u m) 0 ≤ W.length := rkm_le (by omega) fun n hn => by have := h.rg n (hm2 n hn); omega
    have hge : 0 ≤ rkm ρ (us u m) 0 := rkm_ge
    obtain ⟨q, hq⟩ := Int.eq_ofNat_of_zero_le hge
    have hρ : ∀ n, n ∈ pre → (if n = m then rkm ρ (us u m) 0 else ρ n) = ρ n := fun n hn => if_neg fun e : n = m => hm3 (e ▸ hn)
    rw [hq] at hle ⊢
    have hql : q ≤ W.length := by omega
    have hw : WI u (pre ++ [m]) (fun n => if n = m then (q : Int) else ρ n) (addW W q m) := by
      have hlen := addW_len (m := m) hql
      rw [hq] at hρ
      refine ⟨fun n hn => ?_, fun i x => ?_, ?_, ?_, ?_, fun n hn => ?_⟩
      · rcases List.mem_append.1 hn with hn | hn
        · simp only [hρ n hn]
          have := h.rg n hn
          rw [hlen]
          split <;> omega
        · rw [List.mem_singleton.1 hn]
          simp only [if_true]
          rw [hlen]
          split <;> omega
      · rw [addW_mem hql, h.mem]
        by_cases hx : x = m
        · subst hx
          simp only [hm3, false_and, and_true, false_or, if_true, List.mem_append, List.mem_singleton, or_true, true_and]
          omega
        · simp only [hx, and_false, or_false, if_false, List.mem_append, List.mem_singleton]
      · refine addW_nd h.nd fun hin => ?_
        exact hm3 ((h.mem _ _).1 hin).1
      · rw [addW_sum hql, h.sm]; simp
      · have := h.ln
        rw [hlen]
        simp only [List.length_append, List.length_singleton]
        split <;> omega
      · rcases List.mem_append.1 hn with hn | hn
        · obtain ⟨k, hk, e⟩ := List.getElem_of_mem hn
          have hk2 : (pre ++ m :: r)[k]? = some n := by rw [List.getElem?_append_left hk]; simp [hk, e]
          have hun := (ht.us k n hk2).2
          simp only [hρ n hn]
          rw [h.rk n hn]
          refine rkm_congr fun x hx => ?_
          have hxp := hun x hx
          rw [List.take_append_of_le_length (by omega)] at hxp
          exact (hρ x (List.mem_of_mem_take hxp)).symm
        · rw [List.mem_singleton.1 hn]
          simp only [if_true]
          rw [← hq]
          exact rkm_congr fun x hx => (by
            have := hρ x (hm2 x hx)
            rw [hq]
            exact this.symm)
    obtain ⟨ρ', h'⟩ := wGo_spec r (pre ++ [m]) _ _ (by rw [List.append_assoc]; exact ht) hw
    exact ⟨ρ', by rw [List.append_assoc] at h'; exact h'⟩

/-- What Waves returns. -/
structure WvOk (u : List (List Int)) (ρ : Int → Int) (W : List (List Int)) : Prop where
  mem : ∀ (i : Nat) (x : Int), x ∈ W.getD i [] ↔ (0 ≤ x ∧ x < u.length) ∧ ρ x = i
  so : ∀ w, w ∈ W → w.Pairwise (· < ·)
  sm : (W.map List.length).sum = u.length
  ln : W.length ≤ u.length
  rk : ∀ n : Int, (0 ≤ n ∧ n < u.length) → ρ n = rkm ρ (us u n) 0
  rg : ∀ n : Int, (0 ≤ n ∧ n < u.length) → 0 ≤ ρ n ∧ ρ n < W.length
theorem waves_ok {u : List (List Int)} (hv : valid u = true) (hc : cyclic u = false) : ∃ ρ, WvOk u ρ (waves u) := by
  rcases order_cases hv with ⟨h1, _⟩ | ⟨_, h1, h2, _⟩
  · rw [hc] at h1; cases h1
  · have htp := order_topo u
    have e : waves u = (wGo u (order u).1 (fun _ => 0) []).map srt := if_pos h1
    rw [e]
    generalize (order u).1 = o at *
    obtain ⟨ρ, h⟩ := wGo_spec o [] (fun _ => 0) [] htp ⟨by simp, by simp, by simp, by simp, by simp, by simp⟩
    rw [List.nil_append] at h
    generalize wGo u o (fun _ => 0) [] = W at *
    have hmo : ∀ x, x ∈ o ↔ 0 ≤ x ∧ x < u.length := fun x => by
      constructor
      · intro hx
        obtain ⟨i, hi, rfl⟩ := List.getElem_of_mem hx
        exact (htp.us i _ (by simp [hi])).1
      · exact fun hx => htp.full h2 hx
    have hg : ∀ i, (W.map srt).getD i [] = srt (W.getD i []) := by
      intro i
      simp only [List.getD_eq_getElem?_getD, List.getElem?_map]
      cases W[i]? with
      | none => simp [srt]
      | some w => rfl
    refine ⟨ρ, fun i x => ?_, fun w hw => ?_, ?_, by rw [List.length_map, ← h2]; exact h.ln, fun n hn => h.rk n ((hmo n).2 hn), fun n hn => ?_⟩
    · rw [hg, srt_mem, h.mem, hmo]
    · obtain ⟨w', hw', rfl⟩ := List.mem_map.1 hw
      exact srt_lt (h.nd w' hw')
    · rw [List.map_map, ← h2, ← h.sm]
      congr 1
      refine List.map_congr_left fun w _ => ?_
      exact List.length_mergeSort w
    · rw [List.length_map]
      exact h.rg n ((hmo n).2 hn)
theorem waves_nil {u : List (List Int)} (hv : valid u = true) (hc : cyclic u = true) : waves u = [] := by
  rcases order_cases hv with ⟨_, h1⟩ | ⟨h1, _⟩
  · have : ¬ (order u).2 = 0 := by rw [h1]; decide
    exact if_neg this
  · rw [hc] at h1; cases h1
/-- The greatest rank of those used, from a value on. -/
def bst (ρ : Int → Int) : List Int → Int → Int
  | [], b => b
  | n :: l, b => bst ρ l (max b (ρ n))
theorem bst_rkm {ρ : Int → Int} : ∀ {l : List Int} {b : Int}, bst ρ l b + 1 = rkm ρ l (b + 1)
  | [], b => rfl
  | n :: l, b => by
    rw [bst, rkm, bst_rkm]
    congr 1
    omega
end Go.Proofs.Ytakpabiefjlmaaa
