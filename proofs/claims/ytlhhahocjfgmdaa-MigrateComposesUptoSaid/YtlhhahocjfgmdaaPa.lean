/- A part of the proof: an abstract machine for the walks, and what the walked functions compute. -/
import Derived.Test.YtlhhahocjfgmdaaHv
set_option linter.unusedVariables false
set_option linter.unusedSimpArgs false
set_option linter.unusedVariables false
namespace Go.Mv
open Go Go.Am Go.Hv
inductive Ty where
 | mk (kind id : Int) (args : List Ty)
 deriving Inhabited
namespace Ty
def kind : Ty → Int | .mk k _ _ => k
def id : Ty → Int | .mk _ i _ => i
def args : Ty → List Ty | .mk _ _ a => a
mutual
def sz : Ty → Nat
 | .mk _ _ l => 1 + szL l
def szL : List Ty → Nat
 | [] => 0
 | t :: l => sz t + szL l
end
end Ty
structure Dv where
 nm : ByteArray
 fs : List Ty
structure Dd where
 nm : ByteArray
 md : Int
 pr : Int
 vs : List Dv
 dr : Int
structure Mg where
 data : Int
 vars : List Int
 fss : List (List Int)
def at? {α : Type} (l : List α) (i : Int) : Option α := if 0 ≤ i then l[i.toNat]? else none
mutual
def stB (n : Int) : Ty → Int → Bool
 | .mk k i a, d => if k = 1 then a.isEmpty else if k = 2 then a.isEmpty && (decide (0 ≤ i) && decide (i < n)) else if k = 3 ∨ k = 4 then a.length == 1 && (decide (1 < d) && stL n a (d - 1)) else false
def stL (n : Int) : List Ty → Int → Bool
 | [], _ => true
 | t :: l, d => stB n t d && stL n l d
end
mutual
def tyM (l : List Mg) : Ty → Ty
 | .mk k i a => .mk k (match (if k = 2 then at? l i else none) with | some x => x.data | none => i) (tyML l a)
def tyML (l : List Mg) : List Ty → List Ty
 | [] => []
 | t :: r => tyM l t :: tyML l r
end
def diffB (l : List Int) (n : Nat) : Bool := l.all (fun x => decide (x < n)) && decide (l.filter fun x => decide (0 ≤ x)).Nodup
mutual
def fitB (l : List Mg) : Vl → Bool
 | .mk k id var _ fs _ _ _ => if k = 2 then (match at? l id with
  | some x => (match at? x.vars var, at? x.fss var with | some _, some f => diffB f fs.length && fitL l fs | _, _ => false)
  | none => false) else true
def fitL (l : List Mg) : List Vl → Bool
 | [] => true
 | v :: r => fitB l v && fitL l r
end
def numV (n : Int) : Vl := .mk 1 0 0 n [] false [] []
def pick (f : List Int) (r : List (Vl × List Vl)) : List Vl := f.map fun j => match at? r j with | some p => p.1 | none => numV (-1 - j)
def lost (f : List Int) (fs : List Vl) : List Vl := (fs.zipIdx.filter fun p => !f.contains (p.2 : Int)).map (·.1)
def later (f : List Int) (r : List (Vl × List Vl)) : List Vl := f.flatMap fun j => match at? r j with | some p => p.2 | none => []
mutual
def valM (l : List Mg) : Vl → Vl × List Vl
 | .mk k id var n fs e p q => if k = 2 then (match at? l id with
  | some x => (match at? x.vars var, at? x.fss var with
   | some y, some f => (.mk 2 x.data y n (pick f (valL l fs)) e p q, lost f fs ++ later f (valL l fs))
   | _, _ => (.mk k id var n fs e p q, []))
  | none => (.mk k id var n fs e p q, [])) else (.mk k id var n fs e p q, [])
def valL (l : List Mg) : List Vl → List (Vl × List Vl)
 | [] => []
 | v :: r => valM l v :: valL l r
end
theorem valL_eq (l : List Mg) : ∀ fs, valL l fs = fs.map (valM l)
 | [] => by rw [valL]; rfl
 | v :: r => by rw [valL, valL_eq l r]; rfl
mutual
def tdB (d : List Dd) : Ty → Vl → Bool
 | .mk tk ti _, .mk k id var _ fs _ _ _ =>
  if tk = 1 then decide (k = 1) else if tk = 3 then decide (k = 3) else if tk = 4 then decide (k = 4)
  else if tk = 2 then decide (k = 2) && (decide (id = ti) && (match at? d ti with | some x => (match at? x.vs var with | some y => tdL d y.fs fs | none => false) | none => false))
  else false
def tdL (d : List Dd) : List Ty → List Vl → Bool
 | [], [] => true
 | t :: r, v :: s => tdB d t v && tdL d r s
 | _, _ => false
end
end Go.Mv

set_option linter.unusedVariables false
namespace Go.Mv
open Go Go.Am Go.Hv
def ShapP (old : Dd) (to : List Dd) (x : Mg) : Prop :=
 ∃ nd, at? to x.data = some nd ∧ x.vars.length = old.vs.length ∧ x.fss.length = old.vs.length ∧
  ∀ (k : Nat) v ov f, x.vars[k]? = some v → old.vs[k]? = some ov → x.fss[k]? = some f → ∃ nv, at? nd.vs v = some nv ∧ f.length = nv.fs.length ∧ diffB f ov.fs.length = true ∧ ∀ j, j ∈ f → -1000000001 ≤ j
def TypP (old : Dd) (to : List Dd) (l : List Mg) (x : Mg) : Prop :=
 ∀ nd (k : Nat) v ov f nv, at? to x.data = some nd → x.vars[k]? = some v → old.vs[k]? = some ov → x.fss[k]? = some f → at? nd.vs v = some nv →
  ∀ (j : Nat) t m, nv.fs[j]? = some t → f[j]? = some m → t = (match at? ov.fs m with | some s => tyM l s | none => .mk 1 0 [])
structure ChkP (frm to : List Dd) (l : List Mg) : Prop where
 len : l.length = frm.length
 shp : ∀ (i : Nat) x old, l[i]? = some x → frm[i]? = some old → ShapP old to x
 typ : ∀ (i : Nat) x old, l[i]? = some x → frm[i]? = some old → TypP old to l x
theorem at_some {α : Type} {l : List α} {i : Int} {x : α} (h : at? l i = some x) : ∃ n : Nat, i = n ∧ l[n]? = some x := by
 unfold at? at h
 split at h
 ·exact ⟨i.toNat, by omega, h⟩
 ·cases h
theorem at_nat {α : Type} (l : List α) (n : Nat) : at? l (n : Int) = l[n]? := by simp [at?]
theorem at_neg {α : Type} (l : List α) {i : Int} (h : i < 0) : at? l i = none := by unfold at?; rw [if_neg (by omega)]
theorem tdL_iff (d : List Dd) : ∀ (ts : List Ty) (vs : List Vl), tdL d ts vs = true ↔ ts.length = vs.length ∧ ∀ (j : Nat) t v, ts[j]? = some t → vs[j]? = some v → tdB d t v = true
 | [], [] => by simp [tdL]
 | [], v :: s => by simp [tdL]
 | t :: r, [] => by simp [tdL]
 | t :: r, v :: s => by
  rw [tdL, Bool.and_eq_true, tdL_iff d r s]
  constructor
  ·rintro ⟨h1, h2, h3⟩
   refine ⟨by simp [h2], fun j t' v' ht hv => ?_⟩
   cases j with
   | zero => simp at ht hv; subst ht hv; exact h1
   | succ j => exact h3 j t' v' (by simpa using ht) (by simpa using hv)
  ·rintro ⟨h1, h2⟩
   exact ⟨h2 0 t v rfl rfl, by simpa using h1, fun j t' v' ht hv => h2 (j + 1) t' v' (by simpa using ht) (by simpa using hv)⟩
theorem fitL_iff (l : List Mg) : ∀ vs : List Vl, fitL l vs = true ↔ ∀ v, v ∈ vs → fitB l v = true
 | [] => by simp [fitL]
 | v :: r => by rw [fitL, Bool.and_eq_true, fitL_iff l r]; simp
theorem get?_len {α β : Type} {a : List α} {b : List β} {j : Nat} {x : α} (h : a.length = b.length) (hx : a[j]? = some x) : ∃ y, b[j]? = some y := by
 have := (List.getElem?_eq_some_iff.1 hx).1
 exact ⟨b[j]'(by omega), List.getElem?_eq_getElem _⟩
mutual
theorem types_ok {frm to : List Dd} {l : List Mg} (hc : ChkP frm to l) : ∀ (v : Vl) (t : Ty), tdB frm t v = true → fitB l v = true ∧ tdB to (tyM l t) (valM l v).1 = true
 | .mk k id var n fs e p q, .mk tk ti ta, h => by
  rw [tdB] at h
  rw [tyM]
  by_cases t1 : tk = 1
  ·rw [if_pos t1] at h
   have hk : k = 1 := by simpa using h
   subst t1 hk
   exact ⟨by rw [fitB, if_neg (by decide)], by rw [valM, if_neg (by decide)]; simp [tdB]⟩
  rw [if_neg t1] at h
  by_cases t3 : tk = 3
  ·rw [if_pos t3] at h
   have hk : k = 3 := by simpa using h
   subst t3 hk
   exact ⟨by rw [fitB, if_neg (by decide)], by rw [valM, if_neg (by decide)]; simp [tdB]⟩
  rw [if_neg t3] at h
  by_cases t4 : tk = 4
  ·rw [if_pos t4] at h
   have hk : k = 4 := by simpa using h
   subst t4 hk
   exact ⟨by rw [fitB, if_neg (by decide)], by rw [valM, if_neg (by decide)]; simp [tdB]⟩
  rw [if_neg t4] at h
  by_cases t2 : tk = 2
  case neg => rw [if_neg t2] at h; cases h
  rw [if_pos t2] at h
  simp only [Bool.and_eq_true, decide_eq_true_eq] at h
  obtain ⟨hk, hid, h⟩ := h
  subst t2 hk hid
  cases hx : at? frm id with
  | none => rw [hx] at h; cases h
  | some old =>
  rw [hx] at h
  simp only at h
  cases hy : at? old.vs var with
  | none => rw [hy] at h; cases h
  | some ov =>
  rw [hy] at h
  simp only at h
  obtain ⟨i, rfl, hi⟩ := at_some hx
  obtain ⟨m, rfl, hm⟩ := at_some hy
  obtain ⟨x, hxl⟩ := get?_len hc.len.symm hi
  obtain ⟨nd, hnd, hl1, hl2, hs⟩ := hc.shp i x old hxl hi
  obtain ⟨w, hw⟩ := get?_len hl1.symm hm
  obtain ⟨f, hf⟩ := get?_len hl2.symm hm
  obtain ⟨nv, hnv, hfl, hdf, _⟩ := hs m w ov f hw hm hf
  have htp := hc.typ i x old hxl hi nd m w ov f nv hnd hw hm hf hnv
  obtain ⟨g1, g2⟩ := types_okL hc fs ov.fs h
  have hlen := ((tdL_iff frm ov.fs fs).1 h).1
  have ex : at? l (i : Int) = some x := by rw [at_nat]; exact hxl
  have ew : at? x.vars (m : Int) = some w := by rw [at_nat]; exact hw
  have ef : at? x.fss (m : Int) = some f := by rw [at_nat]; exact hf
  refine ⟨?_, ?_⟩
  ·rw [fitB, if_pos rfl, ex]
   simp only [ew, ef]
   rw [← hlen, hdf, g1]; rfl
  ·rw [valM, if_pos rfl, ex]
   simp only [ew, ef, if_true]
   rw [tdB, if_neg (by decide), if_neg (by decide), if_neg (by decide), if_pos rfl, hnd]
   simp only [hnv, decide_true, Bool.true_and]
   rw [tdL_iff]
   refine ⟨by simp [pick, hfl], fun j t v ht hv => ?_⟩
   rw [pick, List.getElem?_map] at hv
   cases hj : f[j]? with
   | none => rw [hj] at hv; cases hv
   | some r =>
   rw [hj] at hv
   simp only [Option.map_some, Option.some.injEq] at hv
   have h1 := htp j t r ht hj
   cases hr : at? ov.fs r with
   | none =>
    rw [hr] at h1
    simp only at h1
    have hr2 : at? (valL l fs) r = none := by
     unfold at? at hr ⊢
     split
     ·rename_i h0
      rw [if_pos h0] at hr
      rw [valL_eq, List.getElem?_map]
      have := List.getElem?_eq_none_iff.1 hr
      rw [List.getElem?_eq_none (by omega)]; rfl
     ·rfl
    rw [hr2] at hv
    subst hv h1
    simp [tdB, numV]
   | some s =>
    rw [hr] at h1
    simp only at h1
    obtain ⟨r', rfl, hs'⟩ := at_some hr
    obtain ⟨u, hu1, hu2⟩ := g2 r' s hs'
    have : at? (valL l fs) (r' : Int) = some (valM l u) := by rw [at_nat, valL_eq, List.getElem?_map, hu1]; rfl
    rw [this] at hv
    subst hv h1
    exact hu2
theorem types_okL {frm to : List Dd} {l : List Mg} (hc : ChkP frm to l) : ∀ (vs : List Vl) (ts : List Ty), tdL frm ts vs = true → fitL l vs = true ∧ ∀ (j : Nat) t, ts[j]? = some t → ∃ v, vs[j]? = some v ∧ tdB to (tyM l t) (valM l v).1 = true
 | [], [], _ => ⟨by rw [fitL], fun j t h => by simp at h⟩
 | [], t :: r, h => by simp [tdL] at h
 | v :: s, [], h => by simp [tdL] at h
 | v :: s, t :: r, h => by
  rw [tdL, Bool.and_eq_true] at h
  have a := types_ok hc v t h.1
  have b := types_okL hc s r h.2
  refine ⟨by rw [fitL, a.1, b.1]; rfl, fun j t' ht => ?_⟩
  cases j with
  | zero => simp at ht; subst ht; exact ⟨v, rfl, a.2⟩
  | succ j => obtain ⟨u, h1, h2⟩ := b.2 j t' (by simpa using ht); exact ⟨u, by simpa using h1, h2⟩
end
end Go.Mv

set_option linter.unusedVariables false
namespace Go.Mv
open Go Go.Am Go.Hv
theorem tyML_len (l : List Mg) : ∀ a : List Ty, (tyML l a).length = a.length
 | [] => by rw [tyML]
 | t :: r => by rw [tyML, List.length_cons, List.length_cons, tyML_len l r]
mutual
theorem stored_ok {l : List Mg} {n m : Int} (hn : n ≤ l.length) (hd : ∀ x, x ∈ l → 0 ≤ x.data ∧ x.data < m) : ∀ (t : Ty) (d : Int), stB n t d = true → stB m (tyM l t) d = true
 | .mk k i a, d, h => by
  rw [stB] at h
  rw [tyM, stB]
  by_cases k1 : k = 1
  ·rw [if_pos k1] at h ⊢
   have : a = [] := by simpa using h
   subst this
   rw [tyML]; rfl
  rw [if_neg k1] at h ⊢
  by_cases k2 : k = 2
  ·rw [if_pos k2] at h ⊢
   simp only [Bool.and_eq_true, decide_eq_true_eq] at h
   obtain ⟨h1, h2, h3⟩ := h
   have : a = [] := by simpa using h1
   subst this
   rw [if_pos k2]
   obtain ⟨j, rfl⟩ := Int.eq_ofNat_of_zero_le h2
   have hj : j < l.length := by omega
   rw [at_nat, List.getElem?_eq_getElem hj]
   have := hd _ (List.getElem_mem hj)
   simp [tyML, this]
  rw [if_neg k2] at h ⊢
  by_cases k3 : k = 3 ∨ k = 4
  ·rw [if_pos k3] at h ⊢
   simp only [Bool.and_eq_true, decide_eq_true_eq, beq_iff_eq] at h ⊢
   exact ⟨by rw [tyML_len]; exact h.1, h.2.1, stored_okL hn hd a _ h.2.2⟩
  ·rw [if_neg k3] at h; cases h
theorem stored_okL {l : List Mg} {n m : Int} (hn : n ≤ l.length) (hd : ∀ x, x ∈ l → 0 ≤ x.data ∧ x.data < m) : ∀ (a : List Ty) (d : Int), stL n a d = true → stL m (tyML l a) d = true
 | [], d, h => by rw [tyML, stL]
 | t :: r, d, h => by
  rw [stL, Bool.and_eq_true] at h
  rw [tyML, stL, stored_ok hn hd t d h.1, stored_okL hn hd r d h.2]; rfl
end
def StayP (i : Nat) (x : Mg) (old : Dd) : Prop :=
 x.data = i ∧ x.vars.length = old.vs.length ∧ x.fss.length = old.vs.length ∧
  ∀ (k : Nat) v ov f, x.vars[k]? = some v → old.vs[k]? = some ov → x.fss[k]? = some f → v = k ∧ f = (List.range ov.fs.length).map fun j : Nat => (j : Int)
theorem pick_id (r : List (Vl × List Vl)) : pick ((List.range r.length).map fun j : Nat => (j : Int)) r = r.map (·.1) := by
 apply List.ext_getElem?
 intro j
 rw [pick, List.getElem?_map, List.getElem?_map, List.getElem?_map]
 by_cases hj : j < r.length
 ·rw [List.getElem?_range hj]
  simp only [Option.map_some, at_nat]
  rw [List.getElem?_eq_getElem hj]
  rfl
 ·rw [List.getElem?_eq_none (by simpa using hj), List.getElem?_eq_none (by omega)]; rfl
theorem lost_id (fs : List Vl) : lost ((List.range fs.length).map fun j : Nat => (j : Int)) fs = [] := by
 unfold lost
 rw [List.map_eq_nil_iff, List.filter_eq_nil_iff]
 rintro ⟨v, j⟩ hv
 have := (List.mem_zipIdx hv).2.1
 simp only [Bool.not_eq_true, Bool.not_eq_false', List.contains_iff_mem, List.mem_map, List.mem_range]
 exact ⟨j, by omega, rfl⟩
theorem later_nil (f : List Int) (r : List (Vl × List Vl)) (h : ∀ p, p ∈ r → p.2 = []) : later f r = [] := by
 unfold later
 rw [List.flatMap_eq_nil_iff]
 intro j hj
 cases hr : at? r j with
 | none => rfl
 | some p =>
  obtain ⟨n, rfl, hn⟩ := at_some hr
  exact h p (List.mem_of_getElem? hn)
mutual
theorem stay_ok {frm : List Dd} {l : List Mg} (hl : l.length = frm.length) {S : Int → Prop} (hS : ∀ (i : Nat), S i → ∀ x old, l[i]? = some x → frm[i]? = some old → StayP i x old ∧ ∀ ov, ov ∈ old.vs → ∀ t, t ∈ ov.fs → t.kind = 2 → S t.id) :
    ∀ (v : Vl) (t : Ty), tdB frm t v = true → (t.kind = 2 → S t.id) → valM l v = (v, [])
  | .mk k id var n fs e p q, .mk tk ti ta, h, hs => by
    rw [tdB] at h
    by_cases hk : k = 2
    case neg => rw [valM, if_neg hk]
    subst hk
    by_cases t1 : tk = 1
    · rw [if_pos t1] at h; simp at h
    rw [if_neg t1] at h
    by_cases t3 : tk = 3
    · rw [if_pos t3] at h; simp at h
    rw [if_neg t3] at h
    by_cases t4 : tk = 4
    · rw [if_pos t4] at h; simp at h
    rw [if_neg t4] at h
    by_cases t2 : tk = 2
    case neg => rw [if_neg t2] at h; cases h
    rw [if_pos t2] at h
    simp only [Bool.and_eq_true, decide_eq_true_eq, true_and] at h
    obtain ⟨hid, h⟩ := h
    subst t2 hid
    cases hx : at? frm id with
    | none => rw [hx] at h; cases h
    | some old =>
    rw [hx] at h
    simp only at h
    cases hy : at? old.vs var with
    | none => rw [hy] at h; cases h
    | some ov =>
    rw [hy] at h
    simp only at h
    obtain ⟨i, rfl, hi⟩ := at_some hx
    obtain ⟨m, rfl, hm⟩ := at_some hy
    obtain ⟨x, hxl⟩ := get?_len hl.symm hi
    have hsi : S (i : Int) := hs rfl
    obtain ⟨⟨s1, s2, s3, s4⟩, s5⟩ := hS i hsi x old hxl hi
    obtain ⟨w, hw⟩ := get?_len s2.symm hm
    obtain ⟨f, hf⟩ := get?_len s3.symm hm
    obtain ⟨rfl, rfl⟩ := s4 m w ov f hw hm hf
    have ih := stay_okL hl hS fs ov.fs h (s5 ov (List.mem_of_getElem? hm))
    have hlen := ((tdL_iff frm ov.fs fs).1 h).1
    rw [valM, if_pos rfl, at_nat, hxl]
    simp only [at_nat, hw, hf]
    rw [ih.1, hlen, lost_id, later_nil _ _ (by intro p hp; obtain ⟨u, _, rfl⟩ := List.mem_map.1 hp; rfl)]
    have hp := pick_id (fs.map fun u => (u, ([] : List Vl)))
    rw [List.length_map] at hp
    rw [hp, List.map_map]
    simp [s1, Function.comp_def]
theorem stay_okL {frm : List Dd} {l : List Mg} (hl : l.length = frm.length) {S : Int → Prop} (hS : ∀ (i : Nat), S i → ∀ x old, l[i]? = some x → frm[i]? = some old → StayP i x old ∧ ∀ ov, ov ∈ old.vs → ∀ t, t ∈ ov.fs → t.kind = 2 → S t.id) :
    ∀ (vs : List Vl) (ts : List Ty), tdL frm ts vs = true → (∀ t, t ∈ ts → t.kind = 2 → S t.id) → valL l vs = vs.map (fun u => (u, [])) ∧ True
  | [], [], _, _ => ⟨by rw [valL]; rfl, trivial⟩
  | [], t :: r, h, _ => by simp [tdL] at h
  | v :: s, [], h, _ => by simp [tdL] at h
  | v :: s, t :: r, h, hs => by
    rw [tdL, Bool.and_eq_true] at h
    refine ⟨?_, trivial⟩
    rw [valL, stay_ok hl hS v t h.1 (hs t (by simp)), (stay_okL hl hS s r h.2 (fun t' ht => hs t' (List.mem_cons_of_mem _ ht))).1]
    rfl
end
end Go.Mv

set_option linter.unusedVariables false
namespace Go.Mv
open Go Go.Am Go.Hv
structure CompP (one two both : List Mg) : Prop where
 len : both.length = one.length
 at_ : ∀ (i : Nat) x, one[i]? = some x → ∃ y z, at? two x.data = some y ∧ both[i]? = some z ∧ z.data = y.data ∧ z.vars.length = x.vars.length ∧ z.fss.length = x.vars.length ∧
  ∀ (k : Nat) v f, x.vars[k]? = some v → x.fss[k]? = some f → ∃ w g, at? y.vars v = some w ∧ at? y.fss v = some g ∧ z.vars[k]? = some w ∧ z.fss[k]? = some (g.map fun j => (at? f j).getD j)
mutual
theorem tyM_comp {one two both : List Mg} (hc : CompP one two both) : ∀ (t : Ty) (d : Int), stB one.length t d = true → tyM both t = tyM two (tyM one t)
 | .mk k i a, d, h => by
  rw [stB] at h
  rw [tyM, tyM, tyM]
  by_cases k1 : k = 1
  ·rw [if_pos k1] at h
   have : a = [] := by simpa using h
   subst this k1
   simp [tyML]
  rw [if_neg k1] at h
  by_cases k2 : k = 2
  ·rw [if_pos k2] at h
   simp only [Bool.and_eq_true, decide_eq_true_eq] at h
   obtain ⟨h1, h2, h3⟩ := h
   have : a = [] := by simpa using h1
   subst this k2
   obtain ⟨j, rfl⟩ := Int.eq_ofNat_of_zero_le h2
   have hj : j < one.length := by omega
   obtain ⟨y, z, hy, hz, hd, _⟩ := hc.at_ j _ (List.getElem?_eq_getElem hj)
   simp only [if_true, at_nat, hz, List.getElem?_eq_getElem hj, hy, hd]
   simp [tyML]
  rw [if_neg k2] at h
  by_cases k3 : k = 3 ∨ k = 4
  ·rw [if_pos k3] at h
   simp only [Bool.and_eq_true, decide_eq_true_eq, beq_iff_eq] at h
   simp only [if_neg k2]
   rw [tyML_comp hc a _ h.2.2]
  ·rw [if_neg k3] at h; cases h
theorem tyML_comp {one two both : List Mg} (hc : CompP one two both) : ∀ (a : List Ty) (d : Int), stL one.length a d = true → tyML both a = tyML two (tyML one a)
 | [], d, h => by rw [tyML, tyML, tyML]
 | t :: r, d, h => by
  rw [stL, Bool.and_eq_true] at h
  rw [tyML, tyML, tyML, tyM_comp hc t d h.1, tyML_comp hc r d h.2]
end
theorem diff_lt {f : List Int} {n : Nat} (h : diffB f n = true) {j : Nat} {x : Int} (hx : f[j]? = some x) : x < n := by
 unfold diffB at h
 rw [Bool.and_eq_true, List.all_eq_true] at h
 simpa using h.1 x (List.mem_of_getElem? hx)
mutual
theorem valM_comp {a b c : List Dd} {one two both : List Mg} (h1 : ChkP a b one) (h2 : ChkP b c two) (hc : CompP one two both) : ∀ (v : Vl) (t : Ty), tdB a t v = true → (valM both v).1 = (valM two (valM one v).1).1
 | .mk k id var n fs e p q, .mk tk ti ta, h => by
  by_cases hk : k = 2
  case neg =>
   rw [valM, if_neg hk, valM, if_neg hk, valM, if_neg hk]
  subst hk
  rw [tdB] at h
  by_cases t1 : tk = 1
  ·rw [if_pos t1] at h; simp at h
  rw [if_neg t1] at h
  by_cases t3 : tk = 3
  ·rw [if_pos t3] at h; simp at h
  rw [if_neg t3] at h
  by_cases t4 : tk = 4
  ·rw [if_pos t4] at h; simp at h
  rw [if_neg t4] at h
  by_cases t2 : tk = 2
  case neg => rw [if_neg t2] at h; cases h
  rw [if_pos t2] at h
  simp only [Bool.and_eq_true, decide_eq_true_eq, true_and] at h
  obtain ⟨hid, h⟩ := h
  subst t2 hid
  cases hx : at? a id with
  | none => rw [hx] at h; cases h
  | some old =>
  rw [hx] at h
  simp only at h
  cases hy : at? old.vs var with
  | none => rw [hy] at h; cases h
  | some ov =>
  rw [hy] at h
  simp only at h
  obtain ⟨i, rfl, hi⟩ := at_some hx
  obtain ⟨m, rfl, hm⟩ := at_some hy
  obtain ⟨x, hxl⟩ := get?_len h1.len.symm hi
  obtain ⟨nd, hnd, hl1, hl2, hs⟩ := h1.shp i x old hxl hi
  obtain ⟨w, hw⟩ := get?_len hl1.symm hm
  obtain ⟨f, hf⟩ := get?_len hl2.symm hm
  obtain ⟨nv, hnv, hfl, hdf, _⟩ := hs m w ov f hw hm hf
  obtain ⟨y, z, hy2, hz, hzd, _, _, hzk⟩ := hc.at_ i x hxl
  obtain ⟨w2, g, hw2, hg, hz1, hz2⟩ := hzk m w f hw hf
  obtain ⟨i2, hi2, hyl⟩ := at_some hy2
  have hnd2 : b[i2]? = some nd := by rw [hi2, at_nat] at hnd; exact hnd
  obtain ⟨m2, hm2, hnv2⟩ := at_some hnv
  have hg2 : y.fss[m2]? = some g := by rw [hm2, at_nat] at hg; exact hg
  have hw3 : y.vars[m2]? = some w2 := by rw [hm2, at_nat] at hw2; exact hw2
  obtain ⟨nd3, hnd3, hl3, hl4, hs3⟩ := h2.shp i2 y nd hyl hnd2
  obtain ⟨nv3, hnv3, hgl, hdg, _⟩ := hs3 m2 w2 nv g hw3 hnv2 hg2
  have ih := valM_compL h1 h2 hc fs ov.fs h
  have hlen := ((tdL_iff a ov.fs fs).1 h).1
  rw [valM, if_pos rfl, at_nat, hz]
  simp only [at_nat, hz1, hz2]
  rw [valM, if_pos rfl, at_nat, hxl]
  simp only [at_nat, hw, hf]
  rw [valM, if_pos rfl, hy2]
  simp only [hw2, hg]
  rw [hzd]
  congr 1
  unfold pick
  rw [List.map_map]
  apply List.map_congr_left
  intro j hj
  simp only [Function.comp_apply]
  by_cases hj0 : j < 0
  ·have e1 : at? f j = none := at_neg _ hj0
   rw [e1, Option.getD_none, at_neg _ hj0, at_neg _ hj0]
  ·obtain ⟨r, rfl⟩ := Int.eq_ofNat_of_zero_le (show 0 ≤ j by omega)
   obtain ⟨jj, hjj⟩ := List.getElem?_of_mem hj
   have hr : r < f.length := by
    have := diff_lt hdg hjj
    omega
   have hfr : f[r]? = some f[r] := List.getElem?_eq_getElem hr
   generalize f[r] = s at hfr
   rw [at_nat f, hfr, Option.getD_some, at_nat, valL_eq, valL_eq, valL_eq, List.getElem?_map, List.getElem?_map, hfr, Option.map_some, Option.map_some]
   by_cases hs0 : s < 0
   ·rw [at_neg _ hs0, at_neg _ hs0]
    simp only
    rw [numV, valM, if_neg (by decide)]
   ·obtain ⟨s', rfl⟩ := Int.eq_ofNat_of_zero_le (show 0 ≤ s by omega)
    have hsl : s' < fs.length := by
     have := diff_lt hdf hfr
     omega
    rw [at_nat, at_nat, List.getElem?_map, List.getElem?_map, List.getElem?_eq_getElem hsl]
    simp only [Option.map_some]
    exact ih s' _ (List.getElem?_eq_getElem hsl)
theorem valM_compL {a b c : List Dd} {one two both : List Mg} (h1 : ChkP a b one) (h2 : ChkP b c two) (hc : CompP one two both) : ∀ (vs : List Vl) (ts : List Ty), tdL a ts vs = true → ∀ (j : Nat) v, vs[j]? = some v → (valM both v).1 = (valM two (valM one v).1).1
 | [], _, _, j, v, h => by simp at h
 | u :: s, [], h, j, v, hv => by simp [tdL] at h
 | u :: s, t :: r, h, j, v, hv => by
  rw [tdL, Bool.and_eq_true] at h
  cases j with
  | zero => simp at hv; subst hv; exact valM_comp h1 h2 hc u t h.1
  | succ j => exact valM_compL h1 h2 hc s r h.2 j v (by simpa using hv)
end
end Go.Mv

set_option linter.unusedVariables false
namespace Go.Mv
open Go Go.Am Go.Hv
theorem nodup_filter {f : List Int} (p : Int → Bool) : (f.filter p).Nodup ↔ ∀ (i j : Nat) x, i < j → f[i]? = some x → f[j]? = some x → p x = false := by
 rw [List.Nodup, List.pairwise_filter, List.pairwise_iff_getElem]
 constructor
 ·intro h i j x hij hi hj
  obtain ⟨a1, a2⟩ := List.getElem?_eq_some_iff.1 hi
  obtain ⟨b1, b2⟩ := List.getElem?_eq_some_iff.1 hj
  cases hp : p x
  ·rfl
  ·exact absurd (a2.trans b2.symm) (h i j a1 b1 hij (by rw [a2]; exact hp) (by rw [b2]; exact hp))
 ·intro h i j hi hj hij hpi hpj e
  have := h i j f[i] hij (List.getElem?_eq_getElem hi) (by rw [List.getElem?_eq_getElem hj, e])
  rw [this] at hpi; cases hpi
theorem diff_iff {f : List Int} {n : Nat} : diffB f n = true ↔ (∀ x, x ∈ f → x < n) ∧ ∀ (i j : Nat) x, i < j → f[i]? = some x → f[j]? = some x → x < 0 := by
 unfold diffB
 rw [Bool.and_eq_true, List.all_eq_true, decide_eq_true_eq, nodup_filter]
 simp
theorem diff_comp {f g : List Int} {n : Nat} (hf : diffB f n = true) (hg : diffB g f.length = true) : diffB (g.map fun j => (at? f j).getD j) n = true := by
 rw [diff_iff] at hf hg ⊢
 refine ⟨fun x hx => ?_, fun i j x hij hi hj => ?_⟩
 ·obtain ⟨y, hy, rfl⟩ := List.mem_map.1 hx
  cases h : at? f y with
  | none =>
   simp only [Option.getD_none]
   rcases Int.lt_or_le y 0 with h0 | h0
   ·omega
   ·obtain ⟨m, rfl⟩ := Int.eq_ofNat_of_zero_le h0
    have := hg.1 _ hy
    rw [at_nat, List.getElem?_eq_none_iff] at h
    omega
  | some z =>
   obtain ⟨m, _, hm⟩ := at_some h
   exact hf.1 z (List.mem_of_getElem? hm)
 ·rw [List.getElem?_map] at hi hj
  obtain ⟨a, ha, ea⟩ := Option.map_eq_some_iff.1 hi
  obtain ⟨b, hb, eb⟩ := Option.map_eq_some_iff.1 hj
  have key : ∀ y, y ∈ g → (at? f y).getD y = x → ¬ x < 0 → ∃ m : Nat, y = m ∧ f[m]? = some x := by
   intro y hy he hx
   cases h : at? f y with
   | none =>
    rw [h, Option.getD_none] at he
    subst he
    obtain ⟨m, rfl⟩ := Int.eq_ofNat_of_zero_le (show 0 ≤ y by omega)
    have := hg.1 _ hy
    rw [at_nat, List.getElem?_eq_none_iff] at h
    omega
   | some z =>
    rw [h, Option.getD_some] at he
    subst he
    exact at_some h
  apply Classical.byContradiction
  intro hx
  obtain ⟨ma, rfl, hma⟩ := key a (List.mem_of_getElem? ha) ea hx
  obtain ⟨mb, rfl, hmb⟩ := key b (List.mem_of_getElem? hb) eb hx
  by_cases e : ma = mb
  ·subst e
   have := hg.2 i j _ hij ha hb
   omega
  ·rcases Nat.lt_or_gt_of_ne e with h | h
   ·exact hx (hf.2 ma mb x h hma hmb)
   ·exact hx (hf.2 mb ma x h hmb hma)
theorem chk_comp {a b c : List Dd} {one two both : List Mg} (h1 : ChkP a b one) (h2 : ChkP b c two) (hc : CompP one two both) (hst : ∀ old, old ∈ a → ∀ ov, ov ∈ old.vs → ∀ t, t ∈ ov.fs → ∃ d, stB a.length t d = true) : ChkP a c both := by
  have main : ∀ (i : Nat) z old, both[i]? = some z → a[i]? = some old → ShapP old c z ∧ TypP old c both z := by
    intro i z old hz hi
    obtain ⟨x, hxl⟩ := get?_len h1.len.symm hi
    obtain ⟨nd, hnd, hl1, hl2, hs⟩ := h1.shp i x old hxl hi
    obtain ⟨y, z', hy2, hz', hzd, hzl1, hzl2, hzk⟩ := hc.at_ i x hxl
    rw [hz] at hz'
    cases hz'
    obtain ⟨i2, hi2, hyl⟩ := at_some hy2
    have hnd2 : b[i2]? = some nd := by rw [hi2, at_nat] at hnd; exact hnd
    obtain ⟨nd3, hnd3, hl3, hl4, hs3⟩ := h2.shp i2 y nd hyl hnd2
    have step : ∀ (k : Nat) v' ov f', z.vars[k]? = some v' → old.vs[k]? = some ov → z.fss[k]? = some f' → ∃ (v : Int) (f : List Int) (nv : Dv) (g : List Int) (nv3 : Dv) (m2 : Nat), x.vars[k]? = some v ∧ x.fss[k]? = some f ∧ at? nd.vs v = some nv ∧ nd.vs[m2]? = some nv ∧ y.vars[m2]? = some v' ∧ y.fss[m2]? = some g ∧ at? nd3.vs v' = some nv3 ∧ f' = g.map (fun j => (at? f j).getD j) ∧
        f.length = nv.fs.length ∧ diffB f ov.fs.length = true ∧ (∀ j, j ∈ f → -1000000001 ≤ j) ∧ g.length = nv3.fs.length ∧ diffB g nv.fs.length = true ∧ ∀ j, j ∈ g → -1000000001 ≤ j := by
      intro k v' ov f' hv' hk hf'
      obtain ⟨w, hw⟩ := get?_len hl1.symm hk
      obtain ⟨f, hf⟩ := get?_len hl2.symm hk
      obtain ⟨nv, hnv, hfl, hdf, hbf⟩ := hs k w ov f hw hk hf
      obtain ⟨w2, g, hw2, hg, hz1, hz2⟩ := hzk k w f hw hf
      rw [hv'] at hz1
      rw [hf'] at hz2
      cases hz1
      cases hz2
      obtain ⟨m2, hm2, hnv2⟩ := at_some hnv
      have hg2 : y.fss[m2]? = some g := by rw [hm2, at_nat] at hg; exact hg
      have hw3 : y.vars[m2]? = some v' := by rw [hm2, at_nat] at hw2; exact hw2
      obtain ⟨nv3, hnv3, hgl, hdg, hbg⟩ := hs3 m2 v' nv g hw3 hnv2 hg2
      exact ⟨w, f, nv, g, nv3, m2, hw, hf, hnv, hnv2, hw3, hg2, hnv3, rfl, hfl, hdf, hbf, hgl, hdg, hbg⟩
    refine ⟨⟨nd3, by rw [hzd]; exact hnd3, by omega, by omega, fun k v' ov f' hv' hk hf' => ?_⟩, ?_⟩
    · obtain ⟨v, f, nv, g, nv3, m2, q1, q2, q3, q4, q5, q6, q7, rfl, q8, q9, q10, q11, q12, q13⟩ := step k v' ov f' hv' hk hf'
      refine ⟨nv3, q7, by rw [List.length_map]; exact q11, diff_comp q9 (by rw [q8]; exact q12), fun j hj => ?_⟩
      obtain ⟨r, hr, rfl⟩ := List.mem_map.1 hj
      cases h : at? f r with
      | none => exact q13 r hr
      | some s =>
        obtain ⟨m, _, hm⟩ := at_some h
        exact q10 s (List.mem_of_getElem? hm)
    · intro nd' k v' ov f' nv' hnd' hv' hk hf' hnv' j t m ht hm
      rw [hzd, hnd3] at hnd'
      cases hnd'
      obtain ⟨v, f, nv, g, nv3, m2, q1, q2, q3, q4, q5, q6, q7, rfl, q8, q9, q10, q11, q12, q13⟩ := step k v' ov f' hv' hk hf'
      obtain rfl : nv3 = nv' := Option.some.inj (q7.symm.trans hnv')
      rw [List.getElem?_map] at hm
      obtain ⟨r, hr, rfl⟩ := Option.map_eq_some_iff.1 hm
      have ht2 := h2.typ i2 y nd hyl hnd2 nd3 m2 v' nv g nv3 hnd3 q5 q4 q6 q7 j t r ht hr
      rcases Int.lt_or_le r 0 with h0 | h0
      · rw [at_neg _ h0] at ht2
        rw [at_neg f h0, Option.getD_none, at_neg _ h0]
        exact ht2
      · obtain ⟨r', rfl⟩ := Int.eq_ofNat_of_zero_le h0
        have hlt : r' < nv.fs.length := by have := diff_lt q12 hr; omega
        have hs' : nv.fs[r']? = some nv.fs[r'] := List.getElem?_eq_getElem hlt
        have hf2 : f[r']? = some (f[r']'(by omega)) := List.getElem?_eq_getElem _
        generalize nv.fs[r'] = s at hs'
        generalize f[r']'(by omega) = e at hf2
        rw [at_nat, hs'] at ht2
        simp only at ht2
        rw [at_nat, hf2, Option.getD_some]
        have ht1 := h1.typ i x old hxl hi nd k v ov f nv hnd q1 hk q2 q3 r' s e hs' hf2
        cases hu : at? ov.fs e with
        | none =>
          rw [hu] at ht1
          simp only at ht1 ⊢
          subst ht1
          rw [ht2, tyM]
          simp [tyML]
        | some u =>
          rw [hu] at ht1
          simp only at ht1 ⊢
          subst ht1
          obtain ⟨mu, _, hmu⟩ := at_some hu
          obtain ⟨d, hd⟩ := hst old (List.mem_of_getElem? hi) ov (List.mem_of_getElem? hk) u (List.mem_of_getElem? hmu)
          rw [ht2]
          exact (tyM_comp hc u d (by rw [h1.len]; exact hd)).symm
  exact ⟨by rw [hc.len, h1.len], fun i z old hz hi => (main i z old hz hi).1, fun i z old hz hi => (main i z old hz hi).2⟩
end Go.Mv

set_option linter.unusedVariables false
namespace Go.Mv
open Go Go.Am Go.Hv
theorem sum_sub {α : Type} [DecidableEq α] (h : α → Nat) : ∀ (M L : List α), L.Nodup → (∀ x, x ∈ L → x ∈ M) → (L.map h).sum ≤ (M.map h).sum
 | [], L, hn, hs => by
  have : L = [] := by cases L with | nil => rfl | cons a l => exact absurd (hs a (by simp)) (by simp)
  subst this; simp
 | a :: M, L, hn, hs => by
  by_cases ha : a ∈ L
  ·have hp := List.perm_cons_erase ha
   have h1 := (hp.map h).sum_nat
   have h2 := sum_sub h M (L.erase a) (hn.erase a) (fun x hx => by
    have := (List.Nodup.mem_erase_iff hn).1 hx
    rcases List.mem_cons.1 (hs x this.2) with e | e
    ·exact absurd e this.1
    ·exact e)
   rw [h1]
   simp only [List.map_cons, List.sum_cons]
   omega
  ·have h2 := sum_sub h M L hn (fun x hx => by
    rcases List.mem_cons.1 (hs x hx) with e | e
    ·subst e; exact absurd hx ha
    ·exact e)
   simp only [List.map_cons, List.sum_cons]
   omega
theorem later_len (f : List Int) (r : List (Vl × List Vl)) (hf : diffB f r.length = true) : (later f r).length ≤ (r.map fun p => p.2.length).sum := by
 let h : Int → Nat := fun j => match at? r j with | some p => p.2.length | none => 0
 have e : ∀ l : List Int, (later l r).length = ((l.filter fun x => decide (0 ≤ x)).map h).sum := by
  intro l
  induction l with
  | nil => rfl
  | cons x l ih =>
   have e0 : (later (x :: l) r).length = h x + (later l r).length := by
    show (List.flatMap _ (x :: l)).length = _
    rw [List.flatMap_cons, List.length_append]
    congr 1
    show (match at? r x with | some p => p.2 | none => []).length = _
    simp only [h]
    cases at? r x <;> rfl
   rw [e0, ih, List.filter_cons]
   by_cases hx : 0 ≤ x
   ·simp [hx]
   ·have : h x = 0 := by simp only [h]; rw [at_neg _ (by omega)]
    simp [hx, this]
 rw [e f]
 unfold diffB at hf
 rw [Bool.and_eq_true, List.all_eq_true, decide_eq_true_eq] at hf
 have h1 := sum_sub h ((List.range r.length).map fun n : Nat => (n : Int)) _ hf.2 (fun x hx => by
  obtain ⟨g1, g2⟩ := List.mem_filter.1 hx
  have := hf.1 x g1
  simp only [decide_eq_true_eq] at this g2
  exact List.mem_map.2 ⟨x.toNat, List.mem_range.2 (by omega), by omega⟩)
 refine Nat.le_trans h1 (Nat.le_of_eq ?_)
 congr 1
 apply List.ext_getElem?
 intro n
 rw [List.getElem?_map, List.getElem?_map, List.getElem?_map]
 by_cases hn : n < r.length
 ·rw [List.getElem?_range hn, List.getElem?_eq_getElem hn]
  simp only [Option.map_some, h]
  rw [at_nat, List.getElem?_eq_getElem hn]
 ·rw [List.getElem?_eq_none (by simpa using hn), List.getElem?_eq_none (by omega)]; rfl
theorem lost_len (f : List Int) (fs : List Vl) : (lost f fs).length ≤ fs.length := by
 rw [lost, List.length_map]
 exact Nat.le_trans (List.length_filter_le _ _) (by rw [List.length_zipIdx]; exact Nat.le_refl _)
theorem lost_eq (f : List Int) (fs : List Vl) : (lost f fs).length = ((List.range' 0 fs.length).filter fun i : Nat => !f.contains (i : Int)).length := by
 rw [lost, List.length_map, ← List.zipIdx_map_snd 0 fs, List.filter_map, List.length_map]
 rfl
theorem map_le {α : Type} {f g : α → Nat} : ∀ {l : List α}, (∀ x, x ∈ l → f x ≤ g x) → (l.map f).sum ≤ (l.map g).sum
 | [], _ => Nat.le_refl _
 | x :: l, h => by
  simp only [List.map_cons, List.sum_cons]
  have h1 := h x (by simp)
  have h2 := map_le (l := l) fun y hy => h y (List.mem_cons_of_mem _ hy)
  omega
theorem len_le_sum {α : Type} {g : α → Nat} : ∀ {l : List α}, (∀ x, x ∈ l → 1 ≤ g x) → l.length ≤ (l.map g).sum
 | [], _ => Nat.le_refl _
 | x :: l, h => by
  simp only [List.map_cons, List.sum_cons, List.length_cons]
  have h1 := h x (by simp)
  have h2 := len_le_sum (l := l) fun y hy => h y (List.mem_cons_of_mem _ hy)
  omega
theorem split_len {f : List Int} {n : Nat} (hd : diffB f n = true) (L S : Nat → Nat) (hL : ∀ i, i < n → L i ≤ S i) (h1 : ∀ i, i < n → 1 ≤ S i) :
    ((List.range' 0 n).filter fun i : Nat => !f.contains (i : Int)).length + ((f.filter fun x => decide (0 ≤ x)).map fun x => L x.toNat).sum ≤ ((List.range' 0 n).map S).sum := by
  unfold diffB at hd
  rw [Bool.and_eq_true, List.all_eq_true, decide_eq_true_eq] at hd
  have hm : ∀ x, x ∈ (f.filter fun x => decide (0 ≤ x)) → 0 ≤ x ∧ x.toNat < n ∧ x ∈ f := fun x hx => by
    obtain ⟨g1, g2⟩ := List.mem_filter.1 hx
    have := hd.1 x g1
    simp only [decide_eq_true_eq] at this g2
    exact ⟨g2, by omega, g1⟩
  have hu : ∀ i, i ∈ ((List.range' 0 n).filter fun i : Nat => !f.contains (i : Int)) → i < n ∧ (i : Int) ∉ f := fun i hi => by
    obtain ⟨g1, g2⟩ := List.mem_filter.1 hi
    rw [List.mem_range'_1] at g1
    simp at g2
    exact ⟨by omega, g2⟩
  have key := sum_sub S (List.range' 0 n) (((f.filter fun x => decide (0 ≤ x)).map Int.toNat) ++ ((List.range' 0 n).filter fun i : Nat => !f.contains (i : Int))) ?_ ?_
  · rw [List.map_append, List.sum_append, List.map_map] at key
    have e1 : ((f.filter fun x => decide (0 ≤ x)).map fun x => L x.toNat).sum ≤ ((f.filter fun x => decide (0 ≤ x)).map (S ∘ Int.toNat)).sum := map_le fun x hx => hL _ (hm x hx).2.1
    have e2 := len_le_sum (g := S) (l := (List.range' 0 n).filter fun i : Nat => !f.contains (i : Int)) fun i hi => h1 i (hu i hi).1
    omega
  · rw [List.nodup_append]
    refine ⟨?_, List.Pairwise.filter _ (List.nodup_range' ..), fun a ha b hb => ?_⟩
    · rw [List.Nodup, List.pairwise_map]
      refine List.Pairwise.imp_of_mem ?_ hd.2
      intro a b ha hb hab e
      have := hm a ha
      have := hm b hb
      exact hab (by omega)
    · rintro rfl
      obtain ⟨x, hx, rfl⟩ := List.mem_map.1 ha
      have h2 := hm x hx
      have h3 := (hu _ hb).2
      rw [Int.toNat_of_nonneg h2.1] at h3
      exact h3 h2.2.2
  · intro i hi
    rw [List.mem_range'_1]
    rcases List.mem_append.1 hi with hi | hi
    · obtain ⟨x, hx, rfl⟩ := List.mem_map.1 hi
      have := hm x hx
      omega
    · have := (hu i hi).1
      omega
theorem range_map {α : Type} [Inhabited α] (g : α → Nat) (l : List α) : ((List.range' 0 l.length).map fun i => g (l.getD i default)) = l.map g := by
 apply List.ext_getElem?
 intro i
 rw [List.getElem?_map, List.getElem?_map]
 by_cases hi : i < l.length
 ·rw [List.getElem?_range' hi, List.getElem?_eq_getElem hi]
  simp [List.getD_eq_getElem?_getD, List.getElem?_eq_getElem hi]
 ·rw [List.getElem?_eq_none (by simpa using hi), List.getElem?_eq_none (by omega)]; rfl
theorem later_eq (f : List Int) (r : List (Vl × List Vl)) (hf : diffB f r.length = true) : (later f r).length = ((f.filter fun x => decide (0 ≤ x)).map fun x => (r.getD x.toNat default).2.length).sum := by
 unfold diffB at hf
 rw [Bool.and_eq_true, List.all_eq_true] at hf
 replace hf := hf.1
 induction f with
 | nil => rfl
 | cons x l ih =>
  have hx := hf x (by simp)
  simp only [decide_eq_true_eq] at hx
  have e0 : (later (x :: l) r).length = (match at? r x with | some p => p.2 | none => []).length + (later l r).length := by
   show (List.flatMap _ (x :: l)).length = _
   rw [List.flatMap_cons, List.length_append]; rfl
  rw [e0, ih (fun y hy => hf y (List.mem_cons_of_mem _ hy)), List.filter_cons]
  by_cases h0 : 0 ≤ x
  ·obtain ⟨m, rfl⟩ := Int.eq_ofNat_of_zero_le h0
   have hm : m < r.length := by omega
   simp [at_nat, List.getElem?_eq_getElem hm, List.getD_eq_getElem?_getD]
  ·simp [h0, at_neg _ (show x < 0 by omega)]
mutual
theorem left_len {l : List Mg} : ∀ v : Vl, fitB l v = true → (valM l v).2.length ≤ v.sz
 | .mk k id var n fs e p q, h => by
  by_cases hk : k = 2
  case neg => rw [valM, if_neg hk]; exact Nat.zero_le _
  rw [fitB, if_pos hk] at h
  rw [valM, if_pos hk]
  cases hx : at? l id with
  | none => rw [hx] at h; cases h
  | some x =>
  rw [hx] at h
  simp only at h ⊢
  cases hy : at? x.vars var with
  | none => rw [hy] at h; cases h
  | some y =>
  rw [hy] at h
  cases hf : at? x.fss var with
  | none => rw [hf] at h; cases h
  | some f =>
  rw [hf] at h
  simp only [Bool.and_eq_true] at h ⊢
  have hl : (valL l fs).length = fs.length := by rw [valL_eq, List.length_map]
  have h1 := later_eq f (valL l fs) (by rw [hl]; exact h.1)
  have h2 := lost_eq f fs
  have h3 := left_lenL fs h.2
  have h4 := split_len (f := f) (n := fs.length) h.1 (fun i => ((valL l fs).getD i default).2.length) (fun i => (fs.getD i default).sz) (fun i hi => by
   have e1 : (valL l fs)[i]? = some (valM l fs[i]) := by rw [valL_eq, List.getElem?_map, List.getElem?_eq_getElem hi]; rfl
   have := h3 i fs[i] (List.getElem?_eq_getElem hi)
   simp only [List.getD_eq_getElem?_getD, e1, List.getElem?_eq_getElem hi, Option.getD_some]
   exact this) (fun i hi => by rw [Vl.sz_eq]; omega)
  have e2 := range_map Vl.sz fs
  rw [e2, ← Vl.szL_eq] at h4
  rw [List.length_append, h1, h2, Vl.sz]
  omega
theorem left_lenL {l : List Mg} : ∀ vs : List Vl, fitL l vs = true → ∀ (i : Nat) v, vs[i]? = some v → (valM l v).2.length ≤ v.sz
 | [], _, i, v, hv => by simp at hv
 | u :: r, h, i, v, hv => by
  rw [fitL, Bool.and_eq_true] at h
  cases i with
  | zero => simp at hv; subst hv; exact left_len u h.1
  | succ i => exact left_lenL r h.2 i v (by simpa using hv)
end
theorem later_all {l : List Mg} {f : List Int} {fs : List Vl} (hd : diffB f fs.length = true) (hf : fitL l fs = true) (j : Nat) : (later (f.take j) (valL l fs)).length ≤ Vl.szL fs := by
 have hd' : diffB (f.take j) fs.length = true := by
  rw [diff_iff] at hd ⊢
  refine ⟨fun x hx => hd.1 x (List.mem_of_mem_take hx), fun a b x hab ha hb => ?_⟩
  rw [List.getElem?_take] at ha hb
  split at ha <;> split at hb
  ·exact hd.2 a b x hab ha hb
  all_goals first | cases ha | cases hb
 have h1 := later_len (f.take j) (valL l fs) (by rw [valL_eq, List.length_map]; exact hd')
 have h3 := left_lenL fs hf
 have e1 : ((valL l fs).map fun p => p.2.length).sum ≤ (fs.map Vl.sz).sum := by
  rw [valL_eq, List.map_map]
  refine map_le fun v hv => ?_
  obtain ⟨i, hi⟩ := List.getElem?_of_mem hv
  exact h3 i v hi
 rw [← Vl.szL_eq] at e1
 omega
theorem sum_pick {f : List Int} {r : List (Vl × List Vl)} (hf : diffB f r.length = true) : Vl.szL (pick f r) ≤ f.length + (r.map fun p => p.1.sz).sum := by
 let h : Int → Nat := fun j => match at? r j with | some p => p.1.sz | none => 0
 have e : ∀ l : List Int, Vl.szL (pick l r) ≤ l.length + ((l.filter fun x => decide (0 ≤ x)).map h).sum := by
  intro l
  induction l with
  | nil => exact Nat.le_refl _
  | cons x l ih =>
   have e0 : pick (x :: l) r = (match at? r x with | some p => p.1 | none => numV (-1 - x)) :: pick l r := rfl
   have hh : (match at? r x with | some p => p.1 | none => numV (-1 - x)).sz ≤ 1 + h x := by
    show _ ≤ 1 + (match at? r x with | some p => p.1.sz | none => 0)
    cases at? r x with
    | none => exact Nat.le_refl 1
    | some p => exact Nat.le_add_left _ _
   rw [e0, Vl.szL, List.filter_cons, List.length_cons]
   by_cases hx : 0 ≤ x
   ·simp only [hx, decide_true, if_true, List.map_cons, List.sum_cons]
    omega
   ·have h0 : h x = 0 := by
     show (match at? r x with | some p => p.1.sz | none => 0) = 0
     rw [at_neg _ (by omega)]
    simp only [hx, decide_false, Bool.false_eq_true, if_false]
    omega
 have h0 := e f
 unfold diffB at hf
 rw [Bool.and_eq_true, List.all_eq_true, decide_eq_true_eq] at hf
 have h1 := sum_sub h ((List.range r.length).map fun n : Nat => (n : Int)) _ hf.2 (fun x hx => by
  obtain ⟨g1, g2⟩ := List.mem_filter.1 hx
  have := hf.1 x g1
  simp only [decide_eq_true_eq] at this g2
  exact List.mem_map.2 ⟨x.toNat, List.mem_range.2 (by omega), by omega⟩)
 have h2 : ((List.range r.length).map fun n : Nat => (n : Int)).map h = r.map fun p => p.1.sz := by
  apply List.ext_getElem?
  intro n
  rw [List.getElem?_map, List.getElem?_map, List.getElem?_map]
  by_cases hn : n < r.length
  ·rw [List.getElem?_range hn, List.getElem?_eq_getElem hn]
   simp only [Option.map_some, h]
   rw [at_nat, List.getElem?_eq_getElem hn]
  ·rw [List.getElem?_eq_none (by simpa using hn), List.getElem?_eq_none (by omega)]; rfl
 rw [h2] at h1
 omega
mutual
theorem val_sz {l : List Mg} {F : Nat} (hF : ∀ x, x ∈ l → ∀ f, f ∈ x.fss → f.length ≤ F) : ∀ v : Vl, fitB l v = true → (valM l v).1.sz ≤ (F + 1) * v.sz
 | .mk k id var n fs e p q, h => by
  have e4 : (Vl.mk k id var n fs e p q).sz = (1 + p.length + q.length) + Vl.szL fs := by rw [Vl.sz]
  by_cases hk : k = 2
  case neg => rw [valM, if_neg hk]; simp only; exact Nat.le_mul_of_pos_left _ (by omega)
  rw [fitB, if_pos hk] at h
  rw [valM, if_pos hk]
  cases hx : at? l id with
  | none => rw [hx] at h; cases h
  | some x =>
  rw [hx] at h
  simp only at h ⊢
  cases hy : at? x.vars var with
  | none => rw [hy] at h; cases h
  | some y =>
  rw [hy] at h
  cases hf : at? x.fss var with
  | none => rw [hf] at h; cases h
  | some f =>
  rw [hf] at h
  simp only [Bool.and_eq_true] at h ⊢
  have h1 := sum_pick (f := f) (r := valL l fs) (by rw [valL_eq, List.length_map]; exact h.1)
  have h3 := val_szL hF fs h.2
  obtain ⟨i, _, hi⟩ := at_some hx
  obtain ⟨m, _, hm⟩ := at_some hf
  have h5 := hF x (List.mem_of_getElem? hi) f (List.mem_of_getElem? hm)
  have e5 : (Vl.mk 2 x.data y n (pick f (valL l fs)) e p q).sz = (1 + p.length + q.length) + Vl.szL (pick f (valL l fs)) := by rw [Vl.sz]
  rw [e4, e5]
  simp only [Nat.mul_add, Nat.add_mul, Nat.one_mul, Nat.mul_one] at h3 ⊢
  omega
theorem val_szL {l : List Mg} {F : Nat} (hF : ∀ x, x ∈ l → ∀ f, f ∈ x.fss → f.length ≤ F) : ∀ vs : List Vl, fitL l vs = true → ((valL l vs).map fun p => p.1.sz).sum ≤ (F + 1) * Vl.szL vs
 | [], _ => by rw [valL, Vl.szL]; exact Nat.zero_le _
 | v :: r, h => by
  rw [fitL, Bool.and_eq_true] at h
  rw [valL, Vl.szL]
  have h1 := val_sz hF v h.1
  have h2 := val_szL hF r h.2
  simp only [List.map_cons, List.sum_cons, Nat.mul_add]
  omega
end
mutual
theorem tyM_sz (l : List Mg) : ∀ t : Ty, (tyM l t).sz = t.sz
 | .mk k i a => by rw [tyM, Ty.sz, Ty.sz, tyM_szL l a]
theorem tyM_szL (l : List Mg) : ∀ a : List Ty, Ty.szL (tyML l a) = Ty.szL a
 | [] => by rw [tyML]
 | t :: a => by rw [tyML, Ty.szL, Ty.szL, tyM_sz l t, tyM_szL l a]
end
end Go.Mv

set_option linter.unusedVariables false
namespace Go.Mv
open Go Go.Am Go.Hv
def okV (old nd : Dd) (x : Mg) (k : Nat) : Prop := ∀ v ov f, x.vars[k]? = some v → old.vs[k]? = some ov → x.fss[k]? = some f → ∃ nv, at? nd.vs v = some nv ∧ f.length = nv.fs.length ∧ diffB f ov.fs.length = true ∧ ∀ j, j ∈ f → -1000000001 ≤ j
theorem shap_iff {old nd : Dd} {to : List Dd} {x : Mg} (hd : at? to x.data = some nd) (h1 : x.vars.length = old.vs.length) (h2 : x.fss.length = old.vs.length) : ShapP old to x ↔ ∀ k, k < x.vars.length → okV old nd x k := by
 constructor
 ·rintro ⟨nd', g1, _, _, g2⟩ k hk v ov f a b c
  rw [hd] at g1
  cases g1
  exact g2 k v ov f a b c
 ·intro h
  exact ⟨nd, hd, h1, h2, fun k v ov f a b c => h k (List.getElem?_eq_some_iff.1 a).1 v ov f a b c⟩
theorem at_none {α : Type} {l : List α} {i : Int} (h : ¬ (0 ≤ i ∧ i < l.length)) : at? l i = none := by
 unfold at?
 split
 ·exact List.getElem?_eq_none (by omega)
 ·rfl
theorem at_in {α : Type} {l : List α} {i : Int} (h1 : 0 ≤ i) (h2 : i < l.length) : ∃ x, at? l i = some x := by
 obtain ⟨n, rfl⟩ := Int.eq_ofNat_of_zero_le h1
 rw [at_nat]
 exact ⟨_, List.getElem?_eq_getElem (by omega)⟩
end Go.Mv

set_option linter.unusedVariables false
namespace Go.Mv
open Go Go.Am Go.Hv
def wantT (l : List Mg) (ov : Dv) (m : Int) : Ty := match at? ov.fs m with | some s => tyM l s | none => .mk 1 0 []
theorem wantT_neg (l : List Mg) (ov : Dv) {m : Int} (h : m < 0) : wantT l ov m = .mk 1 0 [] := by rw [wantT, at_neg _ h]
theorem wantT_nat (l : List Mg) (ov : Dv) {m : Nat} {s : Ty} (h : ov.fs[m]? = some s) : wantT l ov m = tyM l s := by rw [wantT, at_nat, h]
def okT (old nd : Dd) (l : List Mg) (x : Mg) (k : Nat) : Prop := ∀ v ov f nv, x.vars[k]? = some v → old.vs[k]? = some ov → x.fss[k]? = some f → at? nd.vs v = some nv → ∀ (j : Nat) t m, nv.fs[j]? = some t → f[j]? = some m → t = wantT l ov m
theorem typ_iff {old nd : Dd} {to : List Dd} {l : List Mg} {x : Mg} (hd : at? to x.data = some nd) : TypP old to l x ↔ ∀ k, k < x.vars.length → okT old nd l x k := by
 constructor
 ·intro h k hk v ov f nv a b c e j t m h1 h2
  exact h nd k v ov f nv hd a b c e j t m h1 h2
 ·intro h nd' k v ov f nv hd' a b c e j t m h1 h2
  rw [hd] at hd'
  cases hd'
  exact h k (List.getElem?_eq_some_iff.1 a).1 v ov f nv a b c e j t m h1 h2
structure ShapF (old nd : Dd) (to : List Dd) (x : Mg) : Prop where
 at_ : at? to x.data = some nd
 l1 : x.vars.length = old.vs.length
 l2 : x.fss.length = old.vs.length
 ok : ∀ k, okV old nd x k
theorem shap_f {old : Dd} {to : List Dd} {x : Mg} (h : ShapP old to x) : ∃ nd, ShapF old nd to x := by
 obtain ⟨nd, h1, h2, h3, h4⟩ := h
 exact ⟨nd, h1, h2, h3, fun k v ov f a b c => h4 k v ov f a b c⟩
theorem ShapF.var {old nd : Dd} {to : List Dd} {x : Mg} (h : ShapF old nd to x) {v : Int} (hv : v ∈ x.vars) : ∃ nv, at? nd.vs v = some nv := by
 obtain ⟨k, hk⟩ := List.getElem?_of_mem hv
 have hkl := (List.getElem?_eq_some_iff.1 hk).1
 obtain ⟨ov, hov⟩ := get?_of (show k < old.vs.length by have := h.l1; omega)
 obtain ⟨f, hf⟩ := get?_of (show k < x.fss.length by have := h.l1; have := h.l2; omega)
 obtain ⟨nv, g, _⟩ := h.ok k v ov f hk hov hf
 exact ⟨nv, g⟩
end Go.Mv

set_option linter.unusedVariables false
namespace Go.Mv
open Go Go.Am Go.Hv
open Classical
def okS (old : Dd) (x : Mg) (k : Nat) : Prop := ∀ v ov f, x.vars[k]? = some v → old.vs[k]? = some ov → x.fss[k]? = some f → v = k ∧ f = (List.range ov.fs.length).map fun j : Nat => (j : Int)
theorem stay_iff {old nd : Dd} {to : List Dd} {x : Mg} (h : ShapF old nd to x) (i : Nat) : StayP i x old ↔ x.data = i ∧ ∀ k, k < x.vars.length → okS old x k := by
 constructor
 ·rintro ⟨h1, _, _, h4⟩
  exact ⟨h1, fun k hk v ov f a b c => h4 k v ov f a b c⟩
 ·rintro ⟨h1, h4⟩
  exact ⟨h1, h.l1, h.l2, fun k v ov f a b c => h4 k (List.getElem?_eq_some_iff.1 a).1 v ov f a b c⟩
noncomputable def chgB (frm : List Dd) (l : List Mg) : List Bool := l.zipIdx.map fun p => match frm[p.2]? with | some old => !decide (StayP p.2 p.1 old) | none => false
theorem chgB_len (frm : List Dd) (l : List Mg) : (chgB frm l).length = l.length := by simp [chgB]
theorem chgB_get {frm : List Dd} {l : List Mg} {i : Nat} {x : Mg} {old : Dd} (h1 : l[i]? = some x) (h2 : frm[i]? = some old) : (chgB frm l)[i]? = some (!decide (StayP i x old)) := by
 simp [chgB, h1, h2]
theorem range_iff {f : List Int} {n : Nat} : f = (List.range n).map (fun j : Nat => (j : Int)) ↔ f.length = n ∧ ∀ (j : Nat) m, f[j]? = some m → m = j := by
 constructor
 ·rintro rfl
  refine ⟨by simp, fun j m h => ?_⟩
  rw [List.getElem?_map] at h
  by_cases hj : j < n
  ·rw [List.getElem?_range hj] at h; exact (Option.some.inj h).symm
  ·rw [List.getElem?_eq_none (by simpa using hj)] at h; cases h
 ·rintro ⟨h1, h2⟩
  apply List.ext_getElem?
  intro j
  rw [List.getElem?_map]
  by_cases hj : j < n
  ·rw [List.getElem?_range hj, List.getElem?_eq_getElem (by omega)]
   have := h2 j _ (List.getElem?_eq_getElem (by omega))
   rw [this]; rfl
  ·rw [List.getElem?_eq_none (by omega), List.getElem?_eq_none (by simpa using hj)]; rfl
end Go.Mv

set_option linter.unusedVariables false
namespace Go.Mv
open Go Go.Am Go.Hv
def compF (g f : List Int) : List Int := g.map fun j => (at? f j).getD j
def comp1 (x y : Mg) : Mg := ⟨y.data, x.vars.map fun v => (at? y.vars v).getD 0, (List.range x.vars.length).map fun k => compF ((at? y.fss (x.vars.getD k 0)).getD []) (x.fss.getD k [])⟩
def compM (one two : List Mg) : List Mg := one.map fun x => match at? two x.data with | some y => comp1 x y | none => x
structure Cmp1 (x y : Mg) : Prop where
 len : x.fss.length = x.vars.length
 ok : ∀ (k : Nat) v f, x.vars[k]? = some v → x.fss[k]? = some f → ∃ w g, at? y.vars v = some w ∧ at? y.fss v = some g ∧ ∀ j, j ∈ g → j < f.length
def CmpOk (one two : List Mg) : Prop := ∀ x, x ∈ one → ∃ y, at? two x.data = some y ∧ Cmp1 x y
theorem comp1_get {x y : Mg} (h : Cmp1 x y) {k : Nat} {v w : Int} {f g : List Int} (hv : x.vars[k]? = some v) (hf : x.fss[k]? = some f) (hw : at? y.vars v = some w) (hg : at? y.fss v = some g) : (comp1 x y).vars[k]? = some w ∧ (comp1 x y).fss[k]? = some (compF g f) := by
 have hk := (List.getElem?_eq_some_iff.1 hv).1
 constructor
 ·simp [comp1, hv, hw]
 ·simp only [comp1, List.getElem?_map, List.getElem?_range hk, Option.map_some]
  simp [List.getD_eq_getElem?_getD, hv, hf, hg]
theorem comp1_len (x y : Mg) : (comp1 x y).vars.length = x.vars.length ∧ (comp1 x y).fss.length = x.vars.length := by simp [comp1]
theorem compM_get {one two : List Mg} {i : Nat} {x y : Mg} (h1 : one[i]? = some x) (h2 : at? two x.data = some y) : (compM one two)[i]? = some (comp1 x y) := by
 simp [compM, h1, h2]
theorem compM_len (one two : List Mg) : (compM one two).length = one.length := by simp [compM]
theorem cmp_ok {a b c : List Dd} {one two : List Mg} (h1 : ChkP a b one) (h2 : ChkP b c two) : CmpOk one two := by
 intro x hx
 obtain ⟨i, hi⟩ := List.getElem?_of_mem hx
 have hil := (List.getElem?_eq_some_iff.1 hi).1
 obtain ⟨old, hold⟩ := get?_of (show i < a.length by have := h1.len; omega)
 obtain ⟨nd, hnd, hl1, hl2, hs⟩ := h1.shp i x old hi hold
 obtain ⟨m, hm, hm2⟩ := at_some hnd
 obtain ⟨y, hy⟩ := get?_of (show m < two.length by have := (List.getElem?_eq_some_iff.1 hm2).1; have := h2.len; omega)
 obtain ⟨nd3, hnd3, hl3, hl4, hs3⟩ := h2.shp m y nd hy hm2
 refine ⟨y, by rw [hm, at_nat]; exact hy, by omega, fun k v f hv hf => ?_⟩
 obtain ⟨ov, hov⟩ := get?_of (show k < old.vs.length by have := (List.getElem?_eq_some_iff.1 hv).1; omega)
 obtain ⟨nv, hnv, hfl, hdf, _⟩ := hs k v ov f hv hov hf
 obtain ⟨q, hq, hq2⟩ := at_some hnv
 obtain ⟨w, hw⟩ := get?_of (show q < y.vars.length by have := (List.getElem?_eq_some_iff.1 hq2).1; omega)
 obtain ⟨g, hg⟩ := get?_of (show q < y.fss.length by have := (List.getElem?_eq_some_iff.1 hq2).1; omega)
 obtain ⟨nv3, _, _, hdg, _⟩ := hs3 q w nv g hw hq2 hg
 refine ⟨w, g, by rw [hq, at_nat]; exact hw, by rw [hq, at_nat]; exact hg, fun j hj => ?_⟩
 have := (diff_iff.1 hdg).1 j hj
 omega
theorem comp_p {one two : List Mg} (h : CmpOk one two) : CompP one two (compM one two) := by
 refine ⟨compM_len _ _, fun i x hi => ?_⟩
 obtain ⟨y, hy, hc⟩ := h x (List.mem_of_getElem? hi)
 refine ⟨y, comp1 x y, hy, compM_get hi hy, rfl, (comp1_len x y).1, (comp1_len x y).2, fun k v f hv hf => ?_⟩
 obtain ⟨w, g, hw, hg, _⟩ := hc.ok k v f hv hf
 obtain ⟨e1, e2⟩ := comp1_get hc hv hf hw hg
 exact ⟨w, g, hw, hg, e1, e2⟩
end Go.Mv
