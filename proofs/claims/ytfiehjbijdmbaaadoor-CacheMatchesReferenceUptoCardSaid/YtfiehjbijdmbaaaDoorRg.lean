/- A part of the proof: an abstract machine for the walks, and what the walked functions compute. -/
import Derived.KernelRfl
import Derived.Test.YtfiehjbijdmbaaaDoorRf
set_option linter.unusedVariables false
set_option linter.unusedSimpArgs false
set_option linter.unusedSimpArgs false
set_option linter.unusedVariables false
set_option maxHeartbeats 4000000
set_option maxRecDepth 100000
namespace Go.Am
open Nat (reduceAdd reduceMul reduceEqDiff reduceLT reduceLeDiff reduceSub reduceDiv)
open Int (reduceBNe reduceLE reduceEq)
def MapS (es : List (AV × AV)) (F : ByteArray → Option AV) : Prop := ∀ n, findS n es = some (F n)
theorem MapS.nil : MapS [] fun _ => none := fun n => by rw [findS]
theorem findS_app {n m : ByteArray} {x : AV} : ∀ {es : List (AV × AV)}, findS n es = some none → findS m (es ++ [(.str n, x)]) = if m = n then some (some x) else findS m es
 | [], _ => by
  rw [List.nil_append, findS, findS]
  by_cases hm : m = n
  ·rw [if_pos hm, if_pos hm]
  ·rw [if_neg hm, if_neg hm, findS]
 | (y, z) :: es, h => by
  cases y <;> simp only [findS] at h <;> try (cases h; done)
  rename_i n'
  simp only [List.cons_append, findS]
  split at h
  ·cases h
  ·rename_i hn
   rw [findS_app h]
   by_cases hm : m = n'
   ·rw [if_pos hm, if_pos hm, if_neg (fun e => hn (e.symm.trans hm))]
   ·rw [if_neg hm, if_neg hm]
theorem findS_upd {n m : ByteArray} {x : AV} : ∀ {es : List (AV × AV)} {y : AV}, findS n es = some (some y) → findS m (updS n x es) = if m = n then some (some x) else findS m es
 | [], _, h => by cases h
 | (z, v) :: es, y, h => by
  cases z <;> simp only [findS] at h <;> try (cases h; done)
  rename_i n'
  simp only [updS]
  split at h
  ·rename_i hn
   subst hn
   rw [if_pos rfl]
   simp only [findS]
   by_cases hm : m = n <;> simp [hm]
  ·rename_i hn
   rw [if_neg hn]
   simp only [findS]
   rw [findS_upd h]
   by_cases hm : m = n'
   ·rw [if_pos hm, if_pos hm, if_neg (fun e => hn (e.symm.trans hm))]
   ·rw [if_neg hm, if_neg hm]
theorem MapS.put {es : List (AV × AV)} {F : ByteArray → Option AV} (h : MapS es F) (n : ByteArray) (x : AV) : MapS (putT n x es (F n)) fun m => if m = n then some x else F m := by
 intro m
 have hn := h n
 cases hF : F n with
 | none =>
  rw [hF] at hn
  rw [putT, findS_app hn, h m]
  by_cases hm : m = n <;> simp [hm]
 | some y =>
  rw [hF] at hn
  rw [putT, findS_upd hn, h m]
  by_cases hm : m = n <;> simp [hm]
theorem EsClo.putT {es : List (AV × AV)} (h : EsClo es) (n : ByteArray) {x : AV} (hx : x.clo = true) (r : Option AV) : EsClo (putT n x es r) := by
 cases r with
 | none =>
  intro p hp
  rcases List.mem_append.1 hp with hp | hp
  ·exact h p hp
  ·rw [List.mem_singleton.1 hp]; exact ⟨rfl, hx⟩
 | some y =>
  show EsClo (updS n x es)
  clear y
  induction es with
  | nil => exact h
  | cons q es ih =>
   have h1 := h q (by simp)
   have h2 := ih fun p hp => h p (List.mem_cons_of_mem _ hp)
   obtain ⟨z, v⟩ := q
   intro p hp
   unfold updS at hp
   split at hp
   ·cases hp
   ·rename_i heq
    cases heq
    split at hp
    ·rcases List.mem_cons.1 hp with rfl | hp
     ·exact ⟨rfl, hx⟩
     ·exact h p (List.mem_cons_of_mem _ hp)
    ·rcases List.mem_cons.1 hp with rfl | hp
     ·exact h1
     ·exact h2 p hp
   ·rename_i heq
    cases heq
    rcases List.mem_cons.1 hp with rfl | hp
    ·exact h1
    ·exact h2 p hp
theorem EsClo.ids {es : List (AV × AV)} (h : EsClo es) (p : Nat → Prop) : ∀ q, q ∈ es → q.1.ids p ∧ q.2.ids p := fun q hq => ⟨clo_ids (h q hq).1, clo_ids (h q hq).2⟩
theorem EsClo.ids2 {es : List (AV × AV)} (h : EsClo es) (p : Nat → Prop) : ∀ a b, (a, b) ∈ es → a.ids p ∧ b.ids p := fun a b hq => h.ids p (a, b) hq
end Go.Am
namespace Go.Proofs.YtfiehjbijdmbaaaDoor
open Nat (reduceAdd reduceMul reduceEqDiff reduceLT reduceLeDiff reduceSub reduceDiv)
open Int (reduceBNe reduceLE reduceEq)
open Go.Am Go.Proofs Go.Ca
open Classical
attribute [local irreducible] AW CallP CallB
@[go_sem] theorem mp57 : mpTS Tryd.prog 57 = some 3 := by kernel_rfl
@[go_sem] theorem mz57 : mpZS Tryd.prog 57 = some (AV.int IntKind.i64 0) := by kernel_rfl
def plN (l : List Fl) (s : ByteArray) : Nat → Option Nat
 | 0 => none
 | n + 1 => if (l[n]?.map Fl.nm) = some s then some n else plN l s n
theorem lastN_pl (l : List Fl) (k : Int) : ∀ n, lastN l k n = plN l (nm k) n
 | 0 => rfl
 | n + 1 => by rw [lastN, plN, lastN_pl l k n]
theorem plN_some {l : List Fl} {s : ByteArray} : ∀ {n i : Nat} {f : Fl}, i < n → l[i]? = some f → f.nm = s → ∃ j, plN l s n = some j
 | 0, i, f, h, _, _ => by omega
 | n + 1, i, f, h, hf, hn => by
  rw [plN]
  by_cases hh : (l[n]?.map Fl.nm) = some s
  ·exact ⟨n, if_pos hh⟩
  ·rw [if_neg hh]
   rcases Nat.lt_or_ge i n with h' | h'
   ·exact plN_some h' hf hn
   ·obtain rfl : i = n := by omega
    rw [hf] at hh
    simp [hn] at hh
def sndU (l : List Fl) (n : Nat) : List Int := (List.range n).filterMap (soundB l)
theorem sndU_succ (l : List Fl) (n : Nat) : sndU l (n + 1) = sndU l n ++ (match soundB l n with | some k => [k] | none => []) := by
 rw [sndU, List.range_succ, List.filterMap_append, sndU]
 congr 1
 cases h : soundB l n <;> simp [h]
theorem sndU_len (l : List Fl) (n : Nat) : (sndU l n).length ≤ n := by
 have := List.length_filterMap_le (soundB l) (List.range n)
 simpa [sndU] using this
theorem i64_wrap (n : Int) : I64 (IntKind.i64.wrap n) := by
 constructor <;> simp only [IntKind.wrap, IntKind.bits, IntKind.signed] <;> (try split) <;> simp at * <;> omega
theorem sv_range (l : List UInt8) : I64 (sv l) := i64_wrap _
theorem open_range (b : List UInt8) : I64 (openR b).1 := by
 unfold openR
 repeat' split
 all_goals first | exact sv_range _ | (constructor <;> decide)
theorem sound_call (l : List Fl) (hB : FB l) : PCall Tryd.prog 15 [.sl (fl l)] (.sl (il (soundR l))) := by
 have hl := hB.len
 refine PCall.intro Tryd.func15 rfl isf15 (by simp [Tryd.f15]) (by simp [AV.cloL, AV.clo]) fun E Q hE hN hQ => K_start ?_
 repeat' (first | apply nx | refine Kq_exit_ne (by decide) ?_ | rw [wrap64 (by omega) (by omega)] | ((first | refine hK _ ?_ | refine hKp _ _ ?_); clear hK hKp K Kp; try clear hanc anc) | ((with_reducible refine And.intro ?_ ?_); (focus (first | trivial | omega | (simp only [Fits]; omega) | assumption | (rw [hanc]; rfl)))) | ((first | refine K_regA hE fun K Kp hK hKp => ?_ | refine K_drwA false mixed hE fun K Kp hK hKp anc hanc => ?_); simp only [go_sem]) | ((first | refine onG_split_t (fun hg => ?_) (fun hg => ?_) | refine onG_split_f (fun hg => ?_) (fun hg => ?_)) <;> simp only [go_sem, hg]) | (refine K_condA (fun hc => ?_) (fun hc => ?_) <;> try (exact absurd hc (by decide))) | (refine K_ret ?_; refine (hQ _ ⟨_, by (try simp only [go_sem, ↓reduceIte, Nat.reduceEqDiff]); rfl, by simp [go_sem], ?_, by first | rfl | assumption⟩).1))
 refine K_loop (X := Nat × List (AV × AV)) (fun z => z.1 ≤ l.length ∧ MapS z.2 (fun s => (plN l s z.1).map fun j : Nat => AV.i j) ∧ EsClo z.2) (fun z => mkSt [(0, .sl (fl l)), (3, .mp 0), (13, .sl (fl l)), (14, .i l.length), (15, .i z.1)] [(0, .map z.2)] 1) (fun z => l.length - z.1) (0, []) ⟨Nat.zero_le _, MapS.nil, EsClo.nil⟩ (fun i => 1048576) (by refine ent_mk (by simp [go_sem]) (by simp [go_sem]) (by simp) (by simp [hN])) ?_
 rintro ⟨i, es⟩ ⟨hi, hm, hes⟩
 simp only at hi hm hes
 by_cases hlt : i < l.length
 ·obtain ⟨f, hf⟩ := get?_of hlt
  have hmf := hm f.nm
  have hes' := EsClo.putT hes f.nm (x := .i i) rfl ((plN l f.nm i).map fun j : Nat => AV.i j)
  have hm' := MapS.put hm f.nm (.i i)
  have e : ∀ s, (plN l s (i + 1)).map (fun j : Nat => AV.i j) = if s = f.nm then some (AV.i i) else (plN l s i).map (fun j : Nat => AV.i j) := by
   intro s
   rw [plN, hf]
   by_cases hs : s = f.nm
   ·rw [if_pos hs, if_pos (by simp [hs])]; rfl
   ·rw [if_neg hs, if_neg (by simpa using fun h => hs h.symm)]
  rw [show (fun m => if m = f.nm then some (AV.i i) else (plN l m i).map (fun j : Nat => AV.i j)) = fun s => (plN l s (i + 1)).map (fun j : Nat => AV.i j) from funext fun s => (e s).symm] at hm'
  simp only at hmf
  generalize (plN l f.nm i).map (fun j : Nat => AV.i j) = r at hmf hes' hm'
  repeat' (first | apply nx | refine Kq_exit_ne (by decide) ?_ | rw [wrap64 (by omega) (by omega)] | ((first | refine hK _ ?_ | refine hKp _ _ ?_); clear hK hKp K Kp; try clear hanc anc) | ((with_reducible refine And.intro ?_ ?_); (focus (first | trivial | omega | (simp only [Fits]; omega) | assumption | (rw [hanc]; rfl)))) | ((first | refine K_regA hE fun K Kp hK hKp => ?_ | refine K_drwA false mixed hE fun K Kp hK hKp anc hanc => ?_); simp only [go_sem, lt_dec hlt, hf, Fl.av_eq, hmf]) | ((first | refine onG_split_t (fun hg => ?_) (fun hg => ?_) | refine onG_split_f (fun hg => ?_) (fun hg => ?_)) <;> simp only [go_sem, lt_dec hlt, hf, Fl.av_eq, hmf, hg]) | (refine K_condA (fun hc => ?_) (fun hc => ?_) <;> try (exact absurd hc (by decide))) | (refine K_ret ?_; refine (hQ _ ⟨_, by (try simp only [go_sem, ↓reduceIte, Nat.reduceEqDiff]); rfl, by simp [go_sem], ?_, by first | rfl | assumption⟩).1))
  generalize putT f.nm (AV.i i) es r = es' at *
  exact ⟨(i + 1, es'), ⟨by simp only; omega, hm', hes'⟩, by simp only; omega, fun i => i, ent_mk (by simp [go_sem]) (by simp [go_sem, hes'.ren]; exact hes'.ids2 _) (by simp) (by simp [hN])⟩
 ·obtain rfl : i = l.length := by omega
  repeat' (first | apply nx | refine Kq_exit_ne (by decide) ?_ | rw [wrap64 (by omega) (by omega)] | ((first | refine hK _ ?_ | refine hKp _ _ ?_); clear hK hKp K Kp; try clear hanc anc) | ((with_reducible refine And.intro ?_ ?_); (focus (first | trivial | omega | (simp only [Fits]; omega) | assumption | (rw [hanc]; rfl)))) | ((first | refine K_regA hE fun K Kp hK hKp => ?_ | refine K_drwA false mixed hE fun K Kp hK hKp anc hanc => ?_); simp only [go_sem, ge_dec]) | ((first | refine onG_split_t (fun hg => ?_) (fun hg => ?_) | refine onG_split_f (fun hg => ?_) (fun hg => ?_)) <;> simp only [go_sem, ge_dec, hg]) | (refine K_condA (fun hc => ?_) (fun hc => ?_) <;> try (exact absurd hc (by decide))) | (refine K_ret ?_; refine (hQ _ ⟨_, by (try simp only [go_sem, ↓reduceIte, Nat.reduceEqDiff]); rfl, by simp [go_sem], ?_, by first | rfl | assumption⟩).1))
  refine AW_nil 6 1 (by rw [hE]; decide) (by simp only [go_sem]) ?_
  refine K_loop (X := Nat) (fun i => i ≤ l.length) (fun i => mkSt [(3, .mp 0), (6, .rw 1), (25, .sl (fl l)), (26, .i l.length), (27, .i i)] [(0, .map es), (1, .row 1 (il (sndU l i)))] 2) (fun i => l.length - i) 0 (Nat.zero_le _) (fun i => if i = 1 then 5242881 else i) (ent_mk (by simp [go_sem]) (by simp [go_sem, sndU, hes.ren]; exact hes.ids2 _) (by simp) (by simp [hN])) ?_
  intro i hi
  by_cases hlt : i < l.length
  ·obtain ⟨f, hf⟩ := get?_of hlt
   have hg : l.getD i default = f := by rw [List.getD_eq_getElem?_getD, hf]; rfl
   have hc0 := open_call f.bs (hB.bs f (List.mem_of_getElem? hf))
   have hko := open_range f.bs
   have hc1 := name_call (openR f.bs).1 hko.1 hko.2
   obtain ⟨j, hj⟩ := plN_some hlt hf rfl
   have hmf := hm f.nm
   simp only [hj, Option.map_some] at hmf
   have hU := sndU_succ l i
   have hUl := sndU_len l i
   have hS : soundB l i = if (openR f.bs).2.2 = 0 ∧ f.nm = nm (openR f.bs).1 ∧ j = i then some (openR f.bs).1 else none := by
    unfold soundB
    simp only [hg]
    by_cases h1 : (openR f.bs).2.2 = 0 ∧ f.nm = nm (openR f.bs).1
    ·have : (lastN l (openR f.bs).1 l.length = some i) = (j = i) := by rw [lastN_pl, ← h1.2, hj]; simp
     simp only [this]
    ·rw [if_neg (fun h => h1 ⟨h.1, h.2.1⟩), if_neg (fun h => h1 ⟨h.1, h.2.1⟩)]
   have q := ba_eqB f.nm (nm (openR f.bs).1)
   have q3 : ((j : Int) == (i : Int)) = decide (j = i) := by rw [Bool.eq_iff_iff]; simp; omega
   by_cases h1 : (openR f.bs).2.2 = 0
   case neg =>
    rw [if_neg (fun h => h1 h.1)] at hS
    rw [hS, List.append_nil] at hU
    have q1 : ((openR f.bs).2.2 == 0) = false := by simpa using h1
    repeat' (first | apply nx | refine Kq_exit_ne (by decide) ?_ | rw [wrap64 (by omega) (by omega)] | ((first | refine hK _ ?_ | refine hKp _ _ ?_); clear hK hKp K Kp; try clear hanc anc) | ((with_reducible refine And.intro ?_ ?_); (focus (first | trivial | omega | (simp only [Fits]; omega) | assumption | (rw [hanc]; rfl)))) | ((first | refine K_regA hE fun K Kp hK hKp => ?_ | refine K_drwA false mixed hE fun K Kp hK hKp anc hanc => ?_ | ((first | apply CallP_mk | apply CallB_mk); (focus (simp only [go_sem] <;> rfl)); (focus (first | exact hc0 | exact hc1)); (focus (first | (simp [go_sem]; done) | (simp [go_sem, CloRow, AV.cells, AV.clo]; done))); (focus (first | exact .inl rfl | (right; simp [go_sem]))))); simp only [go_sem, lt_dec hlt, hf, Fl.av_eq, hmf, q1]) | ((first | refine onG_split_t (fun hg => ?_) (fun hg => ?_) | refine onG_split_f (fun hg => ?_) (fun hg => ?_)) <;> simp only [go_sem, lt_dec hlt, hf, Fl.av_eq, hmf, q1, hg]) | (refine K_condA (fun hc => ?_) (fun hc => ?_) <;> try (exact absurd hc (by decide))) | (refine K_ret ?_; refine (hQ _ ⟨_, by (try simp only [go_sem, ↓reduceIte, Nat.reduceEqDiff]); rfl, by simp [go_sem], ?_, by first | rfl | assumption⟩).1))
    exact ⟨i + 1, by omega, by omega, fun i => i, ent_mk (by simp [go_sem]) (by simp [go_sem, hU, hes.ren]; exact hes.ids2 _) (by simp) (by simp [hN])⟩
   have q1 : ((openR f.bs).2.2 == 0) = true := by simpa using h1
   by_cases h2 : f.nm = nm (openR f.bs).1
   case neg =>
    rw [if_neg (fun h => h2 h.2.1)] at hS
    rw [hS, List.append_nil] at hU
    rw [decide_eq_false h2] at q
    repeat' (first | apply nx | refine Kq_exit_ne (by decide) ?_ | rw [wrap64 (by omega) (by omega)] | ((first | refine hK _ ?_ | refine hKp _ _ ?_); clear hK hKp K Kp; try clear hanc anc) | ((with_reducible refine And.intro ?_ ?_); (focus (first | trivial | omega | (simp only [Fits]; omega) | assumption | (rw [hanc]; rfl)))) | ((first | refine K_regA hE fun K Kp hK hKp => ?_ | refine K_drwA false mixed hE fun K Kp hK hKp anc hanc => ?_ | ((first | apply CallP_mk | apply CallB_mk); (focus (simp only [go_sem] <;> rfl)); (focus (first | exact hc0 | exact hc1)); (focus (first | (simp [go_sem]; done) | (simp [go_sem, CloRow, AV.cells, AV.clo]; done))); (focus (first | exact .inl rfl | (right; simp [go_sem]))))); simp only [go_sem, lt_dec hlt, hf, Fl.av_eq, hmf, q1, q]) | ((first | refine onG_split_t (fun hg => ?_) (fun hg => ?_) | refine onG_split_f (fun hg => ?_) (fun hg => ?_)) <;> simp only [go_sem, lt_dec hlt, hf, Fl.av_eq, hmf, q1, q, hg]) | (refine K_condA (fun hc => ?_) (fun hc => ?_) <;> try (exact absurd hc (by decide))) | (refine K_ret ?_; refine (hQ _ ⟨_, by (try simp only [go_sem, ↓reduceIte, Nat.reduceEqDiff]); rfl, by simp [go_sem], ?_, by first | rfl | assumption⟩).1))
    exact ⟨i + 1, by omega, by omega, fun i => i, ent_mk (by simp [go_sem]) (by simp [go_sem, hU, hes.ren]; exact hes.ids2 _) (by simp) (by simp [hN])⟩
   rw [decide_eq_true h2] at q
   by_cases h3 : j = i
   case neg =>
    rw [if_neg (fun h => h3 h.2.2)] at hS
    rw [hS, List.append_nil] at hU
    rw [decide_eq_false h3] at q3
    repeat' (first | apply nx | refine Kq_exit_ne (by decide) ?_ | rw [wrap64 (by omega) (by omega)] | ((first | refine hK _ ?_ | refine hKp _ _ ?_); clear hK hKp K Kp; try clear hanc anc) | ((with_reducible refine And.intro ?_ ?_); (focus (first | trivial | omega | (simp only [Fits]; omega) | assumption | (rw [hanc]; rfl)))) | ((first | refine K_regA hE fun K Kp hK hKp => ?_ | refine K_drwA false mixed hE fun K Kp hK hKp anc hanc => ?_ | ((first | apply CallP_mk | apply CallB_mk); (focus (simp only [go_sem] <;> rfl)); (focus (first | exact hc0 | exact hc1)); (focus (first | (simp [go_sem]; done) | (simp [go_sem, CloRow, AV.cells, AV.clo]; done))); (focus (first | exact .inl rfl | (right; simp [go_sem]))))); simp only [go_sem, lt_dec hlt, hf, Fl.av_eq, hmf, q1, q, q3]) | ((first | refine onG_split_t (fun hg => ?_) (fun hg => ?_) | refine onG_split_f (fun hg => ?_) (fun hg => ?_)) <;> simp only [go_sem, lt_dec hlt, hf, Fl.av_eq, hmf, q1, q, q3, hg]) | (refine K_condA (fun hc => ?_) (fun hc => ?_) <;> try (exact absurd hc (by decide))) | (refine K_ret ?_; refine (hQ _ ⟨_, by (try simp only [go_sem, ↓reduceIte, Nat.reduceEqDiff]); rfl, by simp [go_sem], ?_, by first | rfl | assumption⟩).1))
    exact ⟨i + 1, by omega, by omega, fun i => i, ent_mk (by simp [go_sem]) (by simp [go_sem, hU, hes.ren]; exact hes.ids2 _) (by simp) (by simp [hN])⟩
   rw [if_pos ⟨h1, h2, h3⟩] at hS
   rw [hS] at hU
   simp only at hU
   rw [decide_eq_true h3] at q3
   repeat' (first | apply nx | refine Kq_exit_ne (by decide) ?_ | rw [wrap64 (by omega) (by omega)] | ((first | refine hK _ ?_ | refine hKp _ _ ?_); clear hK hKp K Kp; try clear hanc anc) | ((with_reducible refine And.intro ?_ ?_); (focus (first | trivial | omega | (simp only [Fits]; omega) | assumption | (rw [hanc]; rfl)))) | ((first | refine K_regA hE fun K Kp hK hKp => ?_ | refine K_drwA false mixed hE fun K Kp hK hKp anc hanc => ?_ | ((first | apply CallP_mk | apply CallB_mk); (focus (simp only [go_sem] <;> rfl)); (focus (first | exact hc0 | exact hc1)); (focus (first | (simp [go_sem]; done) | (simp [go_sem, CloRow, AV.cells, AV.clo]; done))); (focus (first | exact .inl rfl | (right; simp [go_sem]))))); simp only [go_sem, lt_dec hlt, hf, Fl.av_eq, hmf, q1, q, q3]) | ((first | refine onG_split_t (fun hg => ?_) (fun hg => ?_) | refine onG_split_f (fun hg => ?_) (fun hg => ?_)) <;> simp only [go_sem, lt_dec hlt, hf, Fl.av_eq, hmf, q1, q, q3, hg]) | (refine K_condA (fun hc => ?_) (fun hc => ?_) <;> try (exact absurd hc (by decide))) | (refine K_ret ?_; refine (hQ _ ⟨_, by (try simp only [go_sem, ↓reduceIte, Nat.reduceEqDiff]); rfl, by simp [go_sem], ?_, by first | rfl | assumption⟩).1))
   exact ⟨i + 1, by omega, by omega, fun i => if i = 1 then 38797314 else i, ent_mk (by simp [go_sem]) (by simp [go_sem, hU, hes.ren]; exact hes.ids2 _) (by simp) (by simp [hN])⟩
  ·obtain rfl : i = l.length := by omega
   repeat' (first | apply nx | refine Kq_exit_ne (by decide) ?_ | rw [wrap64 (by omega) (by omega)] | ((first | refine hK _ ?_ | refine hKp _ _ ?_); clear hK hKp K Kp; try clear hanc anc) | ((with_reducible refine And.intro ?_ ?_); (focus (first | trivial | omega | (simp only [Fits]; omega) | assumption | (rw [hanc]; rfl)))) | ((first | refine K_regA hE fun K Kp hK hKp => ?_ | refine K_drwA false mixed hE fun K Kp hK hKp anc hanc => ?_); simp only [go_sem, ge_dec]) | ((first | refine onG_split_t (fun hg => ?_) (fun hg => ?_) | refine onG_split_f (fun hg => ?_) (fun hg => ?_)) <;> simp only [go_sem, ge_dec, hg]) | (refine K_condA (fun hc => ?_) (fun hc => ?_) <;> try (exact absurd hc (by decide))) | (refine K_ret ?_; refine (hQ _ ⟨_, by (try simp only [go_sem, ↓reduceIte, Nat.reduceEqDiff]); rfl, by simp [go_sem], ?_, by first | rfl | assumption⟩).1))
   simp [AV.snap, soundR, sndU, updo]
end Go.Proofs.YtfiehjbijdmbaaaDoor

set_option linter.unusedSimpArgs false
set_option linter.unusedVariables false
set_option maxHeartbeats 4000000
set_option maxRecDepth 100000
namespace Go.Proofs.YtfiehjbijdmbaaaDoor
open Nat (reduceAdd reduceMul reduceEqDiff reduceLT reduceLeDiff reduceSub reduceDiv)
open Int (reduceBNe reduceLE reduceEq)
open Go.Am Go.Proofs Go.Ca
open Classical
attribute [local irreducible] AW CallP CallB
theorem i64_mod (n : Int) (h0 : 0 ≤ n) (h1 : n < 18446744073709551616) : (IntKind.i64.wrap n) % 18446744073709551616 = n := by
 simp only [IntKind.wrap, IntKind.bits, IntKind.signed]
 (try split) <;> simp at * <;> omega
theorem body_open (b : List UInt8) : (bodyR b (sv (b.take 8))).2 = (openR b).2.2 := by
 unfold bodyR openR
 have hr := vn_range (b.take 8)
 have e : sv (b.take 8) % 18446744073709551616 = vn (b.take 8) := i64_mod _ hr.1 hr.2
 rw [e]
 by_cases h16 : b.length < 16
 ·rw [if_pos (.inl h16), if_pos h16]
 rw [if_neg h16]
 by_cases h1 : vn ((b.take 12).drop 8) = ((b.length - 16 : Nat) : Int)
 ·have n1 : ¬ (vn ((b.take 12).drop 8) ≠ ((b.length - 16 : Nat) : Int)) := fun h => h h1
  rw [if_neg (by rintro (h | h | h); exact h16 h; exact h rfl; exact h h1), if_neg n1]
  by_cases h2 : vn (b.drop (b.length - 4)) = sumD (b.take (b.length - 4))
  ·have n2 : ¬ (vn (b.drop (b.length - 4)) ≠ sumD (b.take (b.length - 4))) := fun h => h h2
   rw [if_neg n2, if_neg n2]
  ·rw [if_pos h2, if_pos h2]
 ·rw [if_pos (.inr (.inr h1)), if_pos h1]
theorem open_key {b : List UInt8} (h : (openR b).2.2 = 0) : 16 ≤ b.length ∧ (openR b).1 = sv (b.take 8) := by
 unfold openR at h ⊢
 by_cases h16 : b.length < 16
 ·rw [if_pos h16] at h; exact absurd h (by decide)
 ·rw [if_neg h16]
  refine ⟨by omega, ?_⟩
  split
  ·rfl
  ·split <;> rfl
theorem soundB_eq {l : List Fl} {i : Nat} {f : Fl} (hf : l[i]? = some f) : soundB l i = if 8 ≤ f.bs.length ∧ (bodyR f.bs (sv (f.bs.take 8))).2 = 0 ∧ lastI l (sv (f.bs.take 8)) = i then some (sv (f.bs.take 8)) else none := by
 have hg : l.getD i default = f := by rw [List.getD_eq_getElem?_getD, hf]; rfl
 unfold soundB
 simp only [hg]
 rw [body_open]
 by_cases h : (openR f.bs).2.2 = 0
 ·obtain ⟨h1, h2⟩ := open_key h
  rw [h2]
  generalize sv (f.bs.take 8) = k
  have : (f.nm = nm k ∧ lastN l k l.length = some i) ↔ lastI l k = i := by
   unfold lastI
   constructor
   ·rintro ⟨_, h⟩; rw [h]
   ·intro h
    cases hi : lastN l k l.length with
    | none => rw [hi] at h; simp only at h; omega
    | some j =>
     rw [hi] at h
     obtain rfl : j = i := by simp only at h; omega
     refine ⟨?_, rfl⟩
     have := (lastN_lt hi).2.2
     rwa [hg] at this
  by_cases hh : lastI l k = i
  ·rw [if_pos ⟨h, this.2 hh⟩, if_pos ⟨by omega, h, hh⟩]
  ·rw [if_neg (fun x => hh (this.1 x.2)), if_neg (fun x => hh x.2.2)]
 ·rw [if_neg (fun x => h x.1), if_neg (fun x => h x.2.1)]
theorem rsound_call (l : List Fl) (hB : FB l) : PCall Tryd.prog 16 [.sl (fl l)] (.sl (il (soundR l))) := by
 have hl := hB.len
 refine PCall.intro Tryd.func16 rfl isf16 (by simp [Tryd.f16]) (by simp [AV.cloL, AV.clo]) fun E Q hE hN hQ => K_start ?_
 repeat' (first | apply nx | refine Kq_exit_ne (by decide) ?_ | rw [wrap64 (by omega) (by omega)] | ((first | refine hK _ ?_ | refine hKp _ _ ?_); clear hK hKp K Kp; try clear hanc anc) | ((with_reducible refine And.intro ?_ ?_); (focus (first | trivial | omega | (simp only [Fits]; omega) | assumption | (rw [hanc]; rfl)))) | ((first | refine K_regA hE fun K Kp hK hKp => ?_ | refine K_drwA false mixed hE fun K Kp hK hKp anc hanc => ?_); simp only [go_sem]) | ((first | refine onG_split_t (fun hg => ?_) (fun hg => ?_) | refine onG_split_f (fun hg => ?_) (fun hg => ?_)) <;> simp only [go_sem, hg]) | (refine K_condA (fun hc => ?_) (fun hc => ?_) <;> try (exact absurd hc (by decide))) | (refine K_ret ?_; refine (hQ _ ⟨_, by (try simp only [go_sem, ↓reduceIte, Nat.reduceEqDiff]); rfl, by simp [go_sem], ?_, by first | rfl | assumption⟩).1))
 refine AW_nil 3 1 (by rw [hE]; decide) (by simp only [go_sem]) ?_
 refine K_loop (X := Nat) (fun i => i ≤ l.length) (fun i => mkSt [(0, .sl (fl l)), (3, .rw 0), (4, .i i)] [(0, .row 1 (il (sndU l i)))] 1) (fun i => l.length - i) 0 (Nat.zero_le _) (fun i => 3145728) (by refine ent_mk (by simp [go_sem, sndU]) (by simp [go_sem, sndU]) (by simp) (by simp [hN])) ?_
 intro i hi
 by_cases hlt : i < l.length
 ·obtain ⟨f, hf⟩ := get?_of hlt
  have hU := sndU_succ l i
  have hUl := sndU_len l i
  have hS := soundB_eq hf
  have hkk := sv_range (f.bs.take 8)
  have uk : IntKind.i64.wrap (vn (f.bs.take 8)) = sv (f.bs.take 8) := rfl
  have hc0 := rvalue_call (f.bs.take 8) (by simp; omega)
  have hc1 := body_call f.bs (sv (f.bs.take 8)) (hB.bs f (List.mem_of_getElem? hf))
  have hc2 := entry_call l (sv (f.bs.take 8)) (by omega) hkk.1 hkk.2
  generalize sv (f.bs.take 8) = k at *
  by_cases h8 : 8 ≤ f.bs.length
  case neg =>
   rw [if_neg (fun h => h8 h.1)] at hS
   rw [hS, List.append_nil] at hU
   have q0 : decide ((f.bs.length : Int) < 8) = true := decide_eq_true (by omega)
   repeat' (first | apply nx | refine Kq_exit_ne (by decide) ?_ | rw [wrap64 (by omega) (by omega)] | ((first | refine hK _ ?_ | refine hKp _ _ ?_); clear hK hKp K Kp; try clear hanc anc) | ((with_reducible refine And.intro ?_ ?_); (focus (first | trivial | omega | (simp only [Fits]; omega) | assumption | (rw [hanc]; rfl)))) | ((first | refine K_regA hE fun K Kp hK hKp => ?_ | refine K_drwA false mixed hE fun K Kp hK hKp anc hanc => ?_); simp only [go_sem, lt_dec hlt, hf, Fl.av_eq, q0]) | ((first | refine onG_split_t (fun hg => ?_) (fun hg => ?_) | refine onG_split_f (fun hg => ?_) (fun hg => ?_)) <;> simp only [go_sem, lt_dec hlt, hf, Fl.av_eq, q0, hg]) | (refine K_condA (fun hc => ?_) (fun hc => ?_) <;> try (exact absurd hc (by decide))) | (refine K_ret ?_; refine (hQ _ ⟨_, by (try simp only [go_sem, ↓reduceIte, Nat.reduceEqDiff]); rfl, by simp [go_sem], ?_, by first | rfl | assumption⟩).1))
   exact ⟨i + 1, by omega, by omega, fun i => i, by refine ent_mk (by simp [go_sem, hU]) (by simp [go_sem, hU]) (by simp) (by simp [hN])⟩
  have q0 : decide ((f.bs.length : Int) < 8) = false := decide_eq_false (by omega)
  by_cases h1 : (bodyR f.bs k).2 = 0
  case neg =>
   rw [if_neg (fun h => h1 h.2.1)] at hS
   rw [hS, List.append_nil] at hU
   have q1 : ((bodyR f.bs k).2 == 0) = false := by simpa using h1
   repeat' (first | apply nx | refine Kq_exit_ne (by decide) ?_ | rw [wrap64 (by omega) (by omega)] | ((first | refine hK _ ?_ | refine hKp _ _ ?_); clear hK hKp K Kp; try clear hanc anc) | ((with_reducible refine And.intro ?_ ?_); (focus (first | trivial | omega | (simp only [Fits]; omega) | assumption | (rw [hanc]; rfl)))) | ((first | refine K_regA hE fun K Kp hK hKp => ?_ | refine K_drwA false mixed hE fun K Kp hK hKp anc hanc => ?_ | ((first | apply CallP_mk | apply CallB_mk); (focus (simp only [go_sem] <;> rfl)); (focus (first | exact hc0 | exact hc1 | exact hc2)); (focus (first | (simp [go_sem]; done) | (simp [go_sem, CloRow, AV.cells, AV.clo]; done))); (focus (first | exact .inl rfl | (right; simp [go_sem]))))); simp only [go_sem, lt_dec hlt, hf, Fl.av_eq, q0, q1, uk]) | ((first | refine onG_split_t (fun hg => ?_) (fun hg => ?_) | refine onG_split_f (fun hg => ?_) (fun hg => ?_)) <;> simp only [go_sem, lt_dec hlt, hf, Fl.av_eq, q0, q1, uk, hg]) | (refine K_condA (fun hc => ?_) (fun hc => ?_) <;> try (exact absurd hc (by decide))) | (refine K_ret ?_; refine (hQ _ ⟨_, by (try simp only [go_sem, ↓reduceIte, Nat.reduceEqDiff]); rfl, by simp [go_sem], ?_, by first | rfl | assumption⟩).1))
   exact ⟨i + 1, by omega, by omega, fun i => i, by refine ent_mk (by simp [go_sem, hU]) (by simp [go_sem, hU]) (by simp) (by simp [hN])⟩
  have q1 : ((bodyR f.bs k).2 == 0) = true := by simpa using h1
  by_cases h2 : lastI l k = i
  case neg =>
   rw [if_neg (fun h => h2 h.2.2)] at hS
   rw [hS, List.append_nil] at hU
   have q2 : (lastI l k == (i : Int)) = false := by simpa using h2
   repeat' (first | apply nx | refine Kq_exit_ne (by decide) ?_ | rw [wrap64 (by omega) (by omega)] | ((first | refine hK _ ?_ | refine hKp _ _ ?_); clear hK hKp K Kp; try clear hanc anc) | ((with_reducible refine And.intro ?_ ?_); (focus (first | trivial | omega | (simp only [Fits]; omega) | assumption | (rw [hanc]; rfl)))) | ((first | refine K_regA hE fun K Kp hK hKp => ?_ | refine K_drwA false mixed hE fun K Kp hK hKp anc hanc => ?_ | ((first | apply CallP_mk | apply CallB_mk); (focus (simp only [go_sem] <;> rfl)); (focus (first | exact hc0 | exact hc1 | exact hc2)); (focus (first | (simp [go_sem]; done) | (simp [go_sem, CloRow, AV.cells, AV.clo]; done))); (focus (first | exact .inl rfl | (right; simp [go_sem]))))); simp only [go_sem, lt_dec hlt, hf, Fl.av_eq, q0, q1, q2, uk]) | ((first | refine onG_split_t (fun hg => ?_) (fun hg => ?_) | refine onG_split_f (fun hg => ?_) (fun hg => ?_)) <;> simp only [go_sem, lt_dec hlt, hf, Fl.av_eq, q0, q1, q2, uk, hg]) | (refine K_condA (fun hc => ?_) (fun hc => ?_) <;> try (exact absurd hc (by decide))) | (refine K_ret ?_; refine (hQ _ ⟨_, by (try simp only [go_sem, ↓reduceIte, Nat.reduceEqDiff]); rfl, by simp [go_sem], ?_, by first | rfl | assumption⟩).1))
   exact ⟨i + 1, by omega, by omega, fun i => i, by refine ent_mk (by simp [go_sem, hU]) (by simp [go_sem, hU]) (by simp) (by simp [hN])⟩
  have q2 : (lastI l k == (i : Int)) = true := by simpa using h2
  rw [if_pos ⟨h8, h1, h2⟩] at hS
  rw [hS] at hU
  simp only at hU
  repeat' (first | apply nx | refine Kq_exit_ne (by decide) ?_ | rw [wrap64 (by omega) (by omega)] | ((first | refine hK _ ?_ | refine hKp _ _ ?_); clear hK hKp K Kp; try clear hanc anc) | ((with_reducible refine And.intro ?_ ?_); (focus (first | trivial | omega | (simp only [Fits]; omega) | assumption | (rw [hanc]; rfl)))) | ((first | refine K_regA hE fun K Kp hK hKp => ?_ | refine K_drwA false mixed hE fun K Kp hK hKp anc hanc => ?_ | ((first | apply CallP_mk | apply CallB_mk); (focus (simp only [go_sem] <;> rfl)); (focus (first | exact hc0 | exact hc1 | exact hc2)); (focus (first | (simp [go_sem]; done) | (simp [go_sem, CloRow, AV.cells, AV.clo]; done))); (focus (first | exact .inl rfl | (right; simp [go_sem]))))); simp only [go_sem, lt_dec hlt, hf, Fl.av_eq, q0, q1, q2, uk]) | ((first | refine onG_split_t (fun hg => ?_) (fun hg => ?_) | refine onG_split_f (fun hg => ?_) (fun hg => ?_)) <;> simp only [go_sem, lt_dec hlt, hf, Fl.av_eq, q0, q1, q2, uk, hg]) | (refine K_condA (fun hc => ?_) (fun hc => ?_) <;> try (exact absurd hc (by decide))) | (refine K_ret ?_; refine (hQ _ ⟨_, by (try simp only [go_sem, ↓reduceIte, Nat.reduceEqDiff]); rfl, by simp [go_sem], ?_, by first | rfl | assumption⟩).1))
  exact ⟨i + 1, by omega, by omega, fun i => if i = 0 then 46137345 else i, by refine ent_mk (by simp [go_sem, hU]) (by simp [go_sem, hU]) (by simp) (by simp [hN])⟩
 ·obtain rfl : i = l.length := by omega
  repeat' (first | apply nx | refine Kq_exit_ne (by decide) ?_ | rw [wrap64 (by omega) (by omega)] | ((first | refine hK _ ?_ | refine hKp _ _ ?_); clear hK hKp K Kp; try clear hanc anc) | ((with_reducible refine And.intro ?_ ?_); (focus (first | trivial | omega | (simp only [Fits]; omega) | assumption | (rw [hanc]; rfl)))) | ((first | refine K_regA hE fun K Kp hK hKp => ?_ | refine K_drwA false mixed hE fun K Kp hK hKp anc hanc => ?_); simp only [go_sem, ge_dec]) | ((first | refine onG_split_t (fun hg => ?_) (fun hg => ?_) | refine onG_split_f (fun hg => ?_) (fun hg => ?_)) <;> simp only [go_sem, ge_dec, hg]) | (refine K_condA (fun hc => ?_) (fun hc => ?_) <;> try (exact absurd hc (by decide))) | (refine K_ret ?_; refine (hQ _ ⟨_, by (try simp only [go_sem, ↓reduceIte, Nat.reduceEqDiff]); rfl, by simp [go_sem], ?_, by first | rfl | assumption⟩).1))
  simp [AV.snap, soundR, sndU, updo]
end Go.Proofs.YtfiehjbijdmbaaaDoor
