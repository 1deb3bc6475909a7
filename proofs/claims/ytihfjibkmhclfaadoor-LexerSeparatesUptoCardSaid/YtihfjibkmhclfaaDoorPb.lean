/- A part of the proof: an abstract machine for the walks, and what the walked functions compute. -/
import Derived.IntWalk
import Derived.Test.YtihfjibkmhclfaaDoorMr
import Derived.Test.YtihfjibkmhclfaaDoorPa
set_option linter.unusedVariables false
set_option linter.unusedSimpArgs false
set_option linter.unusedVariables false
set_option linter.unusedSimpArgs false
namespace Go.Lx
open Go Go.Am
def tx (l : List UInt8) : ByteArray := ⟨l.toArray⟩
@[go_sem] theorem tx_list (l : List UInt8) : (tx l).data.toList = l := by simp [tx]
theorem toList_data (b : ByteArray) : b.toList = b.data.toList := ByteArray.toList_eq b
theorem tx_inj {a b : List UInt8} (h : tx a = tx b) : a = b := by rw [← tx_list a, h, tx_list]
@[go_sem] theorem tx_eqB (a b : List UInt8) : ((tx a).toList == (tx b).toList) = decide (a = b) := by
 rw [toList_data, toList_data, tx_list, tx_list]; by_cases h : a = b <;> simp [h]
theorem ba_eqB (a b : ByteArray) : (a.toList == b.toList) = decide (a = b) := by
 rw [toList_data, toList_data]
 by_cases h : a = b
 ·simp [h]
 ·rw [decide_eq_false h]
  cases hh : (a.data.toList == b.data.toList)
  ·rfl
  ·exact absurd (by cases a; cases b; simpa using hh) h
theorem tx_app (a b : List UInt8) : tx a ++ tx b = tx (a ++ b) := by
 apply ByteArray.ext
 apply Array.toList_inj.1
 simp [tx, ByteArray.data_append]
@[go_sem] theorem tx_size (a : List UInt8) : (tx a).size = a.length := by simp [tx, ByteArray.size]
@[go_sem] theorem tx_ext (l : List UInt8) (a b : Nat) : (tx l).extract a b = tx ((l.take b).drop a) := by
 apply ByteArray.ext
 apply Array.toList_inj.1
 simp [tx, ByteArray.data_extract, List.drop_take]
theorem tx_of (s : ByteArray) : ∃ l, s = tx l := ⟨s.data.toList, by cases s; simp [tx]⟩
theorem u8_lt (b : UInt8) : (b.toNat : Int) < 256 := by have := b.toNat_lt; omega
theorem u8_eq (b : UInt8) (n : Nat) (h : n < 256) : ((b.toNat : Int) == (n : Int)) = decide (b = UInt8.ofNat n) := by
 have hb := b.toNat_lt
 by_cases h1 : b = UInt8.ofNat n
 ·subst h1
  rw [decide_eq_true rfl, UInt8.toNat_ofNat', Nat.mod_eq_of_lt h]
  simp
 ·rw [decide_eq_false h1]
  have : ¬ (b.toNat : Int) = (n : Int) := fun e => h1 (by
   apply UInt8.toNat_inj.1
   rw [UInt8.toNat_ofNat', Nat.mod_eq_of_lt h]
   omega)
  simpa using this
theorem u8_beq (b c : UInt8) (n : Int) (h : n = (c.toNat : Int)) : ((b.toNat : Int) == n) = (b == c) := by
 subst h
 by_cases h1 : b = c
 ·subst h1; simp
 ·have : ¬ (b.toNat : Int) = (c.toNat : Int) := fun e => h1 (UInt8.toNat_inj.1 (by omega))
  rw [beq_eq_false_iff_ne.2 this, beq_eq_false_iff_ne.2 h1]
theorem u8_bne (b c : UInt8) (n : Int) (h : n = (c.toNat : Int)) : ((b.toNat : Int) != n) = (b != c) := by
 rw [bne, bne, u8_beq b c n h]
def Tk.cs (t : Tk) : List AV := [.i t.kind, .str (tx t.text), .i t.num, .i t.off]
def Tk.av (t : Tk) : AV := .agg t.cs
theorem Tk.av_eq (t : Tk) : t.av = .agg [.i t.kind, .str (tx t.text), .i t.num, .i t.off] := rfl
theorem Tk.av_clo (t : Tk) : t.av.clo = true := rfl
@[go_sem] theorem Tk.av_ren (m : Nat → Nat) (t : Tk) : t.av.ren m = t.av := clo_ren t.av_clo
@[go_sem] theorem Tk.av_ids (p : Nat → Prop) (t : Tk) : t.av.ids p = True := eq_true (clo_ids t.av_clo)
def tkl (l : List Tk) : List AV := l.map Tk.av
@[go_sem] theorem tkl_len (l : List Tk) : (tkl l).length = l.length := List.length_map ..
@[go_sem] theorem tkl_get (l : List Tk) (i : Nat) : (tkl l)[i]? = (l[i]?).map Tk.av := List.getElem?_map ..
@[go_sem] theorem tkl_nil : tkl [] = [] := rfl
theorem tkl_app (l : List Tk) (x : Tk) : tkl l ++ [x.av] = tkl (l ++ [x]) := by simp [tkl]
@[go_sem] theorem tkl_app1 (l : List Tk) (k v : Int) (t : List UInt8) (o : Nat) : tkl l ++ [.agg [.int .i64 k, .str (tx t), .int .i64 v, .int .i64 o]] = tkl (l ++ [⟨k, t, v, o⟩]) := tkl_app l ⟨k, t, v, o⟩
theorem tkl_clo (l : List Tk) : AV.cloL (tkl l) = true := cloLeq _ fun x hx => by obtain ⟨p, _, rfl⟩ := List.mem_map.1 hx; rfl
@[go_sem] theorem tkl_ren (m : Nat → Nat) (l : List Tk) : AV.renL m (tkl l) = tkl l := cloL_renL (tkl_clo l)
@[go_sem] theorem tkl_ids (p : Nat → Prop) (l : List Tk) : AV.idsL p (tkl l) = True := eq_true (cloL_idsL (tkl_clo l))
@[go_sem] theorem szok_tkl (l : List Tk) : SzOk (tkl l) 4 = True := eq_true fun x hx => by obtain ⟨p, _, rfl⟩ := List.mem_map.1 hx; rfl
@[go_sem] theorem szok_nil (n : Nat) : SzOk [] n = True := eq_true fun x hx => by cases hx
theorem clo_tkl (l : List Tk) : CloRow (tkl l) := by
 intro x hx c hc
 obtain ⟨p, _, rfl⟩ := List.mem_map.1 hx
 simp only [Tk.av_eq, AV.cells, List.mem_cons, List.not_mem_nil, or_false] at hc
 rcases hc with rfl | rfl | rfl | rfl <;> rfl
@[go_sem] theorem clo_tklT (l : List Tk) : CloRow (tkl l) = True := eq_true (clo_tkl l)
def sl (l : List (List UInt8)) : List AV := l.map fun s => AV.str (tx s)
@[go_sem] theorem sl_len (l : List (List UInt8)) : (sl l).length = l.length := List.length_map ..
@[go_sem] theorem sl_get (l : List (List UInt8)) (i : Nat) : (sl l)[i]? = (l[i]?).map fun s => AV.str (tx s) := List.getElem?_map ..
theorem sl_clo (l : List (List UInt8)) : AV.cloL (sl l) = true := cloLeq _ fun x hx => by obtain ⟨p, _, rfl⟩ := List.mem_map.1 hx; rfl
@[go_sem] theorem sl_ren (m : Nat → Nat) (l : List (List UInt8)) : AV.renL m (sl l) = sl l := cloL_renL (sl_clo l)
@[go_sem] theorem sl_ids (p : Nat → Prop) (l : List (List UInt8)) : AV.idsL p (sl l) = True := eq_true (cloL_idsL (sl_clo l))
theorem clo_sl (l : List (List UInt8)) : CloRow (sl l) := by
 intro x hx c hc
 obtain ⟨p, _, rfl⟩ := List.mem_map.1 hx
 simp only [AV.cells, List.mem_cons, List.not_mem_nil, or_false] at hc
 subst hc
 rfl
@[go_sem] theorem clo_slT (l : List (List UInt8)) : CloRow (sl l) = True := eq_true (clo_sl l)
end Go.Lx
attribute [go_sem] Int.reduceToNat reduceCtorEq Nat.reduceAdd Nat.reduceMul Nat.reduceEqDiff Nat.reduceLT Nat.reduceLeDiff Nat.reduceSub Nat.reduceDiv Nat.reduceBEq Int.reduceBEq Int.reduceBNe Int.reduceLT Int.reduceLE Int.reduceEq
attribute [go_sem ↓] reduceIte

set_option linter.unusedSimpArgs false
set_option linter.unusedVariables false
namespace Go.Am
def MapS (es : List (AV × AV)) (F : ByteArray → Option AV) : Prop := ∀ n, findS n es = some (F n)
theorem MapS.nil : MapS [] fun _ => none := fun n => by rw [findS]
theorem findS_app {n m : ByteArray} {x : AV} : ∀ {es : List (AV × AV)}, findS n es = some none → findS m (es ++ [(.str n, x)]) = if m = n then some (some x) else findS m es
 | [], _ => by
  rw [List.nil_append, findS, findS]
  by_cases hm : m = n
  ·rw [if_pos hm, if_pos hm]
  ·rw [if_neg hm, if_neg hm, findS]
 | (y, z) :: es, h => by
  cases y <;> simp only [findS] at h <;> try (cases h; done)
  rename_i n'
  simp only [List.cons_append, findS]
  split at h
  ·cases h
  ·rename_i hn
   rw [findS_app h]
   by_cases hm : m = n'
   ·rw [if_pos hm, if_pos hm, if_neg (fun e => hn (e.symm.trans hm))]
   ·rw [if_neg hm, if_neg hm]
theorem findS_upd {n m : ByteArray} {x : AV} : ∀ {es : List (AV × AV)} {y : AV}, findS n es = some (some y) → findS m (updS n x es) = if m = n then some (some x) else findS m es
 | [], _, h => by cases h
 | (z, v) :: es, y, h => by
  cases z <;> simp only [findS] at h <;> try (cases h; done)
  rename_i n'
  simp only [updS]
  split at h
  ·rename_i hn
   subst hn
   rw [if_pos rfl]
   simp only [findS]
   by_cases hm : m = n <;> simp [hm]
  ·rename_i hn
   rw [if_neg hn]
   simp only [findS]
   rw [findS_upd h]
   by_cases hm : m = n'
   ·rw [if_pos hm, if_pos hm, if_neg (fun e => hn (e.symm.trans hm))]
   ·rw [if_neg hm, if_neg hm]
theorem MapS.put {es : List (AV × AV)} {F : ByteArray → Option AV} (h : MapS es F) (n : ByteArray) (x : AV) : MapS (putT n x es (F n)) fun m => if m = n then some x else F m := by
 intro m
 have hn := h n
 cases hF : F n with
 | none =>
  rw [hF] at hn
  rw [putT, findS_app hn, h m]
  by_cases hm : m = n <;> simp [hm]
 | some y =>
  rw [hF] at hn
  rw [putT, findS_upd hn, h m]
  by_cases hm : m = n <;> simp [hm]
theorem EsClo.putT {es : List (AV × AV)} (h : EsClo es) (n : ByteArray) {x : AV} (hx : x.clo = true) (r : Option AV) : EsClo (putT n x es r) := by
 cases r with
 | none =>
  intro p hp
  rcases List.mem_append.1 hp with hp | hp
  ·exact h p hp
  ·rw [List.mem_singleton.1 hp]; exact ⟨rfl, hx⟩
 | some y =>
  show EsClo (updS n x es)
  clear y
  induction es with
  | nil => exact h
  | cons q es ih =>
   have h1 := h q (by simp)
   have h2 := ih fun p hp => h p (List.mem_cons_of_mem _ hp)
   obtain ⟨z, v⟩ := q
   intro p hp
   unfold updS at hp
   split at hp
   ·cases hp
   ·rename_i heq
    cases heq
    split at hp
    ·rcases List.mem_cons.1 hp with rfl | hp
     ·exact ⟨rfl, hx⟩
     ·exact h p (List.mem_cons_of_mem _ hp)
    ·rcases List.mem_cons.1 hp with rfl | hp
     ·exact h1
     ·exact h2 p hp
   ·rename_i heq
    cases heq
    rcases List.mem_cons.1 hp with rfl | hp
    ·exact h1
    ·exact h2 p hp
def EsZ (es : List (AV × AV)) : Prop := ∀ p, p ∈ es → p.1.zf = true ∧ p.2.zf = true
theorem EsZ.nil : EsZ [] := fun _ h => (by cases h)
theorem EsZ.putT {es : List (AV × AV)} (h : EsZ es) (n : ByteArray) {x : AV} (hx : x.zf = true) (r : Option AV) : EsZ (putT n x es r) := by
 cases r with
 | none =>
  intro p hp
  rcases List.mem_append.1 hp with hp | hp
  ·exact h p hp
  ·rw [List.mem_singleton.1 hp]; exact ⟨rfl, hx⟩
 | some y =>
  show EsZ (updS n x es)
  clear y
  induction es with
  | nil => exact h
  | cons q es ih =>
   have h1 := h q (by simp)
   have h2 := ih fun p hp => h p (List.mem_cons_of_mem _ hp)
   obtain ⟨z, v⟩ := q
   intro p hp
   unfold updS at hp
   split at hp
   ·cases hp
   ·rename_i heq
    cases heq
    split at hp
    ·rcases List.mem_cons.1 hp with rfl | hp
     ·exact ⟨rfl, hx⟩
     ·exact h p (List.mem_cons_of_mem _ hp)
    ·rcases List.mem_cons.1 hp with rfl | hp
     ·exact h1
     ·exact h2 p hp
   ·rename_i heq
    cases heq
    rcases List.mem_cons.1 hp with rfl | hp
    ·exact h1
    ·exact h2 p hp
theorem EsClo.ids {es : List (AV × AV)} (h : EsClo es) (p : Nat → Prop) : ∀ q, q ∈ es → q.1.ids p ∧ q.2.ids p := fun q hq => ⟨clo_ids (h q hq).1, clo_ids (h q hq).2⟩
theorem EsClo.ids2 {es : List (AV × AV)} (h : EsClo es) (p : Nat → Prop) : ∀ a b, (a, b) ∈ es → a.ids p ∧ b.ids p := fun a b hq => h.ids p (a, b) hq
end Go.Am
