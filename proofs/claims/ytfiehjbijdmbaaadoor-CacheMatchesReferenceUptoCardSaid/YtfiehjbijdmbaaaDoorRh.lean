/- A part of the proof: an abstract machine for the walks, and what the walked functions compute. -/
import Derived.Test.YtfiehjbijdmbaaaDoorRg
set_option linter.unusedVariables false
set_option linter.unusedSimpArgs false
set_option linter.unusedSimpArgs false
set_option linter.unusedVariables false
namespace Go.Proofs.YtfiehjbijdmbaaaDoor
open Go.Am Go.Proofs Go.Ca
def dval (l : List UInt8) : Nat := l.foldl (fun n b => n * 10 + (b.toNat - 48)) 0
theorem dval_snoc (l : List UInt8) (b : UInt8) : dval (l ++ [b]) = dval l * 10 + (b.toNat - 48) := by simp [dval]
theorem dg_val (u : Nat) : (dg u).toNat = 48 + u % 10 := by
 rw [dg, UInt8.toNat_ofNat']
 exact Nat.mod_eq_of_lt (by omega)
theorem dval_dd : ∀ (N u : Nat), u < N → dval (Lib.decDigits u) = u
 | 0, _, h => by omega
 | N + 1, u, h => by
  by_cases h10 : u < 10
  ·rw [dd_one h10]
   have := dg_val u
   simp only [dval, List.foldl]
   omega
  ·rw [dd_step h10, dval_snoc, dval_dd N (u / 10) (by omega), dg_val]
   omega
theorem dd_head : ∀ (N u : Nat), u < N → ∃ b l, Lib.decDigits u = b :: l ∧ 48 ≤ b.toNat
 | 0, _, h => by omega
 | N + 1, u, h => by
  by_cases h10 : u < 10
  ·exact ⟨dg u, [], dd_one h10, by rw [dg_val]; omega⟩
  ·obtain ⟨b, l, e, hb⟩ := dd_head N (u / 10) (by omega)
   exact ⟨b, l ++ [dg u], by rw [dd_step h10, e]; rfl, hb⟩
theorem dd_inj {u v : Nat} (h : Lib.decDigits u = Lib.decDigits v) : u = v := by
 rw [← dval_dd (u + 1) u (by omega), h, dval_dd (v + 1) v (by omega)]
theorem itoa_inj {a b : Int} (h : Lib.itoa a = Lib.itoa b) : a = b := by
 unfold Lib.itoa at h
 obtain ⟨x, l, e, hx⟩ := dd_head (a.toNat + 1) a.toNat (by omega)
 obtain ⟨y, m, e', hy⟩ := dd_head (b.toNat + 1) b.toNat (by omega)
 split at h <;> split at h
 ·have := dd_inj (List.cons.inj h).2; omega
 ·rw [e'] at h
  have := (List.cons.inj h).1
  subst this
  exact absurd hy (by decide)
 ·rw [e] at h
  have := (List.cons.inj h).1
  subst this
  exact absurd hx (by decide)
 ·have := dd_inj h; omega
theorem nm_inj {a b : Int} (h : nm a = nm b) : a = b := itoa_inj (List.cons.inj (tx_inj h)).2
def lastF (l : List Fl) (s : ByteArray) : Option Fl := (l.filter fun f => decide (f.nm = s)).getLast?
def getF (k : Int) : Option Fl → List UInt8 × Int
 | none => ([], 20)
 | some f => if (openR f.bs).1 ≠ k then ([], 16) else ((openR f.bs).2.1, (openR f.bs).2.2)
theorem lastN_F (l : List Fl) (k : Int) : ∀ n, n ≤ l.length → lastF (l.take n) (nm k) = (lastN l k n).bind fun i => l[i]?
 | 0, _ => rfl
 | n + 1, h => by
  obtain ⟨f, hf⟩ := get?_of (show n < l.length by omega)
  have ih := lastN_F l k n (by omega)
  rw [lastF] at ih ⊢
  rw [take_get hf, List.filter_append, lastN, hf]
  by_cases hn : f.nm = nm k
  ·rw [if_pos (by simp [hn]), Option.bind_some, hf]
   simp [hn]
  ·rw [if_neg (by simpa using hn), ← ih]
   simp [hn]
theorem lastF_N (l : List Fl) (k : Int) : lastF l (nm k) = (lastN l k l.length).bind fun i => l[i]? := by
 have := lastN_F l k l.length (Nat.le_refl _)
 rwa [List.take_length] at this
theorem getR_F (l : List Fl) (k : Int) : getR l k = getF k (lastF l (nm k)) := by
 rw [lastF_N]
 unfold getR
 cases hi : lastN l k l.length with
 | none => rfl
 | some i =>
  obtain ⟨_, hlt, _⟩ := lastN_lt hi
  obtain ⟨f, hf⟩ := get?_of hlt
  have hg : l.getD i default = f := by rw [List.getD_eq_getElem?_getD, hf]; rfl
  simp only [hg, Option.bind_some, hf, getF]
theorem lastF_nm {l : List Fl} {s : ByteArray} {f : Fl} (h : lastF l s = some f) : f ∈ l ∧ f.nm = s := by
 have := List.mem_of_getLast? h
 rw [List.mem_filter] at this
 exact ⟨this.1, by simpa using this.2⟩
theorem lastF_app (a b : List Fl) (s : ByteArray) : lastF (a ++ b) s = (lastF b s).or (lastF a s) := by
 rw [lastF, List.filter_append, List.getLast?_append]; rfl
theorem lastF_one (f : Fl) (s : ByteArray) : lastF [f] s = if f.nm = s then some f else none := by
 by_cases h : f.nm = s <;> simp [lastF, h]
theorem lastF_others {l : List Fl} {k : Int} {s : ByteArray} (h : s ≠ nm k) : lastF (others l k) s = lastF l s := by
 rw [lastF, lastF, others, List.filter_filter]
 congr 1
 apply List.filter_congr
 intro f _
 by_cases hf : f.nm = s
 ·simp [hf, h]
 ·simp [hf]
theorem lastF_put (l : List Fl) (k : Int) (b : List UInt8) (s : ByteArray) : lastF (others l k ++ [fileOf k b]) s = if s = nm k then some (fileOf k b) else lastF l s := by
 rw [lastF_app, lastF_one]
 by_cases h : s = nm k
 ·rw [if_pos (show (fileOf k b).nm = s from h.symm), if_pos h]; rfl
 ·rw [if_neg (show ¬ (fileOf k b).nm = s from fun e => h e.symm), if_neg h, lastF_others h]; rfl
theorem file_len (k : Int) (b : List UInt8) : (fileOf k b).bs.length = 16 + b.length := by
 show (hdr k b ++ be (sumD (hdr k b)) 4).length = _
 rw [List.length_append, hdr_len, be_len]; omega
theorem i64_self {k : Int} (h : I64 k) : IntKind.i64.wrap k = k := wrap64 h.1 (by have := h.2; omega)
theorem i64_wrap_mod (n : Int) : IntKind.i64.wrap (n % 18446744073709551616) = IntKind.i64.wrap n := by
 simp only [IntKind.wrap, IntKind.bits, IntKind.signed]
 simp
theorem hdr_take8 (k : Int) (b r : List UInt8) : (hdr k b ++ r).take 8 = be (k % 18446744073709551616) 8 := by
 rw [hdr, List.append_assoc, List.append_assoc, List.take_left' (by simp)]
theorem hdr_len4 (k : Int) (b r : List UInt8) : ((hdr k b ++ r).take 12).drop 8 = be b.length 4 := by
 rw [hdr, List.append_assoc, List.take_left' (by simp), List.drop_left' (by simp)]
theorem hdr_all (k : Int) (b r : List UInt8) : (hdr k b ++ r).take (12 + b.length) = hdr k b := List.take_left' (hdr_len k b)
theorem hdr_end (k : Int) (b r : List UInt8) : (hdr k b ++ r).drop (12 + b.length) = r := List.drop_left' (hdr_len k b)
theorem hdr_body (k : Int) (b : List UInt8) : (hdr k b).drop 12 = b := by
 rw [hdr, List.drop_left' (by simp)]
theorem sv_be {k : Int} (h : I64 k) : sv (be (k % 18446744073709551616) 8) = k := by
 rw [sv, vn_be _ _ (by decide), show (256 : Int) ^ 8 = 18446744073709551616 by decide, Int.emod_emod, i64_wrap_mod, i64_self h]
theorem vn_be4 {n : Int} (h0 : 0 ≤ n) (h1 : n < 4294967296) : vn (be n 4) = n := by
 rw [vn_be _ _ (by decide), show (256 : Int) ^ 4 = 4294967296 by decide, Int.emod_eq_of_lt h0 h1]
theorem open_file {k : Int} (b : List UInt8) (hk : I64 k) (hb : b.length ≤ 2 ^ 30) : openR (fileOf k b).bs = (k, b, 0) := by
 have hs := sumD_range (hdr k b)
 have hl := file_len k b
 unfold openR
 rw [hl, if_neg (by omega)]
 show (if vn (((hdr k b ++ be (sumD (hdr k b)) 4).take 12).drop 8) ≠ _ then _ else _) = _
 rw [hdr_len4, vn_be4 (by omega) (by omega), if_neg (by simp), show (16 + b.length - 4) = 12 + b.length by omega]
 show (if vn ((hdr k b ++ be (sumD (hdr k b)) 4).drop (12 + b.length)) ≠ sumD ((hdr k b ++ be (sumD (hdr k b)) 4).take (12 + b.length)) then _ else _) = _
 rw [hdr_end, hdr_all, vn_be4 hs.1 (by omega), if_neg (by simp)]
 show (sv ((hdr k b ++ be (sumD (hdr k b)) 4).take 8), ((hdr k b ++ be (sumD (hdr k b)) 4).take (12 + b.length)).drop 12, (0 : Int)) = _
 rw [hdr_take8, hdr_all, hdr_body, sv_be hk]
theorem open_short {b : List UInt8} (h : b.length < 16) : openR b = (0, [], 16) := if_pos h
theorem open_fst {b : List UInt8} (h : 16 ≤ b.length) : (openR b).1 = sv (b.take 8) := by
 unfold openR
 rw [if_neg (by omega)]
 split
 ·rfl
 ·split <;> rfl
theorem sv_key {l : List UInt8} {k : Int} (hk : I64 k) : (vn l = k % 18446744073709551616) ↔ sv l = k := by
 have hr := vn_range l
 constructor
 ·intro h
  rw [sv, h, i64_wrap_mod, i64_self hk]
 ·intro h
  rw [← h, sv, i64_mod _ hr.1 hr.2]
theorem bodyR1 {b : List UInt8} {k : Int} (h : b.length < 16 ∨ vn (b.take 8) ≠ k % 18446744073709551616 ∨ vn ((b.take 12).drop 8) ≠ ((b.length - 16 : Nat) : Int)) : bodyR b k = ([], 16) := if_pos h
theorem bodyR2 {b : List UInt8} {k : Int} (h : ¬ (b.length < 16 ∨ vn (b.take 8) ≠ k % 18446744073709551616 ∨ vn ((b.take 12).drop 8) ≠ ((b.length - 16 : Nat) : Int))) (h2 : vn (b.drop (b.length - 4)) ≠ sumD (b.take (b.length - 4))) : bodyR b k = ([], 17) := by rw [bodyR, if_neg h, if_pos h2]
theorem bodyR3 {b : List UInt8} {k : Int} (h : ¬ (b.length < 16 ∨ vn (b.take 8) ≠ k % 18446744073709551616 ∨ vn ((b.take 12).drop 8) ≠ ((b.length - 16 : Nat) : Int))) (h2 : ¬ vn (b.drop (b.length - 4)) ≠ sumD (b.take (b.length - 4))) : bodyR b k = ((b.take (b.length - 4)).drop 12, 0) := by rw [bodyR, if_neg h, if_neg h2]
theorem openR1 {b : List UInt8} (h : ¬ b.length < 16) (h1 : vn ((b.take 12).drop 8) ≠ ((b.length - 16 : Nat) : Int)) : openR b = (sv (b.take 8), [], 16) := by rw [openR, if_neg h, if_pos h1]
theorem openR2 {b : List UInt8} (h : ¬ b.length < 16) (h1 : ¬ vn ((b.take 12).drop 8) ≠ ((b.length - 16 : Nat) : Int)) (h2 : vn (b.drop (b.length - 4)) ≠ sumD (b.take (b.length - 4))) : openR b = (sv (b.take 8), [], 17) := by rw [openR, if_neg h, if_neg h1, if_pos h2]
theorem openR3 {b : List UInt8} (h : ¬ b.length < 16) (h1 : ¬ vn ((b.take 12).drop 8) ≠ ((b.length - 16 : Nat) : Int)) (h2 : ¬ vn (b.drop (b.length - 4)) ≠ sumD (b.take (b.length - 4))) : openR b = (sv (b.take 8), (b.take (b.length - 4)).drop 12, 0) := by rw [openR, if_neg h, if_neg h1, if_neg h2]
theorem getF_body {k : Int} (hk : I64 k) (f : Fl) : getF k (some f) = bodyR f.bs k := by
 rw [getF]
 generalize f.bs = b
 by_cases h16 : b.length < 16
 ·rw [bodyR1 (Or.inl h16), open_short h16]
  split <;> rfl
 ·have hsk := sv_key (l := b.take 8) hk
  by_cases h0 : sv (b.take 8) = k
  ·by_cases h1 : vn ((b.take 12).drop 8) ≠ ((b.length - 16 : Nat) : Int)
   ·rw [bodyR1 (Or.inr (Or.inr h1)), openR1 h16 h1, if_neg (fun h => h h0)]
   ·have hh : ¬ (b.length < 16 ∨ vn (b.take 8) ≠ k % 18446744073709551616 ∨ vn ((b.take 12).drop 8) ≠ ((b.length - 16 : Nat) : Int)) := by
     rintro (h | h | h)
     ·exact h16 h
     ·exact h (hsk.2 h0)
     ·exact h1 h
    by_cases h2 : vn (b.drop (b.length - 4)) ≠ sumD (b.take (b.length - 4))
    ·rw [bodyR2 hh h2, openR2 h16 h1 h2, if_neg (fun h => h h0)]
    ·rw [bodyR3 hh h2, openR3 h16 h1 h2, if_neg (fun h => h h0)]
  ·rw [bodyR1 (Or.inr (Or.inl fun h => h0 (hsk.1 h))), open_fst (by omega), if_pos h0]
theorem getR_rget {k : Int} (hk : I64 k) (l : List Fl) : rgetR l k = getR l k := by
 rw [getR_F, lastF_N]
 unfold rgetR
 cases hi : lastN l k l.length with
 | none => rfl
 | some i =>
  obtain ⟨_, hlt, _⟩ := lastN_lt hi
  obtain ⟨f, hf⟩ := get?_of hlt
  have hg : l.getD i default = f := by rw [List.getD_eq_getElem?_getD, hf]; rfl
  simp only [hg, Option.bind_some, hf]
  exact (getF_body hk f).symm
end Go.Proofs.YtfiehjbijdmbaaaDoor

set_option linter.unusedSimpArgs false
set_option linter.unusedVariables false
set_option maxHeartbeats 4000000
set_option maxRecDepth 100000
namespace Go.Proofs.YtfiehjbijdmbaaaDoor
open Nat (reduceAdd reduceMul reduceEqDiff reduceLT reduceLeDiff reduceSub reduceDiv)
open Int (reduceBNe reduceLE reduceEq)
open Go.Am Go.Proofs Go.Ca
theorem itoa1 (n : Nat) (h : n < 10) : Lib.itoa n = [dg n] := by
 unfold Lib.itoa
 rw [if_neg (by omega), Int.toNat_natCast, dd_one h]
theorem nm5 : nm 5 = ⟨#[107, 53]⟩ := by
 rw [nm, nmL, show (5 : Int) = ((5 : Nat) : Int) from rfl, itoa1 5 (by decide)]; rfl
theorem nm6 : nm 6 = ⟨#[107, 54]⟩ := by
 rw [nm, nmL, show (6 : Int) = ((6 : Nat) : Int) from rfl, itoa1 6 (by decide)]; rfl
def bs5 : List UInt8 := [0, 0, 0, 0, 0, 0, 0, 5, 0, 0, 0, 1, 7, 41, 175, 2, 133]
def f5 : Fl := ⟨⟨#[107, 53]⟩, bs5⟩
theorem f5_eq : fileOf 5 [7] = f5 := by
 unfold fileOf f5
 rw [nm5, show hdr 5 [7] ++ be (sumD (hdr 5 [7])) 4 = bs5 by decide]
theorem put5 : putR [] 5 [7] = ([f5], 0) := by
 rw [putR, if_neg (by decide), f5_eq]; rfl
theorem open5 : openR bs5 = (5, [7], 0) := by
 have := open_file [7] (show I64 5 by constructor <;> decide) (by decide)
 rwa [f5_eq] at this
theorem get5 : getR [f5] 5 = ([7], 0) := by
 rw [getR_F, lastF_one, if_pos (by rw [nm5]; rfl), getF]
 show (if (openR bs5).1 ≠ 5 then _ else ((openR bs5).2.1, (openR bs5).2.2)) = _
 rw [open5]; rfl
theorem get6 : getR [f5] 6 = ([], 20) := by
 rw [getR_F, lastF_one, if_neg (by rw [nm6]; decide), getF]
theorem get6b : getR [⟨⟨#[107, 54]⟩, bs5⟩] 6 = ([], 16) := by
 rw [getR_F, lastF_one, if_pos (by rw [nm6]), getF]
 show (if (openR bs5).1 ≠ 6 then _ else ((openR bs5).2.1, (openR bs5).2.2)) = _
 rw [open5]; rfl
theorem sound5 : soundR [f5] = [5] := by
 have h : soundB [f5] 0 = some 5 := by
  have e : lastN [f5] 5 1 = some 0 := by
   show (if (some f5.nm) = some (nm 5) then some 0 else _) = _
   rw [if_pos (by rw [nm5]; rfl)]
  show (if (openR bs5).2.2 = 0 ∧ f5.nm = nm (openR bs5).1 ∧ lastN [f5] (openR bs5).1 1 = some 0 then some (openR bs5).1 else none) = _
  rw [open5, if_pos ⟨rfl, by rw [nm5]; rfl, e⟩]
 show (List.range 1).filterMap (soundB [f5]) = _
 rw [show List.range 1 = [0] from rfl, List.filterMap_cons_some h]; rfl
theorem sum5 : sumD (bs5.take 13) = 699335301 := by decide
theorem trim5 : trimR [f5] 0 = [] := rfl
open Classical in
theorem fb1 (f : Fl) (h : f.bs.length ≤ 2 ^ 30) (h2 : f.nm.size ≤ 2 ^ 30) : FB [f] := ⟨by simp, fun g hg => by rw [List.mem_singleton.1 hg]; exact h, fun g hg => by rw [List.mem_singleton.1 hg]; exact h2⟩
attribute [local irreducible] AW CallP CallB
theorem av5 : f5.av = .agg [.str ⟨#[107, 53]⟩, .sl (ub bs5)] := rfl
theorem len5 : bs5.length = 17 := rfl
theorem g13 : bs5[13]? = some 41 := rfl
theorem g14 : bs5[14]? = some 175 := rfl
theorem g15 : bs5[15]? = some 2 := rfl
theorem g16 : bs5[16]? = some 133 := rfl
theorem q1 : (((1 : Nat) : Int) != 1) = false := rfl
theorem q17 : (((17 : Nat) : Int) != 17) = false := rfl
theorem e1 : (((1 : Nat) : Int) == 1) = true := rfl
theorem e0 : (((0 : Nat) : Int) == 0) = true := rfl
theorem str13 : strOf [AV.int .u8 0, AV.int .u8 0, AV.int .u8 0, AV.int .u8 0, AV.int .u8 0, AV.int .u8 0, AV.int .u8 0, AV.int .u8 5, AV.int .u8 0, AV.int .u8 0, AV.int .u8 0, AV.int .u8 1, AV.int .u8 7] = tx (bs5.take 13) := str_ub [0, 0, 0, 0, 0, 0, 0, 5, 0, 0, 0, 1, 7]
theorem s7 : ((tx [7]).toList == (⟨#[7]⟩ : ByteArray).toList) = true := by rw [ba_eqB]; exact decide_eq_true rfl
theorem s0 : ((tx []).toList == (⟨#[]⟩ : ByteArray).toList) = true := by rw [ba_eqB]; exact decide_eq_true rfl
theorem eS : (IntKind.i64.wrap (IntKind.i64.wrap (IntKind.i64.wrap (IntKind.i64.wrap (IntKind.i64.wrap (UInt8.toNat 41 : Int) * 16777216) + IntKind.i64.wrap (IntKind.i64.wrap (UInt8.toNat 175 : Int) * 65536)) + IntKind.i64.wrap (IntKind.i64.wrap (UInt8.toNat 2 : Int) * 256)) + IntKind.i64.wrap (UInt8.toNat 133 : Int)) == 699335301) = true := by decide
theorem head_call : PCall Tryd.prog 9 [] (.bool true) := by
 have i5 : I64 5 := by constructor <;> decide
 have i6 : I64 6 := by constructor <;> decide
 have hc0 := put_call [] 5 [7] ⟨by simp, by simp, by simp⟩ i5 (by decide)
 have hc1 := get_call [f5] 5 (fb1 f5 (by decide) (by decide)) i5
 have hc2 := get_call [f5] 6 (fb1 f5 (by decide) (by decide)) i6
 have hc3 := get_call [⟨⟨#[107, 54]⟩, bs5⟩] 6 (fb1 _ (by decide) (by decide)) i6
 have hc4 := sound_call [f5] (fb1 f5 (by decide) (by decide))
 have hc5 := trim_call [f5] 0 (by decide)
 have hc6 := sum_call (bs5.take 13) (by decide)
 rw [put5] at hc0
 rw [get5] at hc1
 rw [get6] at hc2
 rw [get6b] at hc3
 rw [sound5] at hc4
 rw [trim5] at hc5
 rw [sum5] at hc6
 simp only at hc0 hc1 hc2 hc3
 refine PCall.intro Tryd.func9 rfl isf9 (by simp [Tryd.f9]) (by simp [AV.cloL, AV.clo]) fun E Q hE hN hQ => K_start ?_
 repeat' (first | apply nx | refine Kq_exit_ne (by decide) ?_ | rw [wrap64 (by omega) (by omega)] | ((first | refine hK _ ?_ | refine hKp _ _ ?_); clear hK hKp K Kp; try clear hanc anc) | ((with_reducible refine And.intro ?_ ?_); (focus (first | trivial | omega | (simp only [Fits]; omega) | assumption | (rw [hanc]; rfl)))) | ((first | refine K_regA hE fun K Kp hK hKp => ?_ | refine K_drwA false mixed hE fun K Kp hK hKp anc hanc => ?_ | ((first | apply CallP_mk | apply CallB_mk); (focus (simp only [go_sem] <;> rfl)); (focus (exact hc0)); (focus (first | (simp [go_sem]; done) | (simp [go_sem, CloRow, AV.cells, AV.clo]; done))); (focus (first | exact .inl rfl | (right; simp [go_sem]))))); simp only [go_sem]) | ((first | refine onG_split_t (fun hg => ?_) (fun hg => ?_) | refine onG_split_f (fun hg => ?_) (fun hg => ?_)) <;> simp only [go_sem, hg]) | (refine K_condA (fun hc => ?_) (fun hc => ?_) <;> try (exact absurd hc (by decide))) | (refine K_ret ?_; refine (hQ _ ⟨_, by (try simp only [go_sem, ↓reduceIte, Nat.reduceEqDiff]); rfl, by simp [go_sem], ?_, by first | rfl | assumption⟩).1))
 refine Hold.mk (CallB.dpure [1048576] 4 hc0 (by simp only [go_sem, List.mem_cons, List.not_mem_nil, or_false]; rfl) (by simp [go_sem]) (fun _ => rfl) (fun _ => ⟨trivial, trivial, trivial, trivial⟩) rfl ?_)
 simp only [go_sem]
 repeat' (first | apply nx | refine Kq_exit_ne (by decide) ?_ | rw [wrap64 (by omega) (by omega)] | ((first | refine hK _ ?_ | refine hKp _ _ ?_); clear hK hKp K Kp; try clear hanc anc) | ((with_reducible refine And.intro ?_ ?_); (focus (first | trivial | omega | (simp only [Fits]; omega) | assumption | (rw [hanc]; rfl)))) | ((first | refine K_regA hE fun K Kp hK hKp => ?_ | refine K_drwA false mixed hE fun K Kp hK hKp anc hanc => ?_ | ((first | apply CallP_mk | apply CallB_mk); (focus (simp only [go_sem] <;> rfl)); (focus (first | exact hc0 | exact hc1 | exact hc2 | exact hc3 | exact hc4 | exact hc5 | exact hc6)); (focus (first | (simp [go_sem]; done) | (simp [go_sem, CloRow, AV.cells, AV.clo]; done))); (focus (first | exact .inl rfl | (right; simp [go_sem]))))); simp only [go_sem, av5, len5, g13, g14, g15, g16, q1, q17, e1, e0, s7, eS, str13]) | ((first | refine onG_split_t (fun hg => ?_) (fun hg => ?_) | refine onG_split_f (fun hg => ?_) (fun hg => ?_)) <;> simp only [go_sem, av5, len5, g13, g14, g15, g16, q1, q17, e1, e0, s7, eS, str13, hg]) | (refine K_condA (fun hc => ?_) (fun hc => ?_) <;> try (exact absurd hc (by decide))) | (refine K_ret ?_; refine (hQ _ ⟨_, by (try simp only [go_sem, ↓reduceIte, Nat.reduceEqDiff]); rfl, by simp [go_sem], ?_, by first | rfl | assumption⟩).1))
 simp [AV.snap]
end Go.Proofs.YtfiehjbijdmbaaaDoor
