/- A part of the proof: an abstract machine for the walks, and what the walked functions compute. -/
import Derived.Test.YtfiehjbijdmbaaaDoorRj
import Derived.Test.YtfiehjbijdmbaaaDoorRi
set_option linter.unusedVariables false
set_option linter.unusedSimpArgs false
set_option linter.unusedSimpArgs false
set_option linter.unusedVariables false
namespace Go.Proofs.YtfiehjbijdmbaaaDoor
open Go.Am Go.Proofs Go.Ca
theorem lin1 {d t : Int} (e1 : d * 1000003 = 2147483647 * t) : ∃ w, d = 2147483647 * w := by
 refine ⟨t * 1523789695 - d * 709572, ?_⟩
 rw [Int.mul_sub, ← Int.mul_assoc, ← e1, Int.mul_assoc, Int.mul_left_comm]
 omega
theorem lin2 {d w : Int} (h : d = 2147483647 * w) (h1 : -2147483647 < d) (h2 : d < 2147483647) : d = 0 := by omega
theorem step0 {h h' c : Int} (e : (h * 1000003 + c) % 2147483647 = (h' * 1000003 + c) % 2147483647) : ∃ t, (h - h') * 1000003 = 2147483647 * t := by
 have e2 := Int.emod_eq_emod_iff_emod_sub_eq_zero.1 e
 obtain ⟨t, ht⟩ := Int.dvd_of_emod_eq_zero e2
 exact ⟨t, by rw [← ht, Int.sub_mul]; omega⟩
theorem step_inj {h h' : Int} {b : UInt8} (h0 : 0 ≤ h ∧ h < 2147483647) (h1 : 0 ≤ h' ∧ h' < 2147483647) (e : (h * 1000003 + (b.toNat : Int) + 1) % 2147483647 = (h' * 1000003 + (b.toNat : Int) + 1) % 2147483647) : h = h' := by
 rw [Int.add_assoc, Int.add_assoc] at e
 generalize (b.toNat : Int) + 1 = c at e
 obtain ⟨t, ht⟩ := step0 e
 obtain ⟨w, hw⟩ := lin1 ht
 have := lin2 hw (by clear e ht hw; omega) (by clear e ht hw; omega)
 clear e ht hw
 omega
theorem step_byte {h : Int} {b c : UInt8} (e : (h * 1000003 + (b.toNat : Int) + 1) % 2147483647 = (h * 1000003 + (c.toNat : Int) + 1) % 2147483647) : b = c := by
 have h1 := u8_lt b
 have h2 := u8_lt c
 apply UInt8.toNat_inj.1
 omega
def sumF (h : Int) (l : List UInt8) : Int := l.foldl (fun h b => (h * 1000003 + (b.toNat : Int) + 1) % 2147483647) h
theorem sumF_range {h : Int} (h0 : 0 ≤ h ∧ h < 2147483647) : ∀ l, 0 ≤ sumF h l ∧ sumF h l < 2147483647 := by
 intro l
 induction l generalizing h with
 | nil => exact h0
 | cons b l ih => exact ih ⟨Int.emod_nonneg _ (by decide), Int.emod_lt_of_pos _ (by decide)⟩
theorem sumF_inj : ∀ (l : List UInt8) {h h' : Int}, (0 ≤ h ∧ h < 2147483647) → (0 ≤ h' ∧ h' < 2147483647) → sumF h l = sumF h' l → h = h'
 | [], _, _, _, _, e => e
 | b :: l, h, h', h0, h1, e => step_inj h0 h1 (sumF_inj l ⟨Int.emod_nonneg _ (by decide), Int.emod_lt_of_pos _ (by decide)⟩ ⟨Int.emod_nonneg _ (by decide), Int.emod_lt_of_pos _ (by decide)⟩ e)
theorem sumF_set : ∀ (l : List UInt8) {h : Int} {i : Nat} {z x : UInt8}, (0 ≤ h ∧ h < 2147483647) → l[i]? = some x → sumF h (l.set i z) = sumF h l → z = x
 | [], _, _, _, _, _, hx, _ => by simp at hx
 | b :: l, h, 0, z, x, h0, hx, e => by
  simp at hx
  subst hx
  exact step_byte (sumF_inj l ⟨Int.emod_nonneg _ (by decide), Int.emod_lt_of_pos _ (by decide)⟩ ⟨Int.emod_nonneg _ (by decide), Int.emod_lt_of_pos _ (by decide)⟩ e)
 | b :: l, h, i + 1, z, x, h0, hx, e => sumF_set l ⟨Int.emod_nonneg _ (by decide), Int.emod_lt_of_pos _ (by decide)⟩ (by simpa using hx) e
theorem sum_set {l : List UInt8} {i : Nat} {z x : UInt8} (hx : l[i]? = some x) (e : sumD (l.set i z) = sumD l) : z = x := sumF_set l (by decide) hx e
theorem vn_snoc' {l : List UInt8} {b : UInt8} (h : l.length ≤ 7) : vn (l ++ [b]) = vn l * 256 + (b.toNat : Int) := by
 rw [vn_snoc]
 have h1 := vn_small l 7 h (by decide)
 have h2 := vn_range l
 have h3 := u8_lt b
 have h4 : (256 : Int) ^ 7 = 72057594037927936 := by decide
 exact Int.emod_eq_of_lt (by omega) (by omega)
theorem vn_inj : ∀ (n : Nat) {l m : List UInt8}, l.length = n → m.length = n → n ≤ 8 → vn l = vn m → l = m
 | 0, l, m, h1, h2, _, _ => by rw [List.length_eq_zero_iff.1 h1, List.length_eq_zero_iff.1 h2]
 | n + 1, l, m, h1, h2, h8, e => by
  rcases List.eq_nil_or_concat l with rfl | ⟨l, b, rfl⟩
  ·simp at h1
  rcases List.eq_nil_or_concat m with rfl | ⟨m, c, rfl⟩
  ·simp at h2
  simp only [List.concat_eq_append, List.length_append, List.length_singleton] at h1 h2 e ⊢
  rw [vn_snoc' (by omega), vn_snoc' (by omega)] at e
  have h3 := u8_lt b
  have h4 := u8_lt c
  have h5 := vn_range l
  have h6 := vn_range m
  have e1 : vn l = vn m := by omega
  have e2 : b = c := UInt8.toNat_inj.1 (by omega)
  rw [vn_inj n (by omega) (by omega) (by omega) e1, e2]
theorem set_ne {l : List UInt8} {i : Nat} {z x : UInt8} (hx : l[i]? = some x) (e : l.set i z = l) : z = x := by
 have hi := (List.getElem?_eq_some_iff.1 hx).1
 have : (l.set i z)[i]? = some z := by simp [hi]
 rw [e, hx] at this
 exact (Option.some.inj this).symm
theorem body_bad {c : List UInt8} {k : Int} (h : ¬ (16 ≤ c.length ∧ vn (c.take 8) = k % 18446744073709551616 ∧ vn ((c.take 12).drop 8) = ((c.length - 16 : Nat) : Int) ∧ vn (c.drop (c.length - 4)) = sumD (c.take (c.length - 4)))) :
    (bodyR c k).1 = [] ∧ ((bodyR c k).2 = 16 ∨ (bodyR c k).2 = 17) := by
  by_cases h1 : c.length < 16 ∨ vn (c.take 8) ≠ k % 18446744073709551616 ∨ vn ((c.take 12).drop 8) ≠ ((c.length - 16 : Nat) : Int)
  · rw [bodyR1 h1]; exact ⟨rfl, .inl rfl⟩
  · by_cases h2 : vn (c.drop (c.length - 4)) ≠ sumD (c.take (c.length - 4))
    · rw [bodyR2 h1 h2]; exact ⟨rfl, .inr rfl⟩
    · exfalso
      apply h
      refine ⟨?_, ?_, ?_, Classical.not_not.1 h2⟩
      · exact Nat.not_lt.1 fun h => h1 (.inl h)
      · exact Classical.not_not.1 fun h => h1 (.inr (.inl h))
      · exact Classical.not_not.1 fun h => h1 (.inr (.inr h))
theorem file_bs (k : Int) (b : List UInt8) : (fileOf k b).bs = hdr k b ++ be (sumD (hdr k b)) 4 := rfl
theorem file_12 (k : Int) (b : List UInt8) (hb : b.length ≤ 2 ^ 30) : vn (((fileOf k b).bs.take 12).drop 8) = b.length := by
 rw [file_bs, hdr_len4, vn_be4 (by omega) (by omega)]
theorem bad_len {k : Int} {b c : List UInt8} (hb : b.length ≤ 2 ^ 30) (h : 16 ≤ c.length → c.take 12 = (fileOf k b).bs.take 12) (hne : c.length ≠ 16 + b.length) : (bodyR c k).1 = [] ∧ ((bodyR c k).2 = 16 ∨ (bodyR c k).2 = 17) := by
 apply body_bad
 rintro ⟨h1, _, h3, _⟩
 rw [h h1, file_12 k b hb] at h3
 omega
theorem bad_byte {k : Int} {b : List UInt8} (hb : b.length ≤ 2 ^ 30) {i : Nat} {z x : UInt8} (hx : (fileOf k b).bs[i]? = some x) (hz : z ≠ x) :
    (bodyR ((fileOf k b).bs.set i z) k).1 = [] ∧ ((bodyR ((fileOf k b).bs.set i z) k).2 = 16 ∨ (bodyR ((fileOf k b).bs.set i z) k).2 = 17) := by
  apply body_bad
  have hl := file_len k b
  have hil := (List.getElem?_eq_some_iff.1 hx).1
  rw [List.length_set, hl, show 16 + b.length - 4 = 12 + b.length by omega]
  rintro ⟨_, h1, h2, h3⟩
  rw [file_bs] at hx h1 h2 h3
  have hs := sumD_range (hdr k b)
  by_cases c1 : i < 8
  · rw [List.take_set, hdr_take8] at h1
    have hx8 : (be (k % 18446744073709551616) 8)[i]? = some x := by rw [← hdr_take8 k b (be (sumD (hdr k b)) 4), List.getElem?_take, if_pos c1]; exact hx
    have e : vn (be (k % 18446744073709551616) 8) = k % 18446744073709551616 := by
      rw [vn_be _ _ (by decide), show (256 : Int) ^ 8 = 18446744073709551616 by decide, Int.emod_emod]
    exact hz (set_ne hx8 (vn_inj 8 (by simp) (by simp) (by decide) (h1.trans e.symm)))
  by_cases c2 : i < 12
  · rw [List.take_set, List.drop_set, if_neg (by omega), hdr_len4] at h2
    have hx12 : (be b.length 4)[i - 8]? = some x := by rw [← hdr_len4 k b (be (sumD (hdr k b)) 4), List.getElem?_drop, List.getElem?_take, if_pos (by omega), show 8 + (i - 8) = i by omega]; exact hx
    have e : vn (be b.length 4) = b.length := vn_be4 (by omega) (by omega)
    exact hz (set_ne hx12 (vn_inj 4 (by simp) (by simp) (by decide) (by rw [h2, e]; congr 1; omega)))
  by_cases c3 : i < 12 + b.length
  · rw [List.drop_set_of_lt c3, hdr_end, List.take_set, hdr_all, vn_be4 hs.1 (by omega)] at h3
    have hxh : (hdr k b)[i]? = some x := by rw [List.getElem?_append_left (by rw [hdr_len]; exact c3)] at hx; exact hx
    exact hz (sum_set hxh h3.symm)
  · rw [List.take_set_of_le (by omega), hdr_all, List.drop_set, if_neg (by omega), hdr_end] at h3
    have hxe : (be (sumD (hdr k b)) 4)[i - (12 + b.length)]? = some x := by rw [List.getElem?_append_right (by rw [hdr_len]; omega), hdr_len] at hx; exact hx
    have e : vn (be (sumD (hdr k b)) 4) = sumD (hdr k b) := vn_be4 hs.1 (by omega)
    exact hz (set_ne hxe (vn_inj 4 (by simp) (by simp) (by decide) (h3.trans e.symm)))
def nb (x y : UInt8) : UInt8 := u8 (((u8 ((x.toNat : Int) + 1)).toNat : Int) + (y.toNat : Int) % 255)
theorem nb_ne (x y : UInt8) : nb x y ≠ x := by
 intro h
 have h1 := u8_val (((u8 ((x.toNat : Int) + 1)).toNat : Int) + (y.toNat : Int) % 255)
 have h2 := u8_val ((x.toNat : Int) + 1)
 have h3 := u8_lt x
 have h4 : ((nb x y).toNat : Int) = (((u8 ((x.toNat : Int) + 1)).toNat : Int) + (y.toNat : Int) % 255) % 256 := h1
 rw [h] at h4
 omega
def chg (b : List UInt8) (a y h : UInt8) : List UInt8 :=
 if h.toNat % 3 = 0 then b.set (a.toNat * 997 % b.length) (nb (b.getD (a.toNat * 997 % b.length) 0) y)
 else if h.toNat % 3 = 1 then b.take (a.toNat * 997 % b.length)
 else b ++ List.replicate (a.toNat + 1) y
theorem chg_bad {k : Int} {b : List UInt8} (hb : b.length ≤ 2 ^ 30) (a y h : UInt8) : (bodyR (chg (fileOf k b).bs a y h) k).1 = [] ∧ ((bodyR (chg (fileOf k b).bs a y h) k).2 = 16 ∨ (bodyR (chg (fileOf k b).bs a y h) k).2 = 17) := by
 have hl := file_len k b
 have hm : a.toNat * 997 % (fileOf k b).bs.length < (fileOf k b).bs.length := Nat.mod_lt _ (by omega)
 unfold chg
 split
 ·obtain ⟨x, hx⟩ := get?_of hm
  exact bad_byte hb hx (by rw [List.getD_eq_getElem?_getD, hx]; exact nb_ne _ _)
 ·split
  ·refine bad_len hb (fun h16 => ?_) (by rw [List.length_take]; omega)
   rw [List.length_take] at h16
   rw [List.take_take, Nat.min_eq_left (by omega)]
  ·refine bad_len hb (fun h16 => ?_) (by rw [List.length_append, List.length_replicate]; omega)
   rw [List.take_append_of_le_length (by omega)]
theorem chg_len (b : List UInt8) (a y h : UInt8) : (chg b a y h).length ≤ b.length + 256 := by
 have := a.toNat_lt
 unfold chg
 split
 ·rw [List.length_set]; omega
 ·split
  ·rw [List.length_take]; omega
  ·rw [List.length_append, List.length_replicate]; omega
theorem get_last (O : List Fl) (f : Fl) {k : Int} (hk : I64 k) (hn : f.nm = nm k) : getR (O ++ [f]) k = bodyR f.bs k := by
 rw [getR_F, lastF_app, lastF_one, if_pos hn]
 exact getF_body hk f
theorem get_alien (O : List Fl) {k k' : Int} {b : List UInt8} (hk : I64 k) (hb : b.length ≤ 2 ^ 30) (h : k' ≠ k) : getR (O ++ [⟨nm k', (fileOf k b).bs⟩]) k' = ([], 16) := by
 rw [getR_F, lastF_app, lastF_one, if_pos rfl]
 show getF k' (some ⟨nm k', (fileOf k b).bs⟩) = _
 rw [getF]
 show (if (openR (fileOf k b).bs).1 ≠ k' then _ else _) = _
 rw [open_file b hk hb, if_pos (fun e => h e.symm)]
end Go.Proofs.YtfiehjbijdmbaaaDoor

set_option linter.unusedSimpArgs false
set_option linter.unusedVariables false
set_option maxHeartbeats 4000000
set_option maxRecDepth 100000
namespace Go.Proofs.YtfiehjbijdmbaaaDoor
open Nat (reduceAdd reduceMul reduceEqDiff reduceLT reduceLeDiff reduceSub reduceDiv)
open Int (reduceBNe reduceLE reduceEq)
open Go.Am Go.Proofs Go.Ca
open Classical
attribute [local irreducible] AW CallP CallB
theorem changed_call (b : List UInt8) (a y h : UInt8) (h0 : 0 < b.length) (hb : b.length ≤ 2 ^ 30) : PCall Tryd.prog 22 [.sl (ub b), .int .u8 (a.toNat : Int), .int .u8 (y.toNat : Int), .int .u8 (h.toNat : Int)] (.sl (ub (chg b a y h))) := by
 have ha := u8_lt a
 have hy := u8_lt y
 have hh := u8_lt h
 have u1 : IntKind.i64.wrap (a.toNat : Int) = (a.toNat : Int) := wrap64 (by omega) (by omega)
 have u2 : IntKind.i64.wrap ((a.toNat : Int) * 997) = ((a.toNat * 997 : Nat) : Int) := by rw [wrap64 (by omega) (by omega)]; omega
 have u3 : (((a.toNat * 997 : Nat) : Int)).tmod (b.length : Int) = ((a.toNat * 997 % b.length : Nat) : Int) := by rw [Int.tmod_eq_emod_of_nonneg (by omega)]; rfl
 have u4 : ((h.toNat : Int)).tmod 3 = ((h.toNat % 3 : Nat) : Int) := by rw [Int.tmod_eq_emod_of_nonneg (by omega)]; rfl
 have u5 : ((y.toNat : Int)).tmod 255 = (y.toNat : Int) % 255 := Int.tmod_eq_emod_of_nonneg (by omega)
 have hp : a.toNat * 997 % b.length < b.length := Nat.mod_lt _ h0
 unfold chg
 generalize a.toNat * 997 % b.length = p at *
 by_cases c0 : h.toNat % 3 = 0
 ·rw [if_pos c0]
  have q0 : (((h.toNat % 3 : Nat) : Int) == 0) = true := by simpa using (by omega : ((h.toNat % 3 : Nat) : Int) = 0)
  obtain ⟨x, hx⟩ := get?_of hp
  have hg : b.getD p 0 = x := by rw [List.getD_eq_getElem?_getD, hx]; rfl
  have hpb : (p : Int).toNat < b.length := by omega
  rw [hg]
  refine PCall.intro Tryd.func22 rfl isf22 (by simp [Tryd.f22]) (by simp [AV.cloL, AV.clo]) fun E Q hE hN hQ => K_start ?_
  repeat' (first | apply nx | refine Kq_exit_ne (by decide) ?_ | rw [wrap64 (by omega) (by omega)] | ((first | refine hK _ ?_ | refine hKp _ _ ?_); clear hK hKp K Kp; try clear hanc anc) | ((with_reducible refine And.intro ?_ ?_); (focus (first | trivial | omega | (simp only [Fits]; omega) | assumption | (rw [hanc]; rfl)))) | ((first | refine K_regA hE fun K Kp hK hKp => ?_ | refine K_drwA false mixed hE fun K Kp hK hKp anc hanc => ?_); simp only [go_sem, u1, u2, u3, u4, u5, q0, hx]) | ((first | refine onG_split_t (fun hg => ?_) (fun hg => ?_) | refine onG_split_f (fun hg => ?_) (fun hg => ?_)) <;> simp only [go_sem, u1, u2, u3, u4, u5, q0, hx, hg]) | (refine K_condA (fun hc => ?_) (fun hc => ?_) <;> try (exact absurd hc (by decide))) | (refine K_ret ?_; refine (hQ _ ⟨_, by (try simp only [go_sem, ↓reduceIte, Nat.reduceEqDiff]); rfl, by simp [go_sem], ?_, by first | rfl | assumption⟩).1))
  simp [AV.snap, updo, nb]
 rw [if_neg c0]
 have q0 : (((h.toNat % 3 : Nat) : Int) == 0) = false := by
  have : ¬ ((h.toNat % 3 : Nat) : Int) = 0 := by omega
  simpa using this
 by_cases c1 : h.toNat % 3 = 1
 ·rw [if_pos c1]
  have q1 : (((h.toNat % 3 : Nat) : Int) == 1) = true := by simpa using (by omega : ((h.toNat % 3 : Nat) : Int) = 1)
  refine PCall.intro Tryd.func22 rfl isf22 (by simp [Tryd.f22]) (by simp [AV.cloL, AV.clo]) fun E Q hE hN hQ => K_start ?_
  repeat' (first | apply nx | refine Kq_exit_ne (by decide) ?_ | rw [wrap64 (by omega) (by omega)] | ((first | refine hK _ ?_ | refine hKp _ _ ?_); clear hK hKp K Kp; try clear hanc anc) | ((with_reducible refine And.intro ?_ ?_); (focus (first | trivial | omega | (simp only [Fits]; omega) | assumption | (rw [hanc]; rfl)))) | ((first | refine K_regA hE fun K Kp hK hKp => ?_ | refine K_drwA false mixed hE fun K Kp hK hKp anc hanc => ?_); simp only [go_sem, u1, u2, u3, u4, u5, q0, q1]) | ((first | refine onG_split_t (fun hg => ?_) (fun hg => ?_) | refine onG_split_f (fun hg => ?_) (fun hg => ?_)) <;> simp only [go_sem, u1, u2, u3, u4, u5, q0, q1, hg]) | (refine K_condA (fun hc => ?_) (fun hc => ?_) <;> try (exact absurd hc (by decide))) | (refine K_ret ?_; refine (hQ _ ⟨_, by (try simp only [go_sem, ↓reduceIte, Nat.reduceEqDiff]); rfl, by simp [go_sem], ?_, by first | rfl | assumption⟩).1))
  simp [AV.snap, updo]
 rw [if_neg c1]
 have q1 : (((h.toNat % 3 : Nat) : Int) == 1) = false := by
  have : ¬ ((h.toNat % 3 : Nat) : Int) = 1 := by omega
  simpa using this
 refine PCall.intro Tryd.func22 rfl isf22 (by simp [Tryd.f22]) (by simp [AV.cloL, AV.clo]) fun E Q hE hN hQ => K_start ?_
 repeat' (first | apply nx | refine Kq_exit_ne (by decide) ?_ | rw [wrap64 (by omega) (by omega)] | ((first | refine hK _ ?_ | refine hKp _ _ ?_); clear hK hKp K Kp; try clear hanc anc) | ((with_reducible refine And.intro ?_ ?_); (focus (first | trivial | omega | (simp only [Fits]; omega) | assumption | (rw [hanc]; rfl)))) | ((first | refine K_regA hE fun K Kp hK hKp => ?_ | refine K_drwA false mixed hE fun K Kp hK hKp anc hanc => ?_); simp only [go_sem, u1, u2, u3, u4, u5, q0, q1]) | ((first | refine onG_split_t (fun hg => ?_) (fun hg => ?_) | refine onG_split_f (fun hg => ?_) (fun hg => ?_)) <;> simp only [go_sem, u1, u2, u3, u4, u5, q0, q1, hg]) | (refine K_condA (fun hc => ?_) (fun hc => ?_) <;> try (exact absurd hc (by decide))) | (refine K_ret ?_; refine (hQ _ ⟨_, by (try simp only [go_sem, ↓reduceIte, Nat.reduceEqDiff]); rfl, by simp [go_sem], ?_, by first | rfl | assumption⟩).1))
 refine K_loop (X := Nat) (fun i => i ≤ a.toNat + 1) (fun i => mkSt [(1, .int .u8 (a.toNat : Int)), (2, .int .u8 (y.toNat : Int)), (9, .rw 0), (11, .i i)] [(0, .row 1 (ub (b ++ List.replicate i y)))] 1) (fun i => a.toNat + 1 - i) 0 (Nat.zero_le _) (fun i => 3145728) (by refine ent_mk (by simp [go_sem, List.append_nil]) (by simp [go_sem, List.append_nil]) (by simp) (by simp [hN])) ?_
 intro i hi
 by_cases hlt : i < a.toNat + 1
 ·have q2 : decide ((i : Int) ≤ (a.toNat : Int)) = true := decide_eq_true (by omega)
  have e : b ++ List.replicate (i + 1) y = b ++ List.replicate i y ++ [y] := by rw [List.replicate_succ', List.append_assoc]
  have hfi : Fits ((b ++ List.replicate i y).length + 1) 1 := by simp only [Fits, List.length_append, List.length_replicate]; omega
  repeat' (first | apply nx | refine Kq_exit_ne (by decide) ?_ | rw [wrap64 (by omega) (by omega)] | ((first | refine hK _ ?_ | refine hKp _ _ ?_); clear hK hKp K Kp; try clear hanc anc) | ((with_reducible refine And.intro ?_ ?_); (focus (first | trivial | omega | (simp only [Fits]; omega) | assumption | (rw [hanc]; rfl)))) | ((first | refine K_regA hE fun K Kp hK hKp => ?_ | refine K_drwA false mixed hE fun K Kp hK hKp anc hanc => ?_); simp only [go_sem, u1, q2]) | ((first | refine onG_split_t (fun hg => ?_) (fun hg => ?_) | refine onG_split_f (fun hg => ?_) (fun hg => ?_)) <;> simp only [go_sem, u1, q2, hg]) | (refine K_condA (fun hc => ?_) (fun hc => ?_) <;> try (exact absurd hc (by decide))) | (refine K_ret ?_; refine (hQ _ ⟨_, by (try simp only [go_sem, ↓reduceIte, Nat.reduceEqDiff]); rfl, by simp [go_sem], ?_, by first | rfl | assumption⟩).1))
  exact ⟨i + 1, by omega, by omega, fun i => if i = 0 then 7340033 else i, by refine ent_mk (by simp [go_sem, e]) (by simp [go_sem, e]) (by simp) (by simp [hN])⟩
 ·obtain rfl : i = a.toNat + 1 := by omega
  have q2 : decide (((a.toNat + 1 : Nat) : Int) ≤ (a.toNat : Int)) = false := decide_eq_false (by omega)
  repeat' (first | apply nx | refine Kq_exit_ne (by decide) ?_ | rw [wrap64 (by omega) (by omega)] | ((first | refine hK _ ?_ | refine hKp _ _ ?_); clear hK hKp K Kp; try clear hanc anc) | ((with_reducible refine And.intro ?_ ?_); (focus (first | trivial | omega | (simp only [Fits]; omega) | assumption | (rw [hanc]; rfl)))) | ((first | refine K_regA hE fun K Kp hK hKp => ?_ | refine K_drwA false mixed hE fun K Kp hK hKp anc hanc => ?_); simp only [go_sem, u1, q2]) | ((first | refine onG_split_t (fun hg => ?_) (fun hg => ?_) | refine onG_split_f (fun hg => ?_) (fun hg => ?_)) <;> simp only [go_sem, u1, q2, hg]) | (refine K_condA (fun hc => ?_) (fun hc => ?_) <;> try (exact absurd hc (by decide))) | (refine K_ret ?_; refine (hQ _ ⟨_, by (try simp only [go_sem, ↓reduceIte, Nat.reduceEqDiff]); rfl, by simp [go_sem], ?_, by first | rfl | assumption⟩).1))
  simp [AV.snap, updo]
end Go.Proofs.YtfiehjbijdmbaaaDoor
