/- A part of the proof: an abstract machine for the walks, and what the walked functions compute. -/
import Derived.Test.YtihfjibkmhclfaaDoorPe
import Derived.Test.YtihfjibkmhclfaaDoorPa
import Derived.Test.YtihfjibkmhclfaaDoorMt
set_option linter.unusedVariables false
set_option linter.unusedSimpArgs false
set_option linter.unusedSimpArgs false
set_option linter.unusedVariables false
set_option maxHeartbeats 4000000
set_option maxRecDepth 100000
namespace Go.Proofs.YtihfjibkmhclfaaDoor
open Go.Am Go.Proofs Go.Lx
open Classical
attribute [local irreducible] AW CallP CallB
def LxIn (l : List UInt8) (es : List (AV × AV)) (h : Nat → Option AObj) : Prop := h 0 = some (.cells (lxc l 1)) ∧ h 1 = some (.map es)
theorem LxIn.sub {l : List UInt8} {es : List (AV × AV)} {h : Nat → Option AObj} (hh : LxIn l es h) : ∀ id ob, lxHp l es id = some ob → h id = some ob := by
 intro id ob ho
 exact mkHp_allP (p := fun id ob => h id = some ob) (by simp [hh.1, hh.2]) id ob ho
theorem LxIn.base (l : List UInt8) (es : List (AV × AV)) : LxIn l es (lxHp l es) := ⟨rfl, rfl⟩
theorem LxIn.upd {l : List UInt8} {es : List (AV × AV)} {h : Nat → Option AObj} (hh : LxIn l es h) {i : Nat} (hi : 2 ≤ i) (o : Option AObj) : LxIn l es (updo h i o) := by
 constructor
 ·show updo h i o 0 = _; simp only [updo]; rw [if_neg (by omega)]; exact hh.1
 ·show updo h i o 1 = _; simp only [updo]; rw [if_neg (by omega)]; exact hh.2
theorem ent_lxI {l : List UInt8} {es : List (AV × AV)} (hes : EsClo es) {fr0 : Nat → Option AV} {h0 : Nat → Option AObj} (hh : LxIn l es h0) {nx0 np : Nat} {fr : List (Nat × AV)} (h : ∀ p, p ∈ fr → fr0 p.1 = some p.2 ∧ p.2.ids (· < 1000000)) (hn : np ≤ 1000000) :
    Ent np (fun i => i) ⟨fr0, h0, nx0⟩ ⟨mkFr fr, lxHp l es, 1000000⟩ := by
  have hw := lxHp_wf hes l
  exact ent_idG h (fun id o ho => ⟨hh.sub id o ho, by have := (hw.1 id o ho).1; show id < 1000000; omega, objids_mono _ (fun i hi => by omega) (hw.1 id o ho).2⟩) hn
theorem lx_use {f : FuncId} {l : List UInt8} {es : List (AV × AV)} {vs : List AV} {r : AV} {fr : Nat → Option AV} {h0 : Nat → Option AObj} {n0 k : Nat} {d : Option Nat} {K : St → Prop} {Kp : AV → St → Prop} (hr : HC Tryd.prog f (.ptr 0 0 :: vs) (lxHp l es) 2 r) (hv : AV.cloL vs = true) (hh : LxIn l es h0)
    (hK : ∀ hpn, (∀ id ob, h0 id = some ob → hpn id = some ob) → LxIn l es hpn → K ⟨(St.put ⟨fr, h0, n0⟩ d r).fr, hpn, n0⟩) : CallB Tryd.prog f (.ptr 0 0 :: vs) ⟨fr, h0, n0⟩ k d K Kp := by
  refine HC.use hr (fun i => i) (by rw [renL_id]) ⟨by show 0 < 2; decide, cloL_idsL hv⟩ (fun id ob h => by rw [oren_id]; exact hh.sub id ob h) (fun _ _ _ _ e => e) ?_
  exact fun hpn hold => hK hpn hold ⟨hold _ _ hh.1, hold _ _ hh.2⟩
theorem lx_run_use {l : List UInt8} {es : List (AV × AV)} {a : Int} {cs : List Int} {r : AV} {fr : Nat → Option AV} {h0 : Nat → Option AObj} {n0 X k : Nat} {d : Option Nat} {K : St → Prop} {Kp : AV → St → Prop} (hr : HC Tryd.prog 29 [.ptr 0 0, .i a, .sl (il cs)] (lxHp l es) 2 r) (hX : h0 X = some (.row 1 (il cs))) (hX2 : 2 ≤ X) (hh : LxIn l es h0)
    (hK : ∀ hpn, (∀ id ob, id ≠ X → h0 id = some ob → hpn id = some ob) → LxIn l es hpn → K ⟨(St.put ⟨fr, h0, n0⟩ d r).fr, hpn, n0⟩) : CallB Tryd.prog 29 [.ptr 0 0, .i a, .rw X] ⟨fr, h0, n0⟩ k d K Kp := by
  refine CallB.dfrL [X] 4 (us' := [.ptr 0 0, .i a, .sl (il cs)]) ?_ ?_ ?_
  · have e : (il cs).map (AV.dsn (onlyIn [X] h0) 3) = il cs := by
      rw [il, List.map_map]
      exact List.map_congr_left fun x _ => rfl
    simp [go_sem, hX, e, AV.dsn]
  · intro x hx
    simp only [List.mem_cons, List.not_mem_nil, or_false] at hx
    rcases hx with rfl | rfl | rfl
    · simp [AV.dsnOk]
    · simp [AV.dsnOk]
    · rw [dsnOk_rw, onlyIn_at, if_pos (by simp)]
      show dsnRok _ _ (h0 X)
      rw [hX, dsnRok_row]
      intro e he
      obtain ⟨p, _, rfl⟩ := List.mem_map.1 he
      exact ⟨trivial, rfl⟩
  · have hn : ∀ id, id ≠ X → notIn [X] h0 id = h0 id := fun id h => by rw [notIn_at, if_neg (by simpa using h)]
    refine lx_use hr (by simp [AV.cloL, AV.clo]) ⟨by rw [hn 0 (by omega)]; exact hh.1, by rw [hn 1 (by omega)]; exact hh.2⟩ ?_
    intro hpn hold hin
    have := hK hpn (fun id ob h1 h2 => hold id ob (by rw [hn id h1]; exact h2)) hin
    cases d <;> exact this
theorem nxt_end (l : List UInt8) : nxt l l.length = l.length := by unfold nxt; rw [List.drop_length]; rfl
theorem gap_hc (l : List UInt8) (es : List (AV × AV)) (hes : EsClo es) (a : Nat) (ha : a ≤ l.length) (hl : l.length ≤ 2 ^ 40) : HC Tryd.prog 24 [.ptr 0 0, .i a] (lxHp l es) 2 (.i (nxt l a : Nat)) := by
 have hw := lxHp_wf hes l
 have e0 : lxHp l es 0 = some (.cells (lxc l 1)) := rfl
 generalize hn : nxt l a = n at *
 refine HC.intro hw rfl Tryd.func24 rfl isf24 (by simp [Tryd.f24]) fun E Q hE hN hQ => K_start ?_
 repeat' (first | apply nx | refine Kq_exit_ne (by decide) ?_ | rw [wrap64 (by omega) (by omega)] | ((first | refine hK _ ?_ | refine hKp _ _ ?_); clear hK hKp K Kp; try clear hanc anc) | ((with_reducible refine And.intro ?_ ?_); (focus (first | trivial | omega | (simp only [Fits]; omega) | assumption | (rw [hanc]; rfl)))) | ((first | refine K_regA hE fun K Kp hK hKp => ?_ | refine K_drwA true mixed hE fun K Kp hK hKp anc hanc => ?_ | refine K_drwA false mixed hE fun K Kp hK hKp anc hanc => ?_); simp only [go_sem]) | ((first | refine onG_split_t (fun hg => ?_) (fun hg => ?_) | refine onG_split_f (fun hg => ?_) (fun hg => ?_)) <;> simp only [go_sem, hg]) | (refine K_condA (fun hc => ?_) (fun hc => ?_) <;> try (exact absurd hc (by decide))))
 refine K_loop (X := Nat) (fun i => i ≤ l.length ∧ nxt l i = n) (fun i => ⟨mkFr [(0, .ptr 0 0), (1, .i i)], lxHp l es, 1000000⟩) (fun i => l.length - i) a ⟨ha, hn⟩ (fun i => i) (ent_lx hes (by simp [go_sem, AV.ids]) (by rw [hN]; decide)) ?_
 rintro i ⟨hi, ht⟩
 have rc := run_hc l es hes i [4] hi hl (by decide) (by decide)
 rw [inC_blank] at rc
 obtain ⟨h1, h2, h3⟩ := nxt_turn hi
 have hge : i ≤ i + run isBlank (l.drop i) := Nat.le_add_right ..
 generalize i + run isBlank (l.drop i) = b at *
 repeat (first | refine K_seq ?_ | refine K_blk ?_ | refine AW_skip ?_ | refine Kq_norm_code ?_ | refine Kq_norm_blk ?_)
 refine K_regA hE fun K Kp hK hKp => ?_
 simp only [go_sem]
 refine Hold.mk (lx_run_use rc rfl (by decide) ((LxIn.base l es).upd (by decide) _) ?_)
 rintro hpn - hin
 simp only [go_sem]
 refine hK _ ?_; clear hK hKp K Kp; try clear hanc anc
 repeat (first | refine Kq_norm_code ?_ | refine Kq_norm_blk ?_ | refine Kq_norm_lp ?_)
 refine AW.ent (σ' := ⟨mkFr [(0, .ptr 0 0), (1, .i b)], lxHp l es, 1000000⟩) (fun i => i) (ent_lxI hes hin (by simp [go_sem, AV.ids]) (by rw [hN]; decide)) ?_
 have ic := index_call (tx (l.drop b)) 10
 rw [tx_list] at ic
 have hx := List.take_of_length_le (Nat.le_refl l.length)
 rcases h3 with ⟨rfl, h4⟩ | ⟨c, hc0, h4⟩
 ·have q : (((l.length : Nat) : Int) == (l.length : Int)) = true := by simp
  repeat' (first | apply nx | refine Kq_exit_ne (by decide) ?_ | rw [wrap64 (by omega) (by omega)] | ((first | refine hK _ ?_ | refine hKp _ _ ?_); clear hK hKp K Kp; try clear hanc anc) | ((with_reducible refine And.intro ?_ ?_); (focus (first | trivial | omega | (simp only [Fits]; omega) | assumption | (rw [hanc]; rfl)))) | ((first | refine K_regA hE fun K Kp hK hKp => ?_ | refine K_drwA true mixed hE fun K Kp hK hKp anc hanc => ?_ | refine K_drwA false mixed hE fun K Kp hK hKp anc hanc => ?_); simp only [go_sem, e0, q]) | ((first | refine onG_split_t (fun hg => ?_) (fun hg => ?_) | refine onG_split_f (fun hg => ?_) (fun hg => ?_)) <;> simp only [go_sem, e0, q, hg]) | (refine K_condA (fun hc => ?_) (fun hc => ?_) <;> try (exact absurd hc (by decide))))
  obtain rfl : n = l.length := by omega
  exact K_ret (hQ _ (by simp only [go_sem]; rfl) (fun id ob h => h)).1
 have hbl : b < l.length := (List.getElem?_eq_some_iff.1 hc0).1
 have q : (((b : Nat) : Int) == (l.length : Int)) = false := by simp; omega
 have q2 := u8_bne c 35 35 rfl
 rcases h4 with ⟨h5, h4⟩ | ⟨rfl, h4⟩
 ·rw [show (c != 35) = true from by simpa using h5] at q2
  repeat' (first | apply nx | refine Kq_exit_ne (by decide) ?_ | rw [wrap64 (by omega) (by omega)] | ((first | refine hK _ ?_ | refine hKp _ _ ?_); clear hK hKp K Kp; try clear hanc anc) | ((with_reducible refine And.intro ?_ ?_); (focus (first | trivial | omega | (simp only [Fits]; omega) | assumption | (rw [hanc]; rfl)))) | ((first | refine K_regA hE fun K Kp hK hKp => ?_ | refine K_drwA true mixed hE fun K Kp hK hKp anc hanc => ?_ | refine K_drwA false mixed hE fun K Kp hK hKp anc hanc => ?_); simp only [go_sem, e0, q, hc0, q2]) | ((first | refine onG_split_t (fun hg => ?_) (fun hg => ?_) | refine onG_split_f (fun hg => ?_) (fun hg => ?_)) <;> simp only [go_sem, e0, q, hc0, q2, hg]) | (refine K_condA (fun hc => ?_) (fun hc => ?_) <;> try (exact absurd hc (by decide))))
  obtain rfl : n = b := by omega
  exact K_ret (hQ _ (by simp only [go_sem]; rfl) (fun id ob h => h)).1
 rcases h4 with ⟨h5, h4⟩ | ⟨k, h5, h6, h7, h4⟩
 ·rw [h5] at ic
  repeat' (first | apply nx | refine Kq_exit_ne (by decide) ?_ | rw [wrap64 (by omega) (by omega)] | ((first | refine hK _ ?_ | refine hKp _ _ ?_); clear hK hKp K Kp; try clear hanc anc) | ((with_reducible refine And.intro ?_ ?_); (focus (first | trivial | omega | (simp only [Fits]; omega) | assumption | (rw [hanc]; rfl)))) | ((first | refine K_regA hE fun K Kp hK hKp => ?_ | refine K_drwA true mixed hE fun K Kp hK hKp anc hanc => ?_ | refine K_drwA false mixed hE fun K Kp hK hKp anc hanc => ?_ | ((first | apply CallP_mk | apply CallB_mk); (focus (simp only [go_sem] <;> rfl)); (focus (exact ic)); (focus (first | (simp [go_sem]; done) | (simp [go_sem, CloRow, AV.cells, AV.clo]; done))); (focus (first | exact .inl rfl | (right; simp [go_sem]))))); simp only [go_sem, e0, q, hc0, q2, hx]) | ((first | refine onG_split_t (fun hg => ?_) (fun hg => ?_) | refine onG_split_f (fun hg => ?_) (fun hg => ?_)) <;> simp only [go_sem, e0, q, hc0, q2, hx, hg]) | (refine K_condA (fun hc => ?_) (fun hc => ?_) <;> try (exact absurd hc (by decide))))
  exact ⟨l.length, ⟨Nat.le_refl _, by have := nxt_end l; omega⟩, by omega, fun i => i, ent_lx hes (by simp [go_sem, AV.ids]) (by rw [hN]; decide)⟩
 ·rw [h5] at ic
  have v1 : IntKind.i64.wrap ((b : Int) + (k : Int)) = ((b + k : Nat) : Int) := by rw [wrap64 (by omega) (by omega)]; omega
  have q3 : decide ((k : Int) ≥ 0) = true := by simp
  repeat' (first | apply nx | refine Kq_exit_ne (by decide) ?_ | rw [wrap64 (by omega) (by omega)] | ((first | refine hK _ ?_ | refine hKp _ _ ?_); clear hK hKp K Kp; try clear hanc anc) | ((with_reducible refine And.intro ?_ ?_); (focus (first | trivial | omega | (simp only [Fits]; omega) | assumption | (rw [hanc]; rfl)))) | ((first | refine K_regA hE fun K Kp hK hKp => ?_ | refine K_drwA true mixed hE fun K Kp hK hKp anc hanc => ?_ | refine K_drwA false mixed hE fun K Kp hK hKp anc hanc => ?_ | ((first | apply CallP_mk | apply CallB_mk); (focus (simp only [go_sem] <;> rfl)); (focus (exact ic)); (focus (first | (simp [go_sem]; done) | (simp [go_sem, CloRow, AV.cells, AV.clo]; done))); (focus (first | exact .inl rfl | (right; simp [go_sem]))))); simp only [go_sem, e0, q, hc0, q2, hx, v1, q3]) | ((first | refine onG_split_t (fun hg => ?_) (fun hg => ?_) | refine onG_split_f (fun hg => ?_) (fun hg => ?_)) <;> simp only [go_sem, e0, q, hc0, q2, hx, v1, q3, hg]) | (refine K_condA (fun hc => ?_) (fun hc => ?_) <;> try (exact absurd hc (by decide))))
  exact ⟨b + k, ⟨by omega, by omega⟩, by omega, fun i => i, ent_lx hes (by simp [go_sem, AV.ids]) (by rw [hN]; decide)⟩
end Go.Proofs.YtihfjibkmhclfaaDoor

set_option linter.unusedSimpArgs false
set_option linter.unusedVariables false
set_option maxHeartbeats 4000000
set_option maxRecDepth 100000
namespace Go.Proofs.YtihfjibkmhclfaaDoor
open Go.Am Go.Proofs Go.Lx
open Classical
attribute [local irreducible] AW CallP CallB
theorem lxc_zf (l : List UInt8) (m : Nat) : (lxc l m).all AV.zf = true := by
 rw [List.all_eq_true]
 intro x hx
 simp only [lxc, List.mem_cons, List.mem_append, List.not_mem_nil, or_false] at hx
 rcases hx with rfl | hx | rfl
 ·rfl
 ·obtain ⟨p, _, rfl⟩ := List.mem_map.1 hx; rfl
 ·rfl
theorem il_clo (cs : List Int) : CloRow (il cs) := by
 intro x hx c hc
 obtain ⟨p, _, rfl⟩ := List.mem_map.1 hx
 simp only [AV.cells, List.mem_cons, List.not_mem_nil, or_false] at hc
 subst hc; rfl
theorem lx_run_P {l : List UInt8} {es : List (AV × AV)} {a : Int} {cs : List Int} {n : Int} {fr : Nat → Option AV} {h0 : Nat → Option AObj} {n0 X : Nat} {d : Option Nat} {K : St → Prop} (hr : HC Tryd.prog 29 [.ptr 0 0, .i a, .sl (il cs)] (lxHp l es) 2 (.i n)) (hez : EsZ es) (hX : h0 X = some (.row 1 (il cs))) (hh : LxIn l es h0) (hn : 2 ≤ n0)
    (hk : K (St.put ⟨fr, h0, n0⟩ d (.i n))) {tg : Tg (CallP Tryd.prog 29 [.ptr 0 0, .i a, .rw X] ⟨fr, h0, n0⟩ d K)} : Hold (CallP Tryd.prog 29 [.ptr 0 0, .i a, .rw X] ⟨fr, h0, n0⟩ d K) tg := by
  refine CallP_hc (us := [.ptr 0 0, .i a, .sl (il cs)]) (by simp [AV.snapL, AV.snap, hX]) hr ⟨by show 0 < 2; decide, trivial, trivial, trivial⟩ ?_ (by simp [AV.snapOkL, AV.snapOk, hX, il_clo]) (.inl rfl) hk
  intro id ob ho
  refine ⟨hh.sub id ob ho, mkHp_allP (p := fun id _ => id < n0) (by simp; omega) id ob ho, ?_⟩
  · exact mkHp_allP (p := fun id ob => ob.zf = true) (by
      intro q hq
      simp only [List.mem_cons, List.not_mem_nil, or_false] at hq
      rcases hq with rfl | rfl
      · exact lxc_zf l 1
      · show (es.all fun p => p.1.zf && p.2.zf) = true
        rw [List.all_eq_true]
        intro p hp
        have := hez p hp
        simp [this.1, this.2]) id ob ho
theorem sym_two {y : List UInt8} (h : y ∈ two) : y.length = 2 := by
 have : ∀ z, z ∈ two → z.length = 2 := by decide
 exact this y h
theorem sym_one {y : List UInt8} (h : y ∈ one) : y.length = 1 := by
 have : ∀ z, z ∈ one → z.length = 1 := by decide
 exact this y h
theorem sym_hit2 {s : List UInt8} (h : s.take 2 ∈ syms) : ∃ m, symL s = ⟨3, m, 0, 0⟩ ∧ s.take m = s.take 2 := by
 unfold symL
 rcases List.mem_append.1 h with h | h
 ·exact ⟨2, by rw [if_pos h], rfl⟩
 ·have h1 := sym_one h
  have e : s.take 1 = s.take 2 := by
   have h2 : s.length = 1 := by rw [List.length_take] at h1; omega
   rw [List.take_of_length_le (by omega), List.take_of_length_le (by omega)]
  refine ⟨1, ?_, e⟩
  rw [if_neg (fun h2 => by have := sym_two h2; omega), if_pos (by rw [e]; exact h)]
theorem sym_hit1 {s : List UInt8} (h2 : s.take 2 ∉ syms) (h : s.take 1 ∈ syms) : symL s = ⟨3, 1, 0, 0⟩ := by
 unfold symL
 rw [if_neg (fun h' => h2 (List.mem_append.2 (.inl h')))]
 rcases List.mem_append.1 h with h | h
 ·have := sym_two h
  rw [List.length_take] at this
  omega
 ·rw [if_pos h]
theorem sym_miss {s : List UInt8} (h2 : s.take 2 ∉ syms) (h : s.take 1 ∉ syms) : symL s = ⟨3, 0, 0, 3⟩ := by
 unfold symL
 rw [if_neg (fun h' => h2 (List.mem_append.2 (.inl h'))), if_neg (fun h' => h (List.mem_append.2 (.inr h')))]
theorem symF_tx (s : List UInt8) : symF (tx s) = if s ∈ syms then some (.bool true) else none := by
 unfold symF
 by_cases h : s ∈ syms
 ·rw [if_pos h, if_pos ⟨s, h, rfl⟩]
 ·rw [if_neg h, if_neg (fun ⟨y, hy, e⟩ => h (by rw [tx_inj e]; exact hy))]
theorem LxIn.up {l : List UInt8} {es : List (AV × AV)} {h : Nat → Option AObj} (hh : LxIn l es h) {i : Nat} (o : Option AObj) (hi : Nat.ble 2 i = true) : LxIn l es (updo h i o) := hh.upd (Nat.le_of_ble_eq_true hi) o
def lx2 (l : List UInt8) (es : List (AV × AV)) (la lb : List AV) : Nat → Option AObj := updo (updo (lxHp l es) 1000001 (some (.cells la))) 1000003 (some (.cells lb))
def mX (X i : Nat) : Nat := if i = 1000003 then X else i
theorem lx2_in (l : List UInt8) (es : List (AV × AV)) (la lb : List AV) : LxIn l es (lx2 l es la lb) := ((LxIn.base l es).up _ rfl).up _ rfl
theorem ent_lx2 {l : List UInt8} {es : List (AV × AV)} {la lb : List AV} (hes : EsClo es) (hA : AV.cloL la = true) (hB : AV.cloL lb = true) {X : Nat} (hX : 2 ≤ X) (hX2 : X ≠ 1000001) {fr0 : Nat → Option AV} {h0 : Nat → Option AObj} {nx0 : Nat} (hh : LxIn l es h0)
    (h1 : h0 1000001 = some (.cells la)) (h2 : h0 X = some (.cells lb)) {fr : List (Nat × AV)} (hf : ∀ p, p ∈ fr → fr0 p.1 = some (p.2.ren (mX X)) ∧ p.2.ids (· < 1000005)) : Ent 2 (mX X) ⟨fr0, h0, nx0⟩ ⟨mkFr fr, lx2 l es la lb, 1000005⟩ := by
  have key : ∀ id o, lx2 l es la lb id = some o → (id = 1000003 ∧ o = .cells lb) ∨ (id = 1000001 ∧ o = .cells la) ∨ (id = 0 ∧ o = .cells (lxc l 1)) ∨ (id = 1 ∧ o = .map es) := by
    intro id o h
    simp only [lx2, updo] at h
    split at h
    · cases h; exact .inl ⟨by assumption, rfl⟩
    · split at h
      · cases h; exact .inr (.inl ⟨by assumption, rfl⟩)
      · exact .inr (.inr (mkHp_allP (p := fun id o => (id = 0 ∧ o = .cells (lxc l 1)) ∨ (id = 1 ∧ o = .map es)) (by simp) id o h))
  refine ent_gen hf (fun id o h => ?_) (fun id id' o o' h h' e => ?_) (fun id hid => ?_)
  · rcases key id o h with ⟨rfl, rfl⟩ | ⟨rfl, rfl⟩ | ⟨rfl, rfl⟩ | ⟨rfl, rfl⟩
    · exact ⟨by rw [AObj.ren, cloL_renL hB]; exact h2, by decide, by rw [AObj.ids]; exact cloL_idsL hB⟩
    · exact ⟨by rw [AObj.ren, cloL_renL hA]; exact h1, by decide, by rw [AObj.ids]; exact cloL_idsL hA⟩
    · exact ⟨by rw [AObj.ren, lxc_ren]; exact hh.1, by decide, by rw [AObj.ids, lxc_ids]; decide⟩
    · exact ⟨by rw [AObj.ren, hes.ren]; exact hh.2, by decide, by rw [AObj.ids]; exact hes.ids _⟩
  · unfold mX at e
    rcases key id o h with ⟨rfl, _⟩ | ⟨rfl, _⟩ | ⟨rfl, _⟩ | ⟨rfl, _⟩ <;> rcases key id' o' h' with ⟨rfl, _⟩ | ⟨rfl, _⟩ | ⟨rfl, _⟩ | ⟨rfl, _⟩ <;> simp at e ⊢ <;> omega
  · unfold mX
    rw [if_neg (by omega)]
    exact ⟨rfl, by omega⟩
theorem AW_odd {l : List UInt8} {es : List (AV × AV)} (hes : EsClo es) {E : En} (hN : E.np = 2) {a : Int} {c : Code} {Q : AEx → St → Prop} (h : AW Tryd.prog E c Q ⟨mkFr [(0, .ptr 0 0), (1, .i a)], lxHp l es, 1000001⟩) : AW Tryd.prog E c Q ⟨mkPar 0 [.ptr 0 0, .i a], lxHp l es, 1000000⟩ := by
 have hw := lxHp_wf hes l
 refine AW.ent (σ' := ⟨mkFr [(0, .ptr 0 0), (1, .i a)], lxHp l es, 1000001⟩) (fun i => i) ?_ h
 exact ent_idG (by simp [go_sem, AV.ids]) (fun id o ho => ⟨ho, by have := (hw.1 id o ho).1; omega, objids_mono _ (fun i hi => by omega) (hw.1 id o ho).2⟩) (by omega)
theorem token_hc (l : List UInt8) (es : List (AV × AV)) (hes : EsClo es) (hez : EsZ es) (hm : MapS es symF) (a : Nat) (ha : a < l.length) (hl : l.length ≤ 2 ^ 40) : HC Tryd.prog 25 [.ptr 0 0, .i a] (lxHp l es) 2 (.tup [(tkAt l a).av, .i (tokL (l.drop a)).err]) := by
 have hw := lxHp_wf hes l
 have e0 : lxHp l es 0 = some (.cells (lxc l 1)) := rfl
 have e1 : lxHp l es 1 = some (.map es) := rfl
 obtain ⟨c, hc0⟩ := get?_of ha
 have hd := drop_of hc0
 have d1 := lxc_1 l 1 c.toNat_lt
 have b1 : c.toNat ≤ 255 := by have := c.toNat_lt; omega
 have hcl := cls_eq c
 have hl0 : l.drop a ≠ [] := drop_ne ha
 cases h1 : isLet c
 case true =>
  rw [h1, if_pos rfl] at hcl
  have ht : tokL (l.drop a) = nameL (l.drop a) := by rw [hd, tokL, if_pos h1]
  have rc := run_hc l es hes a [1, 2, 3] (by omega) hl (by decide) (by decide)
  rw [inC_name] at rc
  have hrl := run_le isName (l.drop a)
  rw [List.length_drop] at hrl
  rw [hcl] at d1
  have hta : tkAt l a = ⟨1, (l.drop a).take (run isName (l.drop a)), 0, a⟩ := by
   unfold tkAt; rw [ht]; unfold nameL; split <;> rfl
  rw [hta, ht, Tk.av_eq, ← take_add]
  have hne : (nameL (l.drop a)).err = if 24 < run isName (l.drop a) then 2 else 0 := by unfold nameL; split <;> rfl
  rw [hne]
  generalize run isName (l.drop a) = n at *
  have b2 : a + n ≤ l.length := by omega
  have hlen : ((l.take (a + n)).drop a).length = n := by rw [List.length_drop, List.length_take]; omega
  refine HC.intro hw rfl Tryd.func25 rfl isf25 (by simp [Tryd.f25]) fun E Q hE hN hQ => K_start ?_
  refine AW_odd hes hN ?_
  repeat' (first | apply nx | refine Kq_exit_ne (by decide) ?_ | rw [wrap64 (by omega) (by omega)] | ((first | refine hK _ ?_ | refine hKp _ _ ?_); clear hK hKp K Kp; try clear hanc anc) | ((with_reducible refine And.intro ?_ ?_); (focus (first | trivial | omega | (simp only [Fits]; omega) | assumption | (rw [hanc]; rfl)))) | ((fail_if_success refine K_stop 13 ?_); (first | refine K_regA hE fun K Kp hK hKp => ?_ | refine K_drwA true mixed hE fun K Kp hK hKp anc hanc => ?_ | refine K_drwA false mixed hE fun K Kp hK hKp anc hanc => ?_); simp only [go_sem, e0, hc0, d1, b1]) | ((first | refine onG_split_t (fun hg => ?_) (fun hg => ?_) | refine onG_split_f (fun hg => ?_) (fun hg => ?_)) <;> simp only [go_sem, e0, hc0, d1, b1, hg]) | (refine K_condA (fun hc => ?_) (fun hc => ?_) <;> try (exact absurd hc (by decide))))
  repeat (first | refine K_seq ?_ | refine K_blk ?_ | refine AW_skip ?_ | refine Kq_norm_code ?_ | refine Kq_norm_blk ?_)
  refine K_drwA false mixed hE fun K Kp hK hKp anc hanc => ?_
  simp only [go_sem, e0, hc0, d1, b1]
  refine ⟨by rw [hanc]; rfl, lx_run_P rc hez rfl (((((LxIn.base l es).upd (by decide) _).upd (by decide) _).upd (by decide) _).upd (by decide) _) (by decide) ?_⟩
  simp only [go_sem, b2]
  by_cases hb : 24 < n
  ·rw [if_pos hb] at hQ
   have q1 : decide ((n : Int) > 24) = true := decide_eq_true (by omega)
   repeat' (first | apply nx | refine Kq_exit_ne (by decide) ?_ | rw [wrap64 (by omega) (by omega)] | ((first | refine hK _ ?_ | refine hKp _ _ ?_); clear hK hKp K Kp; try clear hanc anc) | ((with_reducible refine And.intro ?_ ?_); (focus (first | trivial | omega | (simp only [Fits]; omega) | assumption | (rw [hanc]; rfl)))) | ((first | refine K_regA hE fun K Kp hK hKp => ?_ | refine K_drwA true mixed hE fun K Kp hK hKp anc hanc => ?_ | refine K_drwA false mixed hE fun K Kp hK hKp anc hanc => ?_); simp only [go_sem, b2, hlen, q1]) | ((first | refine onG_split_t (fun hg => ?_) (fun hg => ?_) | refine onG_split_f (fun hg => ?_) (fun hg => ?_)) <;> simp only [go_sem, b2, hlen, q1, hg]) | (refine K_condA (fun hc => ?_) (fun hc => ?_) <;> try (exact absurd hc (by decide))))
   exact K_ret (hQ _ (by first | (simp [resA, rvA, Tryd.f25, go_sem, updo]; done) | (simp [resA, rvA, Tryd.f25, go_sem, updo]; rfl)) (LxIn.sub (by repeat (first | exact LxIn.base _ _ | refine LxIn.up ?_ _ rfl)))).1
  ·rw [if_neg hb] at hQ
   have q1 : decide ((n : Int) > 24) = false := decide_eq_false (by omega)
   repeat' (first | apply nx | refine Kq_exit_ne (by decide) ?_ | rw [wrap64 (by omega) (by omega)] | ((first | refine hK _ ?_ | refine hKp _ _ ?_); clear hK hKp K Kp; try clear hanc anc) | ((with_reducible refine And.intro ?_ ?_); (focus (first | trivial | omega | (simp only [Fits]; omega) | assumption | (rw [hanc]; rfl)))) | ((first | refine K_regA hE fun K Kp hK hKp => ?_ | refine K_drwA true mixed hE fun K Kp hK hKp anc hanc => ?_ | refine K_drwA false mixed hE fun K Kp hK hKp anc hanc => ?_); simp only [go_sem, b2, hlen, q1]) | ((first | refine onG_split_t (fun hg => ?_) (fun hg => ?_) | refine onG_split_f (fun hg => ?_) (fun hg => ?_)) <;> simp only [go_sem, b2, hlen, q1, hg]) | (refine K_condA (fun hc => ?_) (fun hc => ?_) <;> try (exact absurd hc (by decide))))
   exact K_ret (hQ _ (by first | (simp [resA, rvA, Tryd.f25, go_sem, updo]; done) | (simp [resA, rvA, Tryd.f25, go_sem, updo]; rfl)) (LxIn.sub (by repeat (first | exact LxIn.base _ _ | refine LxIn.up ?_ _ rfl)))).1
 rw [h1, if_neg (by simp)] at hcl
 cases h2 : isDig c
 case true =>
  rw [h2, if_pos rfl] at hcl
  have ht : tokL (l.drop a) = digL (l.drop a) := by rw [hd, tokL, if_neg (by simp [h1]), if_pos h2]
  have rc := run_hc l es hes a [2] (by omega) hl (by decide) (by decide)
  rw [inC_dig] at rc
  have hrl := run_le isDig (l.drop a)
  rw [List.length_drop] at hrl
  rw [hcl] at d1
  have htr := take_run isDig (l.drop a)
  have hr1 : 1 ≤ run isDig (l.drop a) := by rw [hd, run_cons, if_pos h2]; omega
  have hdl : digL (l.drop a) = if 10 < run isDig (l.drop a) ∨ 1000000000 < numv ((l.drop a).take (run isDig (l.drop a))) then ⟨2, run isDig (l.drop a), 0, 2⟩ else ⟨2, run isDig (l.drop a), numv ((l.drop a).take (run isDig (l.drop a))), 0⟩ := rfl
  have hta : tkAt l a = ⟨2, (l.drop a).take (run isDig (l.drop a)), if 10 < run isDig (l.drop a) ∨ 1000000000 < numv ((l.drop a).take (run isDig (l.drop a))) then 0 else numv ((l.drop a).take (run isDig (l.drop a))), a⟩ := by
   unfold tkAt; rw [ht, hdl]; split <;> rfl
  have hne : (digL (l.drop a)).err = if 10 < run isDig (l.drop a) ∨ 1000000000 < numv ((l.drop a).take (run isDig (l.drop a))) then 2 else 0 := by rw [hdl]; split <;> rfl
  rw [hta, ht, Tk.av_eq, hne]
  simp only [← take_add] at htr ⊢
  generalize run isDig (l.drop a) = n at *
  have b2 : a + n ≤ l.length := by omega
  have hlen : ((l.take (a + n)).drop a).length = n := by rw [List.length_drop, List.length_take]; omega
  have hac := atoi_call (l := (l.take (a + n)).drop a) (fun e => by rw [e] at hlen; simp at hlen; omega) htr (by omega)
  generalize ht0 : (l.take (a + n)).drop a = t at *
  rcases hac with hac | ⟨hbig, m, hac⟩
  ·by_cases hb : 10 < n ∨ 1000000000 < numv t
   ·rw [if_pos hb, if_pos hb]
    by_cases hb1 : 10 < n
    ·have q1 : decide ((n : Int) > 10) = true := decide_eq_true (by omega)
     refine HC.intro hw rfl Tryd.func25 rfl isf25 (by simp [Tryd.f25]) fun E Q hE hN hQ => K_start ?_
     refine AW_odd hes hN ?_
     repeat' (first | apply nx | refine Kq_exit_ne (by decide) ?_ | rw [wrap64 (by omega) (by omega)] | ((first | refine hK _ ?_ | refine hKp _ _ ?_); clear hK hKp K Kp; try clear hanc anc) | ((with_reducible refine And.intro ?_ ?_); (focus (first | trivial | omega | (simp only [Fits]; omega) | assumption | (rw [hanc]; rfl)))) | ((fail_if_success refine K_stop 17 ?_); (first | refine K_regA hE fun K Kp hK hKp => ?_ | refine K_drwA true mixed hE fun K Kp hK hKp anc hanc => ?_ | refine K_drwA false mixed hE fun K Kp hK hKp anc hanc => ?_); simp only [go_sem, e0, hc0, d1, b1]) | ((first | refine onG_split_t (fun hg => ?_) (fun hg => ?_) | refine onG_split_f (fun hg => ?_) (fun hg => ?_)) <;> simp only [go_sem, e0, hc0, d1, b1, hg]) | (refine K_condA (fun hc => ?_) (fun hc => ?_) <;> try (exact absurd hc (by decide))))
     repeat (first | refine K_seq ?_ | refine K_blk ?_ | refine AW_skip ?_ | refine Kq_norm_code ?_ | refine Kq_norm_blk ?_)
     refine K_drwA false mixed hE fun K Kp hK hKp anc hanc => ?_
     simp only [go_sem, e0, hc0, d1, b1]
     refine ⟨by rw [hanc]; rfl, lx_run_P rc hez rfl (((((LxIn.base l es).upd (by decide) _).upd (by decide) _).upd (by decide) _).upd (by decide) _) (by decide) ?_⟩
     simp only [go_sem, b2, ht0]
     repeat' (first | apply nx | refine Kq_exit_ne (by decide) ?_ | rw [wrap64 (by omega) (by omega)] | ((first | refine hK _ ?_ | refine hKp _ _ ?_); clear hK hKp K Kp; try clear hanc anc) | ((with_reducible refine And.intro ?_ ?_); (focus (first | trivial | omega | (simp only [Fits]; omega) | assumption | (rw [hanc]; rfl)))) | ((first | refine K_regA hE fun K Kp hK hKp => ?_ | refine K_drwA true mixed hE fun K Kp hK hKp anc hanc => ?_ | refine K_drwA false mixed hE fun K Kp hK hKp anc hanc => ?_ | ((first | apply CallP_mk | apply CallB_mk); (focus (simp only [go_sem] <;> rfl)); (focus (exact hac)); (focus (first | (simp [go_sem]; done) | (simp [go_sem, CloRow, AV.cells, AV.clo]; done))); (focus (first | exact .inl rfl | (right; simp [go_sem]))))); simp only [go_sem, b2, hlen, q1]) | ((first | refine onG_split_t (fun hg => ?_) (fun hg => ?_) | refine onG_split_f (fun hg => ?_) (fun hg => ?_)) <;> simp only [go_sem, b2, hlen, q1, hg]) | (refine K_condA (fun hc => ?_) (fun hc => ?_) <;> try (exact absurd hc (by decide))))
     exact K_ret (hQ _ (by first | (simp [resA, rvA, Tryd.f25, go_sem, updo]; done) | (simp [resA, rvA, Tryd.f25, go_sem, updo]; rfl)) (LxIn.sub (by repeat (first | exact LxIn.base _ _ | refine LxIn.up ?_ _ rfl)))).1
    ·have q1 : decide ((n : Int) > 10) = false := decide_eq_false (by omega)
     have q2 : decide ((numv t : Int) > 1000000000) = true := decide_eq_true (by omega)
     refine HC.intro hw rfl Tryd.func25 rfl isf25 (by simp [Tryd.f25]) fun E Q hE hN hQ => K_start ?_
     refine AW_odd hes hN ?_
     repeat' (first | apply nx | refine Kq_exit_ne (by decide) ?_ | rw [wrap64 (by omega) (by omega)] | ((first | refine hK _ ?_ | refine hKp _ _ ?_); clear hK hKp K Kp; try clear hanc anc) | ((with_reducible refine And.intro ?_ ?_); (focus (first | trivial | omega | (simp only [Fits]; omega) | assumption | (rw [hanc]; rfl)))) | ((fail_if_success refine K_stop 17 ?_); (first | refine K_regA hE fun K Kp hK hKp => ?_ | refine K_drwA true mixed hE fun K Kp hK hKp anc hanc => ?_ | refine K_drwA false mixed hE fun K Kp hK hKp anc hanc => ?_); simp only [go_sem, e0, hc0, d1, b1]) | ((first | refine onG_split_t (fun hg => ?_) (fun hg => ?_) | refine onG_split_f (fun hg => ?_) (fun hg => ?_)) <;> simp only [go_sem, e0, hc0, d1, b1, hg]) | (refine K_condA (fun hc => ?_) (fun hc => ?_) <;> try (exact absurd hc (by decide))))
     repeat (first | refine K_seq ?_ | refine K_blk ?_ | refine AW_skip ?_ | refine Kq_norm_code ?_ | refine Kq_norm_blk ?_)
     refine K_drwA false mixed hE fun K Kp hK hKp anc hanc => ?_
     simp only [go_sem, e0, hc0, d1, b1]
     refine ⟨by rw [hanc]; rfl, lx_run_P rc hez rfl (((((LxIn.base l es).upd (by decide) _).upd (by decide) _).upd (by decide) _).upd (by decide) _) (by decide) ?_⟩
     simp only [go_sem, b2, ht0]
     repeat' (first | apply nx | refine Kq_exit_ne (by decide) ?_ | rw [wrap64 (by omega) (by omega)] | ((first | refine hK _ ?_ | refine hKp _ _ ?_); clear hK hKp K Kp; try clear hanc anc) | ((with_reducible refine And.intro ?_ ?_); (focus (first | trivial | omega | (simp only [Fits]; omega) | assumption | (rw [hanc]; rfl)))) | ((first | refine K_regA hE fun K Kp hK hKp => ?_ | refine K_drwA true mixed hE fun K Kp hK hKp anc hanc => ?_ | refine K_drwA false mixed hE fun K Kp hK hKp anc hanc => ?_ | ((first | apply CallP_mk | apply CallB_mk); (focus (simp only [go_sem] <;> rfl)); (focus (exact hac)); (focus (first | (simp [go_sem]; done) | (simp [go_sem, CloRow, AV.cells, AV.clo]; done))); (focus (first | exact .inl rfl | (right; simp [go_sem]))))); simp only [go_sem, b2, hlen, q1, q2]) | ((first | refine onG_split_t (fun hg => ?_) (fun hg => ?_) | refine onG_split_f (fun hg => ?_) (fun hg => ?_)) <;> simp only [go_sem, b2, hlen, q1, q2, hg]) | (refine K_condA (fun hc => ?_) (fun hc => ?_) <;> try (exact absurd hc (by decide))))
     exact K_ret (hQ _ (by first | (simp [resA, rvA, Tryd.f25, go_sem, updo]; done) | (simp [resA, rvA, Tryd.f25, go_sem, updo]; rfl)) (LxIn.sub (by repeat (first | exact LxIn.base _ _ | refine LxIn.up ?_ _ rfl)))).1
   ·rw [if_neg hb, if_neg hb]
    have q1 : decide ((n : Int) > 10) = false := decide_eq_false (by omega)
    have q2 : decide ((numv t : Int) > 1000000000) = false := decide_eq_false (by omega)
    refine HC.intro hw rfl Tryd.func25 rfl isf25 (by simp [Tryd.f25]) fun E Q hE hN hQ => K_start ?_
    refine AW_odd hes hN ?_
    repeat' (first | apply nx | refine Kq_exit_ne (by decide) ?_ | rw [wrap64 (by omega) (by omega)] | ((first | refine hK _ ?_ | refine hKp _ _ ?_); clear hK hKp K Kp; try clear hanc anc) | ((with_reducible refine And.intro ?_ ?_); (focus (first | trivial | omega | (simp only [Fits]; omega) | assumption | (rw [hanc]; rfl)))) | ((fail_if_success refine K_stop 17 ?_); (first | refine K_regA hE fun K Kp hK hKp => ?_ | refine K_drwA true mixed hE fun K Kp hK hKp anc hanc => ?_ | refine K_drwA false mixed hE fun K Kp hK hKp anc hanc => ?_); simp only [go_sem, e0, hc0, d1, b1]) | ((first | refine onG_split_t (fun hg => ?_) (fun hg => ?_) | refine onG_split_f (fun hg => ?_) (fun hg => ?_)) <;> simp only [go_sem, e0, hc0, d1, b1, hg]) | (refine K_condA (fun hc => ?_) (fun hc => ?_) <;> try (exact absurd hc (by decide))))
    repeat (first | refine K_seq ?_ | refine K_blk ?_ | refine AW_skip ?_ | refine Kq_norm_code ?_ | refine Kq_norm_blk ?_)
    refine K_drwA false mixed hE fun K Kp hK hKp anc hanc => ?_
    simp only [go_sem, e0, hc0, d1, b1]
    refine ⟨by rw [hanc]; rfl, lx_run_P rc hez rfl (((((LxIn.base l es).upd (by decide) _).upd (by decide) _).upd (by decide) _).upd (by decide) _) (by decide) ?_⟩
    simp only [go_sem, b2, ht0]
    repeat' (first | apply nx | refine Kq_exit_ne (by decide) ?_ | rw [wrap64 (by omega) (by omega)] | ((first | refine hK _ ?_ | refine hKp _ _ ?_); clear hK hKp K Kp; try clear hanc anc) | ((with_reducible refine And.intro ?_ ?_); (focus (first | trivial | omega | (simp only [Fits]; omega) | assumption | (rw [hanc]; rfl)))) | ((first | refine K_regA hE fun K Kp hK hKp => ?_ | refine K_drwA true mixed hE fun K Kp hK hKp anc hanc => ?_ | refine K_drwA false mixed hE fun K Kp hK hKp anc hanc => ?_ | ((first | apply CallP_mk | apply CallB_mk); (focus (simp only [go_sem] <;> rfl)); (focus (exact hac)); (focus (first | (simp [go_sem]; done) | (simp [go_sem, CloRow, AV.cells, AV.clo]; done))); (focus (first | exact .inl rfl | (right; simp [go_sem]))))); simp only [go_sem, b2, hlen, q1, q2]) | ((first | refine onG_split_t (fun hg => ?_) (fun hg => ?_) | refine onG_split_f (fun hg => ?_) (fun hg => ?_)) <;> simp only [go_sem, b2, hlen, q1, q2, hg]) | (refine K_condA (fun hc => ?_) (fun hc => ?_) <;> try (exact absurd hc (by decide))))
    exact K_ret (hQ _ (by first | (simp [resA, rvA, Tryd.f25, go_sem, updo]; done) | (simp [resA, rvA, Tryd.f25, go_sem, updo]; rfl)) (LxIn.sub (by repeat (first | exact LxIn.base _ _ | refine LxIn.up ?_ _ rfl)))).1
  ·rw [if_pos (.inr (by omega)), if_pos (.inr (by omega))]
   unfold atoiE at hac
   refine HC.intro hw rfl Tryd.func25 rfl isf25 (by simp [Tryd.f25]) fun E Q hE hN hQ => K_start ?_
   refine AW_odd hes hN ?_
   repeat' (first | apply nx | refine Kq_exit_ne (by decide) ?_ | rw [wrap64 (by omega) (by omega)] | ((first | refine hK _ ?_ | refine hKp _ _ ?_); clear hK hKp K Kp; try clear hanc anc) | ((with_reducible refine And.intro ?_ ?_); (focus (first | trivial | omega | (simp only [Fits]; omega) | assumption | (rw [hanc]; rfl)))) | ((fail_if_success refine K_stop 17 ?_); (first | refine K_regA hE fun K Kp hK hKp => ?_ | refine K_drwA true mixed hE fun K Kp hK hKp anc hanc => ?_ | refine K_drwA false mixed hE fun K Kp hK hKp anc hanc => ?_); simp only [go_sem, e0, hc0, d1, b1]) | ((first | refine onG_split_t (fun hg => ?_) (fun hg => ?_) | refine onG_split_f (fun hg => ?_) (fun hg => ?_)) <;> simp only [go_sem, e0, hc0, d1, b1, hg]) | (refine K_condA (fun hc => ?_) (fun hc => ?_) <;> try (exact absurd hc (by decide))))
   repeat (first | refine K_seq ?_ | refine K_blk ?_ | refine AW_skip ?_ | refine Kq_norm_code ?_ | refine Kq_norm_blk ?_)
   refine K_drwA false mixed hE fun K Kp hK hKp anc hanc => ?_
   simp only [go_sem, e0, hc0, d1, b1]
   refine ⟨by rw [hanc]; rfl, lx_run_P rc hez rfl (((((LxIn.base l es).upd (by decide) _).upd (by decide) _).upd (by decide) _).upd (by decide) _) (by decide) ?_⟩
   simp only [go_sem, b2, ht0]
   repeat' (first | apply nx | refine Kq_exit_ne (by decide) ?_ | rw [wrap64 (by omega) (by omega)] | ((first | refine hK _ ?_ | refine hKp _ _ ?_); clear hK hKp K Kp; try clear hanc anc) | ((with_reducible refine And.intro ?_ ?_); (focus (first | trivial | omega | (simp only [Fits]; omega) | assumption | (rw [hanc]; rfl)))) | ((first | refine K_regA hE fun K Kp hK hKp => ?_ | refine K_drwA true mixed hE fun K Kp hK hKp anc hanc => ?_ | refine K_drwA false mixed hE fun K Kp hK hKp anc hanc => ?_ | ((first | apply CallP_mk | apply CallB_mk); (focus (simp only [go_sem] <;> rfl)); (focus (exact hac)); (focus (first | (simp [go_sem]; done) | (simp [go_sem, CloRow, AV.cells, AV.clo]; done))); (focus (first | exact .inl rfl | (right; simp [go_sem]))))); simp only [go_sem, b2, hlen]) | ((first | refine onG_split_t (fun hg => ?_) (fun hg => ?_) | refine onG_split_f (fun hg => ?_) (fun hg => ?_)) <;> simp only [go_sem, b2, hlen, hg]) | (refine K_condA (fun hc => ?_) (fun hc => ?_) <;> try (exact absurd hc (by decide))))
   exact K_ret (hQ _ (by first | (simp [resA, rvA, Tryd.f25, go_sem, updo]; done) | (simp [resA, rvA, Tryd.f25, go_sem, updo]; rfl)) (LxIn.sub (by repeat (first | exact LxIn.base _ _ | refine LxIn.up ?_ _ rfl)))).1
 rw [h2, if_neg (by simp)] at hcl
 have ht : tokL (l.drop a) = symL (l.drop a) := by rw [hd, tokL, if_neg (by simp [h1]), if_neg (by simp [h2])]
 have hcl1 : cls c.toNat = 3 ∨ cls c.toNat = 4 ∨ cls c.toNat = 0 := by
  rw [hcl]
  split
  ·exact .inl rfl
  ·split
   ·exact .inr (.inl rfl)
   ·exact .inr (.inr rfl)
 generalize cls c.toNat = z at *
 have q1 : (z == 1) = false := by simp; omega
 have q2 : (z == 2) = false := by simp; omega
 refine HC.intro hw rfl Tryd.func25 rfl isf25 (by simp [Tryd.f25]) fun E Q hE hN hQ => K_start ?_
 refine AW_odd hes hN ?_
 repeat' (first | apply nx | refine Kq_exit_ne (by decide) ?_ | rw [wrap64 (by omega) (by omega)] | ((first | refine hK _ ?_ | refine hKp _ _ ?_); clear hK hKp K Kp; try clear hanc anc) | ((with_reducible refine And.intro ?_ ?_); (focus (first | trivial | omega | (simp only [Fits]; omega) | assumption | (rw [hanc]; rfl)))) | ((first | refine K_regA hE fun K Kp hK hKp => ?_ | refine K_drwA true mixed hE fun K Kp hK hKp anc hanc => ?_ | refine K_drwA false mixed hE fun K Kp hK hKp anc hanc => ?_); simp only [go_sem, e0, hc0, d1, b1, q1, q2]) | ((first | refine onG_split_t (fun hg => ?_) (fun hg => ?_) | refine onG_split_f (fun hg => ?_) (fun hg => ?_)) <;> simp only [go_sem, e0, hc0, d1, b1, q1, q2, hg]) | (refine K_condA (fun hc => ?_) (fun hc => ?_) <;> try (exact absurd hc (by decide))))
 refine K_loop (X := Nat) (fun k => k ≤ 2 ∧ (k < 2 → (l.drop a).take 2 ∉ syms) ∧ (k < 1 → (l.drop a).take 1 ∉ syms)) (fun k => ⟨mkFr [(0, .ptr 0 0), (1, .i a), (4, .ptr 1000001 0), (6, .ptr 1000003 0), (9, .i k)], lx2 l es [.i 0, .str ⟨#[]⟩, .i 0, .i 0] [.i 3, .str ⟨#[]⟩, .i 0, .i a], 1000005⟩) (fun k => k) 2 ⟨Nat.le_refl _, by omega, by omega⟩ (mX 5194305) ?_ ?_
 ·rw [hN]
  exact ent_lx2 hes rfl rfl (by decide) (by decide) (by repeat (first | exact LxIn.base _ _ | refine LxIn.up ?_ _ rfl)) (by simp [go_sem]) (by simp [go_sem]) (by simp [go_sem, mX, AV.ids])
 rintro k ⟨hk2, hk0, hk1⟩
 have e20 : lx2 l es [.i 0, .str ⟨#[]⟩, .i 0, .i 0] [.i 3, .str ⟨#[]⟩, .i 0, .i a] 0 = some (.cells (lxc l 1)) := rfl
 have e21 : lx2 l es [.i 0, .str ⟨#[]⟩, .i 0, .i 0] [.i 3, .str ⟨#[]⟩, .i 0, .i a] 1 = some (.map es) := rfl
 have e22 : lx2 l es [.i 0, .str ⟨#[]⟩, .i 0, .i 0] [.i 3, .str ⟨#[]⟩, .i 0, .i a] 1000001 = some (.cells [.i 0, .str ⟨#[]⟩, .i 0, .i 0]) := rfl
 have e23 : lx2 l es [.i 0, .str ⟨#[]⟩, .i 0, .i 0] [.i 3, .str ⟨#[]⟩, .i 0, .i a] 1000003 = some (.cells [.i 3, .str ⟨#[]⟩, .i 0, .i a]) := rfl
 rcases (by omega : k = 0 ∨ 1 ≤ k) with rfl | hk
 ·have hs := sym_miss (hk0 (by decide)) (hk1 (by decide))
  have hta : tkAt l a = ⟨3, [], 0, a⟩ := by unfold tkAt; rw [ht, hs]; rfl
  rw [hta, ht, hs, Tk.av_eq] at hQ
  have q : decide (((0 : Nat) : Int) > 0) = false := by decide
  repeat' (first | apply nx | refine Kq_exit_ne (by decide) ?_ | rw [wrap64 (by omega) (by omega)] | ((first | refine hK _ ?_ | refine hKp _ _ ?_); clear hK hKp K Kp; try clear hanc anc) | ((with_reducible refine And.intro ?_ ?_); (focus (first | trivial | omega | (simp only [Fits]; omega) | assumption | (rw [hanc]; rfl)))) | ((first | refine K_regA hE fun K Kp hK hKp => ?_ | refine K_drwA true mixed hE fun K Kp hK hKp anc hanc => ?_ | refine K_drwA false mixed hE fun K Kp hK hKp anc hanc => ?_); simp only [go_sem, e20, e21, e22, e23, q]) | ((first | refine onG_split_t (fun hg => ?_) (fun hg => ?_) | refine onG_split_f (fun hg => ?_) (fun hg => ?_)) <;> simp only [go_sem, e20, e21, e22, e23, q, hg]) | (refine K_condA (fun hc => ?_) (fun hc => ?_) <;> try (exact absurd hc (by decide))))
  exact K_ret (hQ _ (by first | (simp [resA, rvA, Tryd.f25, go_sem, updo]; done) | (simp [resA, rvA, Tryd.f25, go_sem, updo]; rfl)) (LxIn.sub (by repeat (first | exact LxIn.base _ _ | exact lx2_in _ _ _ _ | refine LxIn.up ?_ _ rfl)))).1
 have q : decide ((k : Int) > 0) = true := decide_eq_true (by omega)
 have v0 : IntKind.i64.wrap ((a : Int) + (k : Int)) = ((a + k : Nat) : Int) := by rw [wrap64 (by omega) (by omega)]; omega
 have v1 : min (((a + k : Nat) : Int)) (l.length : Int) = ((min (a + k) l.length : Nat) : Int) := by omega
 have v2 : IntKind.i64.wrap ((k : Int) - 1) = ((k - 1 : Nat) : Int) := by rw [wrap64 (by omega) (by omega)]; omega
 have hcut : (l.take (min (a + k) l.length)).drop a = (l.drop a).take k := by
  have : l.take (min (a + k) l.length) = l.take (a + k) := by
   rcases Nat.le_total (a + k) l.length with h | h
   ·rw [Nat.min_eq_left h]
   ·rw [Nat.min_eq_right h, List.take_of_length_le h, List.take_of_length_le (Nat.le_refl _)]
  rw [this, take_add]
 have hmf := hm (tx ((l.drop a).take k))
 rw [symF_tx] at hmf
 have b3 : min (a + k) l.length ≤ l.length := Nat.min_le_right ..
 have b4 : a ≤ min (a + k) l.length := by omega
 by_cases hin : (l.drop a).take k ∈ syms
 ·rw [if_pos hin] at hmf
  have hs : ∃ m, symL (l.drop a) = ⟨3, m, 0, 0⟩ ∧ (l.drop a).take m = (l.drop a).take k := by
   rcases (by omega : k = 1 ∨ k = 2) with rfl | rfl
   ·exact ⟨1, sym_hit1 (hk0 (by decide)) hin, rfl⟩
   ·exact sym_hit2 hin
  obtain ⟨m, hs, hsm⟩ := hs
  have hta : tkAt l a = ⟨3, (l.drop a).take k, 0, a⟩ := by unfold tkAt; rw [ht, hs, ← hsm]
  rw [hta, ht, hs, Tk.av_eq] at hQ
  repeat' (first | apply nx | refine Kq_exit_ne (by decide) ?_ | rw [wrap64 (by omega) (by omega)] | ((first | refine hK _ ?_ | refine hKp _ _ ?_); clear hK hKp K Kp; try clear hanc anc) | ((with_reducible refine And.intro ?_ ?_); (focus (first | trivial | omega | (simp only [Fits]; omega) | assumption | (rw [hanc]; rfl)))) | ((first | refine K_regA hE fun K Kp hK hKp => ?_ | refine K_drwA true mixed hE fun K Kp hK hKp anc hanc => ?_ | refine K_drwA false mixed hE fun K Kp hK hKp anc hanc => ?_); simp only [go_sem, e20, e21, e22, e23, q, v0, v1, v2, hcut, hmf, b3, b4]) | ((first | refine onG_split_t (fun hg => ?_) (fun hg => ?_) | refine onG_split_f (fun hg => ?_) (fun hg => ?_)) <;> simp only [go_sem, e20, e21, e22, e23, q, v0, v1, v2, hcut, hmf, b3, b4, hg]) | (refine K_condA (fun hc => ?_) (fun hc => ?_) <;> try (exact absurd hc (by decide))))
  exact K_ret (hQ _ (by first | (simp [resA, rvA, Tryd.f25, go_sem, updo]; done) | (simp [resA, rvA, Tryd.f25, go_sem, updo]; rfl)) (LxIn.sub (by repeat (first | exact LxIn.base _ _ | exact lx2_in _ _ _ _ | refine LxIn.up ?_ _ rfl)))).1
 ·rw [if_neg hin] at hmf
  repeat' (first | apply nx | refine Kq_exit_ne (by decide) ?_ | rw [wrap64 (by omega) (by omega)] | ((first | refine hK _ ?_ | refine hKp _ _ ?_); clear hK hKp K Kp; try clear hanc anc) | ((with_reducible refine And.intro ?_ ?_); (focus (first | trivial | omega | (simp only [Fits]; omega) | assumption | (rw [hanc]; rfl)))) | ((first | refine K_regA hE fun K Kp hK hKp => ?_ | refine K_drwA true mixed hE fun K Kp hK hKp anc hanc => ?_ | refine K_drwA false mixed hE fun K Kp hK hKp anc hanc => ?_); simp only [go_sem, e20, e21, e22, e23, q, v0, v1, v2, hcut, hmf, b3, b4]) | ((first | refine onG_split_t (fun hg => ?_) (fun hg => ?_) | refine onG_split_f (fun hg => ?_) (fun hg => ?_)) <;> simp only [go_sem, e20, e21, e22, e23, q, v0, v1, v2, hcut, hmf, b3, b4, hg]) | (refine K_condA (fun hc => ?_) (fun hc => ?_) <;> try (exact absurd hc (by decide))))
  refine ⟨k - 1, ⟨by omega, fun h => ?_, fun h => ?_⟩, by omega, mX 1000003, by
   rw [hN]
   exact ent_lx2 hes rfl rfl (by decide) (by decide) (by repeat (first | exact LxIn.base _ _ | exact lx2_in _ _ _ _ | refine LxIn.up ?_ _ rfl)) e22 e23 (by simp [go_sem, mX, AV.ids])⟩
  ·rcases (by omega : k = 1 ∨ k = 2) with rfl | rfl
   ·exact hk0 (by decide)
   ·exact hin
  ·obtain rfl : k = 1 := by omega
   exact hin
end Go.Proofs.YtihfjibkmhclfaaDoor
