/- A part of the proof: an abstract machine for the walks, and what the walked functions compute. -/
import Derived.Test.YtdheeecpkkjfiaaRows
import Derived.Test.YtdheeecpkkjfiaaCa
import Derived.Test.YtdheeecpkkjfiaaMg
set_option linter.unusedVariables false
set_option linter.unusedSimpArgs false
/- Chapter 10: the data. -/
namespace Go.Low
open Go Go.Am

inductive Ty where
  | mk (kind id : Int) (args : List Ty)

mutual
def Ty.av : Ty → AV
  | .mk k i l => .agg [.i k, .i i, .sl (Ty.avL l)]
def Ty.avL : List Ty → List AV
  | [] => []
  | t :: l => t.av :: Ty.avL l
end

structure Ins where
  op : Int
  dst : Int
  a : Int
  b : Int
  n : Int
  args : List Int
  types : List Ty

def Ins.av (x : Ins) : AV := .agg [.i x.op, .i x.dst, .i x.a, .i x.b, .i x.n, .sl (x.args.map AV.i), .sl (Ty.avL x.types)]

inductive Nd where
  | mk (kind a : Int) (ins : Ins) (thn els : List Nd) (arms : List (List Nd))

def Nd.kind : Nd → Int | .mk k _ _ _ _ _ => k
def Nd.a : Nd → Int | .mk _ a _ _ _ _ => a
def Nd.ins : Nd → Ins | .mk _ _ x _ _ _ => x
def Nd.thn : Nd → List Nd | .mk _ _ _ t _ _ => t
def Nd.els : Nd → List Nd | .mk _ _ _ _ e _ => e
def Nd.arms : Nd → List (List Nd) | .mk _ _ _ _ _ l => l

mutual
def Nd.av : Nd → AV
  | .mk k a x t e l => .agg [.i k, .i a, .i x.op, .i x.dst, .i x.a, .i x.b, .i x.n, .sl (x.args.map AV.i), .sl (Ty.avL x.types), .sl (Nd.avL t), .sl (Nd.avL e), .sl (Nd.avLL l)]
def Nd.avL : List Nd → List AV
  | [] => []
  | n :: l => n.av :: Nd.avL l
def Nd.avLL : List (List Nd) → List AV
  | [] => []
  | p :: l => .sl (Nd.avL p) :: Nd.avLL l
end

theorem Nd.av_eq (n : Nd) : n.av = .agg [.i n.kind, .i n.a, .i n.ins.op, .i n.ins.dst, .i n.ins.a, .i n.ins.b, .i n.ins.n, .sl (n.ins.args.map AV.i), .sl (Ty.avL n.ins.types), .sl (Nd.avL n.thn), .sl (Nd.avL n.els), .sl (Nd.avLL n.arms)] := by
  cases n; rw [Nd.av]; rfl

theorem Ty.avL_eq : ∀ l : List Ty, Ty.avL l = l.map Ty.av
  | [] => by rw [Ty.avL]; rfl
  | t :: l => by rw [Ty.avL, Ty.avL_eq l]; rfl
theorem Nd.avL_eq : ∀ l : List Nd, Nd.avL l = l.map Nd.av
  | [] => by rw [Nd.avL]; rfl
  | t :: l => by rw [Nd.avL, Nd.avL_eq l]; rfl
theorem Nd.avLL_eq : ∀ l : List (List Nd), Nd.avLL l = l.map fun p => .sl (Nd.avL p)
  | [] => by rw [Nd.avLL]; rfl
  | t :: l => by rw [Nd.avLL, Nd.avLL_eq l]; rfl

theorem Ty.av_clo (t : Ty) : t.av.clo = true := by cases t; rw [Ty.av]; rfl
theorem Ins.av_clo (x : Ins) : x.av.clo = true := rfl
theorem Nd.av_clo (n : Nd) : n.av.clo = true := by rw [Nd.av_eq]; rfl


mutual
def Ty.sz : Ty → Nat
  | .mk _ _ l => 1 + Ty.szL l
def Ty.szL : List Ty → Nat
  | [] => 0
  | t :: l => t.sz + Ty.szL l
end
def Ty.kind : Ty → Int | .mk k _ _ => k
def Ty.id : Ty → Int | .mk _ i _ => i
def Ty.args : Ty → List Ty | .mk _ _ l => l
theorem Ty.av_eq (t : Ty) : t.av = .agg [.i t.kind, .i t.id, .sl (Ty.avL t.args)] := by cases t; rw [Ty.av]; rfl
theorem Ty.sz_eq (t : Ty) : t.sz = 1 + Ty.szL t.args := by cases t; rw [Ty.sz]; rfl
theorem Ty.ext {a b : Ty} (h1 : a.kind = b.kind) (h2 : a.id = b.id) (h3 : a.args = b.args) : a = b := by cases a; cases b; simp_all [Ty.kind, Ty.id, Ty.args]
theorem Ty.ext_iff' {a b : Ty} : a = b ↔ a.kind = b.kind ∧ a.id = b.id ∧ a.args = b.args := ⟨by rintro rfl; exact ⟨rfl, rfl, rfl⟩, fun h => Ty.ext h.1 h.2.1 h.2.2⟩
theorem Ty.szL_eq : ∀ l : List Ty, Ty.szL l = (l.map Ty.sz).sum
  | [] => by rw [Ty.szL]; rfl
  | t :: l => by rw [Ty.szL, Ty.szL_eq l]; rfl
theorem Ty.sz_mem {t : Ty} : ∀ {l : List Ty}, t ∈ l → t.sz ≤ Ty.szL l
  | x :: l, h => by
    rw [Ty.szL]
    rcases List.mem_cons.1 h with e | e
    · subst e; omega
    · have := Ty.sz_mem e; omega
theorem Ty.len_le : ∀ l : List Ty, l.length ≤ Ty.szL l
  | [] => Nat.zero_le _
  | t :: l => by rw [Ty.szL, Ty.sz_eq]; have := Ty.len_le l; simp only [List.length_cons]; omega

def Ins.sz (x : Ins) : Nat := 1 + x.args.length + Ty.szL x.types

mutual
def Nd.sz : Nd → Nat
  | .mk _ _ x t e l => 1 + x.sz + Nd.szL t + Nd.szL e + Nd.szLL l
def Nd.szL : List Nd → Nat
  | [] => 0
  | n :: l => n.sz + Nd.szL l
def Nd.szLL : List (List Nd) → Nat
  | [] => 0
  | p :: l => 1 + Nd.szL p + Nd.szLL l
end
theorem Nd.sz_eq (n : Nd) : n.sz = 1 + n.ins.sz + Nd.szL n.thn + Nd.szL n.els + Nd.szLL n.arms := by cases n; rw [Nd.sz]; rfl
theorem Nd.szL_eq : ∀ l : List Nd, Nd.szL l = (l.map Nd.sz).sum
  | [] => by rw [Nd.szL]; rfl
  | t :: l => by rw [Nd.szL, Nd.szL_eq l]; rfl
theorem Nd.szLL_eq : ∀ l : List (List Nd), Nd.szLL l = (l.map fun p => 1 + Nd.szL p).sum
  | [] => by rw [Nd.szLL]; rfl
  | t :: l => by rw [Nd.szLL, Nd.szLL_eq l]; rfl
theorem Nd.sz_mem {t : Nd} : ∀ {l : List Nd}, t ∈ l → t.sz ≤ Nd.szL l
  | x :: l, h => by
    rw [Nd.szL]
    rcases List.mem_cons.1 h with e | e
    · subst e; omega
    · have := Nd.sz_mem e; omega
theorem Nd.szL_mem {t : List Nd} : ∀ {l : List (List Nd)}, t ∈ l → Nd.szL t < Nd.szLL l
  | x :: l, h => by
    rw [Nd.szLL]
    rcases List.mem_cons.1 h with e | e
    · subst e; omega
    · have := Nd.szL_mem e; omega
theorem Nd.len_le : ∀ l : List Nd, l.length ≤ Nd.szL l
  | [] => Nat.zero_le _
  | t :: l => by rw [Nd.szL, Nd.sz_eq]; have := Nd.len_le l; simp only [List.length_cons]; omega
theorem Nd.lenL_le : ∀ l : List (List Nd), l.length ≤ Nd.szLL l
  | [] => Nat.zero_le _
  | t :: l => by rw [Nd.szLL]; have := Nd.lenL_le l; simp only [List.length_cons]; omega

theorem Ty.avL_len (l : List Ty) : (Ty.avL l).length = l.length := by rw [Ty.avL_eq, List.length_map]
theorem Nd.avL_len (l : List Nd) : (Nd.avL l).length = l.length := by rw [Nd.avL_eq, List.length_map]
theorem Nd.avLL_len (l : List (List Nd)) : (Nd.avLL l).length = l.length := by rw [Nd.avLL_eq, List.length_map]
theorem Ty.avL_get (l : List Ty) (i : Nat) : (Ty.avL l)[i]? = l[i]?.map Ty.av := by rw [Ty.avL_eq, List.getElem?_map]
theorem Nd.avL_get (l : List Nd) (i : Nat) : (Nd.avL l)[i]? = l[i]?.map Nd.av := by rw [Nd.avL_eq, List.getElem?_map]
theorem Nd.avLL_get (l : List (List Nd)) (i : Nat) : (Nd.avLL l)[i]? = l[i]?.map fun p => AV.sl (Nd.avL p) := by rw [Nd.avLL_eq, List.getElem?_map]
attribute [go_sem] Ty.avL_len Nd.avL_len Nd.avLL_len Ty.avL_get Nd.avL_get Nd.avLL_get List.length_map List.getElem?_map Option.map_some
/-- The cells of a node. -/
def Nd.cs (n : Nd) : List AV := [.i n.kind, .i n.a, .i n.ins.op, .i n.ins.dst, .i n.ins.a, .i n.ins.b, .i n.ins.n, .sl (n.ins.args.map AV.i), .sl (Ty.avL n.ins.types), .sl (Nd.avL n.thn), .sl (Nd.avL n.els), .sl (Nd.avLL n.arms)]
theorem clo_LL (ps : List (List Nd)) : CloRow (Nd.avLL ps) := by
  intro x hx c hc
  rw [Nd.avLL_eq] at hx
  obtain ⟨p, _, rfl⟩ := List.mem_map.1 hx
  obtain rfl := List.mem_singleton.1 hc
  rfl
theorem Nd.cs_clo (n : Nd) : AV.cloL n.cs = true := rfl
theorem Nd.cs_ren (m : Nat → Nat) (n : Nd) : (AObj.cells n.cs).ren m = .cells n.cs := by simp only [AObj.ren, renL_clo m _ n.cs_clo]
theorem Nd.cs_ids (p : Nat → Prop) (n : Nd) : (AObj.cells n.cs).ids p := idsL_clo p _ n.cs_clo
theorem Nd.av_cs (n : Nd) : n.av = .agg n.cs := n.av_eq

end Go.Low

/- Chapter 10: the arguments of the laws as nodes. -/
set_option linter.unusedVariables false
namespace Go.Proofs.Ytdheeecpkkjfiaa
open Go.Am Go.Proofs Go.Low

variable {H : Type}

mutual
theorem bulk_eq : ∀ d : DataW H, Rows.uptoBulk d = bulk d
  | .lit (.string _) | .lit (.bool _) | .lit (.int _ _) | .lit (.float _ _) | .lit .nil => by simp [Rows.uptoBulk, bulk]
  | .nil => by simp [Rows.uptoBulk, bulk]
  | .ptr d => by simp [Rows.uptoBulk, bulk, bulk_eq d]
  | .slice l r => by simp [Rows.uptoBulk, bulk, bulkL_eq l, bulkL_eq r]
  | .agg l => by simp [Rows.uptoBulk, bulk, bulkL_eq l]
  | .iface _ d => by simp [Rows.uptoBulk, bulk, bulk_eq d]
  | .map l => by simp [Rows.uptoBulk, bulk, bulkE_eq l]
  | .held _ => by simp [Rows.uptoBulk, bulk]
theorem bulkL_eq : ∀ l : List (DataW H), Rows.uptoBulkAll l = bulkL l
  | [] => by simp [Rows.uptoBulkAll, bulkL]
  | d :: l => by simp [Rows.uptoBulkAll, bulkL, bulk_eq d, bulkL_eq l]
theorem bulkE_eq : ∀ l : List (Lit × DataW H), Rows.uptoBulkEntries l = bulkE l
  | [] => by simp [Rows.uptoBulkEntries, bulkE]
  | d :: l => by simp [Rows.uptoBulkEntries, bulkE, bulkP_eq d, bulkE_eq l]
theorem bulkP_eq : ∀ l : Lit × DataW H, Rows.uptoBulkEntry l = bulkP l
  | (.string _, d) | (.bool _, d) | (.int _ _, d) | (.float _ _, d) | (.nil, d) => by simp [Rows.uptoBulkEntry, bulkP, bulk_eq d]
end

theorem opn_int {d : DataW H} (h : DT Try.prog 3 d) : ∃ n : Int, avD d = AV.i n ∧ 1 ≤ bulk d := by
  obtain ⟨n, h1, _⟩ := h.int_inv Try.underlying3
  exact ⟨n, h1, bulk_pos d⟩

theorem opn_ints {d : DataW H} (h : DT Try.prog 40 d) : ∃ l : List Int, avD d = .sl (l.map AV.i) ∧ l.length + 1 ≤ bulk d := by
  obtain ⟨es, h1, h2, h3⟩ := h.slice_inv Try.underlying40
  obtain ⟨l, h4, h5, h6⟩ := list_open (p := fun _ => True) AV.i (fun _ => 1) es fun x hx => opn_int (h2 x hx)
  exact ⟨l, by rw [h1, h4], by rw [h6]; have := bulk_len es; omega⟩

theorem parts3 {p : List (DataW H)} (h : p.length = 3) : ∃ a b c, p = [a, b, c] := by
  match p, h with | [a, b, c], _ => exact ⟨a, b, c, rfl⟩
theorem parts2 {p : List (DataW H)} (h : p.length = 2) : ∃ a b, p = [a, b] := by
  match p, h with | [a, b], _ => exact ⟨a, b, rfl⟩
theorem parts6 {p : List (DataW H)} (h : p.length = 6) : ∃ a b c d e f, p = [a, b, c, d, e, f] := by
  match p, h with | [a, b, c, d, e, f], _ => exact ⟨a, b, c, d, e, f, rfl⟩
theorem parts7 {p : List (DataW H)} (h : p.length = 7) : ∃ a b c d e f g, p = [a, b, c, d, e, f, g] := by
  match p, h with | [a, b, c, d, e, f, g], _ => exact ⟨a, b, c, d, e, f, g, rfl⟩

theorem opn_ty : ∀ (n : Nat) (d : DataW H), bulk d < n → DT Try.prog 89 d → ∃ t : Ty, avD d = t.av ∧ t.sz ≤ bulk d
  | 0, d, hn, _ => absurd hn (Nat.not_lt_zero _)
  | n + 1, d, hn, h => by
    obtain ⟨p, h1, h2, h3, h4⟩ := h.struct_inv Try.underlying89
    obtain ⟨a, b, c, rfl⟩ := parts3 h2
    obtain ⟨k, ha, _⟩ := opn_int (h3 0 _ a rfl rfl)
    obtain ⟨i, hb, _⟩ := opn_int (h3 1 _ b rfl rfl)
    obtain ⟨es, g1, g2, g3⟩ := (h3 2 _ c rfl rfl).slice_inv Try.underlying22
    simp only [bulkL] at h4
    obtain ⟨l, h5, h6, h7⟩ := list_open (p := fun _ => True) Ty.av Ty.sz es fun x hx => opn_ty n x (by have := bulk_mem hx; omega) (g2 x hx)
    refine ⟨.mk k i l, ?_, ?_⟩
    · rw [h1]
      simp only [avDC, ha, hb, g1, h5, AV.cells, Ty.av, Ty.avL_eq]
      rfl
    · rw [Ty.sz, Ty.szL_eq]; have := bulk_pos a; omega

theorem opn_ins {d : DataW H} (h : DT Try.prog 42 d) : ∃ x : Ins, (avD d) = x.av ∧ x.sz ≤ bulk d := by
  obtain ⟨p, h1, h2, h3, h4⟩ := h.struct_inv Try.underlying42
  obtain ⟨a, b, c, e, f, g, k, rfl⟩ := parts7 h2
  obtain ⟨na, ha, _⟩ := opn_int (h3 0 _ a rfl rfl)
  obtain ⟨nb, hb, _⟩ := opn_int (h3 1 _ b rfl rfl)
  obtain ⟨nc, hc, _⟩ := opn_int (h3 2 _ c rfl rfl)
  obtain ⟨ne, he, _⟩ := opn_int (h3 3 _ e rfl rfl)
  obtain ⟨nf, hf, _⟩ := opn_int (h3 4 _ f rfl rfl)
  obtain ⟨l, hg, hgl⟩ := opn_ints (h3 5 _ g rfl rfl)
  obtain ⟨es, g1, g2, g3⟩ := (h3 6 _ k rfl rfl).slice_inv Try.underlying22
  obtain ⟨ts, h5, h6, h7⟩ := list_open (p := fun _ => True) Ty.av Ty.sz es fun x hx => opn_ty _ x (Nat.lt_succ_self _) (g2 x hx)
  simp only [bulkL] at h4
  refine ⟨⟨na, nb, nc, ne, nf, l, ts⟩, ?_, ?_⟩
  · rw [h1]
    simp only [avDC, ha, hb, hc, he, hf, hg, g1, h5, AV.cells, Ins.av, Ty.avL_eq]
    rfl
  · simp only [Ins.sz]; rw [Ty.szL_eq]; have := bulk_pos a; omega

theorem opn_nd : ∀ (n : Nat) (d : DataW H), bulk d < n → DT Try.prog 61 d → ∃ t : Nd, avD d = t.av ∧ t.sz ≤ bulk d
  | 0, d, hn, _ => absurd hn (Nat.not_lt_zero _)
  | n + 1, d, hn, h => by
    obtain ⟨p, h1, h2, h3, h4⟩ := h.struct_inv Try.underlying61
    obtain ⟨a, b, c, e, f, g, rfl⟩ := parts6 h2
    obtain ⟨k, ha, _⟩ := opn_int (h3 0 _ a rfl rfl)
    obtain ⟨i, hb, _⟩ := opn_int (h3 1 _ b rfl rfl)
    obtain ⟨x, hc, hcs⟩ := opn_ins (h3 2 _ c rfl rfl)
    obtain ⟨es, g1, g2, g3⟩ := (h3 3 _ e rfl rfl).slice_inv Try.underlying23
    obtain ⟨fs, f1, f2, f3⟩ := (h3 4 _ f rfl rfl).slice_inv Try.underlying23
    obtain ⟨ls, l1, l2, l3⟩ := (h3 5 _ g rfl rfl).slice_inv Try.underlying59
    simp only [bulkL] at h4
    have hpa := bulk_pos a
    obtain ⟨le, e5, e6, e7⟩ := list_open (p := fun _ => True) Nd.av Nd.sz es fun x hx => opn_nd n x (by have := bulk_mem hx; omega) (g2 x hx)
    obtain ⟨lf, f5, f6, f7⟩ := list_open (p := fun _ => True) Nd.av Nd.sz fs fun x hx => opn_nd n x (by have := bulk_mem hx; omega) (f2 x hx)
    obtain ⟨ll, l5, l6, l7⟩ := list_open (p := fun _ => True) (fun p : List Nd => .sl (Nd.avL p)) (fun p => 1 + Nd.szL p) ls fun x hx => by
      obtain ⟨ys, y1, y2, y3⟩ := (l2 x hx).slice_inv Try.underlying23
      have hb := bulk_mem hx
      obtain ⟨ly, y5, y6, y7⟩ := list_open (p := fun _ => True) Nd.av Nd.sz ys fun z hz => opn_nd n z (by have := bulk_mem hz; omega) (y2 z hz)
      exact ⟨ly, by rw [y1, y5, Nd.avL_eq], by rw [Nd.szL_eq]; omega⟩
    refine ⟨.mk k i x le lf ll, ?_, ?_⟩
    · rw [h1]
      simp only [avDC, ha, hb, hc, g1, f1, l1, e5, f5, l5, AV.cells, Nd.av, Nd.avL_eq, Nd.avLL_eq, Ins.av]
      rfl
    · rw [Nd.sz, Nd.szL_eq, Nd.szL_eq, Nd.szLL_eq]; omega

theorem opn_typed {d : DataW H} (h : DT Try.prog 25 d) : ∃ (ts : List Ty) (l : List Nd), avD d = .agg [.sl (Ty.avL ts), .sl (Nd.avL l)] ∧ Ty.szL ts ≤ bulk d ∧ Nd.szL l ≤ bulk d := by
  obtain ⟨p, h1, h2, h3, h4⟩ := h.struct_inv Try.underlying25
  obtain ⟨a, b, rfl⟩ := parts2 h2
  obtain ⟨es, g1, g2, g3⟩ := (h3 0 _ a rfl rfl).slice_inv Try.underlying22
  obtain ⟨fs, f1, f2, f3⟩ := (h3 1 _ b rfl rfl).slice_inv Try.underlying23
  simp only [bulkL] at h4
  obtain ⟨ts, e5, e6, e7⟩ := list_open (p := fun _ => True) Ty.av Ty.sz es fun x hx => opn_ty _ x (Nat.lt_succ_self _) (g2 x hx)
  obtain ⟨l, f5, f6, f7⟩ := list_open (p := fun _ => True) Nd.av Nd.sz fs fun x hx => opn_nd _ x (Nat.lt_succ_self _) (f2 x hx)
  refine ⟨ts, l, ?_, by rw [Ty.szL_eq]; omega, by rw [Nd.szL_eq]; omega⟩
  rw [h1]
  simp only [avDC, g1, f1, e5, f5, AV.cells, Nd.avL_eq, Ty.avL_eq]
  rfl

end Go.Proofs.Ytdheeecpkkjfiaa

/- Chapter 10: instructions as a row. -/
namespace Go.Low
open Go Go.Am
theorem ins_av_inj : ∀ a b : Ins, a.av = b.av → a = b := by
  have hi : ∀ a b : List Int, a.map AV.i = b.map AV.i → a = b := fun a b h => List.map_inj_right (f := AV.i) (by intro x y h; cases h; rfl) |>.1 h
  have ht : (∀ a b : Ty, a.av = b.av → a = b) := by
    intro a
    exact @Ty.rec (fun a => ∀ b : Ty, a.av = b.av → a = b) (fun l => ∀ m : List Ty, Ty.avL l = Ty.avL m → l = m)
      (fun k i l ih b h => by
        cases b with
        | mk k' i' l' =>
          rw [Ty.av, Ty.av] at h
          injection h with h
          injection h with h1 h
          injection h with h2 h
          injection h with h3 _
          injection h1 with _ h1
          injection h2 with _ h2
          injection h3 with h3
          rw [h1, h2, ih l' h3])
      (fun m h => by cases m with | nil => rfl | cons x m => rw [Ty.avL, Ty.avL] at h; cases h)
      (fun t l iht ihl m h => by
        cases m with
        | nil => rw [Ty.avL, Ty.avL] at h; cases h
        | cons x m =>
          rw [Ty.avL, Ty.avL] at h
          injection h with h1 h2
          rw [iht x h1, ihl m h2]) a
  have htL : ∀ a b : List Ty, Ty.avL a = Ty.avL b → a = b := by
    intro a b h
    rw [Ty.avL_eq, Ty.avL_eq] at h
    exact List.map_inj_right (f := Ty.av) (fun x y => ht x y) |>.1 h
  intro a b h
  obtain ⟨a1, a2, a3, a4, a5, a6, a7⟩ := a
  obtain ⟨b1, b2, b3, b4, b5, b6, b7⟩ := b
  unfold Ins.av at h
  injection h with h
  injection h with h1 h
  injection h with h2 h
  injection h with h3 h
  injection h with h4 h
  injection h with h5 h
  injection h with h6 h
  injection h with h7 h
  injection h1 with _ h1
  injection h2 with _ h2
  injection h3 with _ h3
  injection h4 with _ h4
  injection h5 with _ h5
  injection h6 with h6
  injection h7 with h7
  simp only at h1 h2 h3 h4 h5 h6 h7
  rw [h1, h2, h3, h4, h5, hi _ _ h6, htL _ _ h7]

end Go.Low
namespace Go.Proofs.Ytdheeecpkkjfiaa
open Go.Am Go.Proofs Go.Low

def insl (l : List Ins) : List AV := l.map Ins.av
end Go.Proofs.Ytdheeecpkkjfiaa
