/- A part of the proof: an abstract machine for the walks, and what the walked functions compute. -/
import Derived.WalkKit
set_option linter.unusedVariables false
set_option linter.unusedSimpArgs false
/- The abstract machine: abstract values, their relation to the model's values, and the relation of abstract states to frames and worlds; what keeps these relations. -/
namespace Go.Am

/-- Where an abstract object lies: its block; of a row of a slice also length and capacity. -/
structure Ref where
  blk : Nat
  len : Nat := 0
  cap : Nat := 0
  nil : Bool := false

/-- It lies in a block. -/
def Ref.at (r : Ref) (b : Nat) : Prop := r.nil = false ∧ r.blk = b

/-- The slice that it is. -/
def Ref.slice (r : Ref) : Value := if r.nil then .slice none 0 0 else .slice (some ⟨r.blk, 0, none⟩) r.len r.cap

inductive AV where
  | bool (b : Bool)
  | int (k : IntKind) (n : Int)
  | str (s : ByteArray)
  | nilp
  | ptr (id off : Nat)
  | eptr (e : AV) (off : Nat)
  | rptr (id sz i off : Nat)
  | nilsl
  | sl (l : List AV)
  | rw (id : Nat)
  | nilmap
  | mp (id : Nat)
  | nilfn
  | fn (f : Fn) (first cap : List AV)
  | nilif
  | iface (t : TypeId) (v : AV)
  | agg (l : List AV)
  | tup (l : List AV)
  deriving Inhabited

abbrev AV.i (n : Int) : AV := .int .i64 n

def AV.cells : AV → List AV
  | .agg l => l
  | a => [a]

def AV.one : AV → Bool
  | .agg _ | .tup _ => false
  | _ => true

mutual
/-- It names no object. -/
def AV.clo : AV → Bool
  | .ptr _ _ | .rptr _ _ _ _ | .rw _ | .mp _ => false
  | .fn _ a b => AV.cloL a && AV.cloL b
  | .iface _ v => AV.clo v
  | .agg l => AV.cloL l
  | .tup l => AV.cloL l
  | _ => true
def AV.cloL : List AV → Bool
  | [] => true
  | a :: l => AV.clo a && AV.cloL l
end

mutual
/-- Its objects under other numbers. -/
def AV.ren (m : Nat → Nat) : AV → AV
  | .ptr id o => .ptr (m id) o
  | .rptr id sz i o => .rptr (m id) sz i o
  | .rw id => .rw (m id)
  | .mp id => .mp (m id)
  | .fn f a b => .fn f (AV.renL m a) (AV.renL m b)
  | .iface t v => .iface t (AV.ren m v)
  | .agg l => .agg (AV.renL m l)
  | .tup l => .tup (AV.renL m l)
  | .bool b => .bool b
  | .int k n => .int k n
  | .str s => .str s
  | .nilp => .nilp
  | .eptr e o => .eptr e o
  | .nilsl => .nilsl
  | .sl l => .sl l
  | .nilmap => .nilmap
  | .nilfn => .nilfn
  | .nilif => .nilif
def AV.renL (m : Nat → Nat) : List AV → List AV
  | [] => []
  | a :: l => AV.ren m a :: AV.renL m l
end

mutual
/-- All objects that it names have a number with some property. -/
def AV.ids (p : Nat → Prop) : AV → Prop
  | .ptr id _ | .rptr id _ _ _ | .rw id | .mp id => p id
  | .fn _ a b => AV.idsL p a ∧ AV.idsL p b
  | .iface _ v => AV.ids p v
  | .agg l => AV.idsL p l
  | .tup l => AV.idsL p l
  | _ => True
def AV.idsL (p : Nat → Prop) : List AV → Prop
  | [] => True
  | a :: l => AV.ids p a ∧ AV.idsL p l
end

inductive AObj where
  | cells (l : List AV)
  | row (sz : Nat) (l : List AV)
  | map (es : List (AV × AV))

/-- The relation of a value in a world to an abstract value. -/
inductive Rel (ρ : Nat → Ref) (V : Nat → Prop) (Z : Nat → Nat → Prop) (w : World) : Value → AV → Prop
  | bool (b : Bool) : Rel ρ V Z w (.bool b) (.bool b)
  | int (k : IntKind) (n : Int) : Rel ρ V Z w (.int k n) (.int k n)
  | str (s : ByteArray) : Rel ρ V Z w (.string s) (.str s)
  | nilp : Rel ρ V Z w (.pointer none) .nilp
  | ptr (id off : Nat) : V id → Rel ρ V Z w (.pointer (some ⟨(ρ id).blk, off, none⟩)) (.ptr id off)
  | eptr (b o : Nat) (e : AV) (off : Nat) (cs : Nat → Value) :
      (∀ j, j < e.cells.length → w.cell? ⟨b, o + j, none⟩ = some (cs j) ∧ Z b (o + j) ∧ (e.cells.getD j default).one = true ∧ (e.cells.getD j default).clo = true) →
      (∀ j, j < e.cells.length → Rel ρ V Z w (cs j) (e.cells.getD j default)) →
      Rel ρ V Z w (.pointer (some ⟨b, o + off, none⟩)) (.eptr e off)
  | rptr (id sz i off : Nat) : V id → Rel ρ V Z w (.pointer (some ⟨(ρ id).blk, i * sz + off, none⟩)) (.rptr id sz i off)
  | nilsl : Rel ρ V Z w (.slice none 0 0) .nilsl
  | sl0 (a : Option Addr) (cap : Nat) : Rel ρ V Z w (.slice a 0 cap) (.sl [])
  | sl (b o cap sz : Nat) (l : List AV) (cs : Nat → Nat → Value) : l.length ≤ cap →
      (∀ i, i < l.length → (l.getD i default).cells.length = sz) →
      (∀ i j, i < l.length → j < sz → w.cell? ⟨b, o + i * sz + j, none⟩ = some (cs i j) ∧ Z b (o + i * sz + j) ∧ ((l.getD i default).cells.getD j default).one = true ∧ ((l.getD i default).cells.getD j default).clo = true) →
      (∀ i j, i < l.length → j < sz → Rel ρ V Z w (cs i j) ((l.getD i default).cells.getD j default)) →
      Rel ρ V Z w (.slice (some ⟨b, o, none⟩) l.length cap) (.sl l)
  | rw (id : Nat) : V id → Rel ρ V Z w (ρ id).slice (.rw id)
  | nilmap : Rel ρ V Z w (.map none) .nilmap
  | mp (id : Nat) : V id → Rel ρ V Z w (.map (some (ρ id).blk)) (.mp id)
  | nilfn : Rel ρ V Z w .nilFunc .nilfn
  | fn (f : Fn) (fs cs : Array Value) (fa ca : List AV) : fs.size = fa.length → cs.size = ca.length →
      (∀ i, i < fa.length → Rel ρ V Z w (fs.getD i undef) (fa.getD i default)) →
      (∀ i, i < ca.length → Rel ρ V Z w (cs.getD i undef) (ca.getD i default)) →
      Rel ρ V Z w (.func f fs cs) (.fn f fa ca)
  | nilif : Rel ρ V Z w .nilIface .nilif
  | iface (t : TypeId) (v : Value) (a : AV) : Rel ρ V Z w v a → Rel ρ V Z w (.iface t v) (.iface t a)
  | agg (cs : Array Value) (l : List AV) : cs.size = l.length → (∀ i, i < l.length → (l.getD i default).one = true) →
      (∀ i, i < l.length → Rel ρ V Z w (cs.getD i undef) (l.getD i default)) → Rel ρ V Z w (.agg cs) (.agg l)
  | tup (cs : Array Value) (l : List AV) : cs.size = l.length →
      (∀ i, i < l.length → Rel ρ V Z w (cs.getD i undef) (l.getD i default)) → Rel ρ V Z w (.tuple cs) (.tup l)

theorem Rel.mono {ρ ρ' : Nat → Ref} {V V' : Nat → Prop} {Z Z' : Nat → Nat → Prop} {w w' : World} {v : Value} {a : AV}
    (h : Rel ρ V Z w v a) (hρ : ∀ id, V id → ρ' id = ρ id) (hV : ∀ id, V id → V' id) (hZ : ∀ b o, Z b o → Z' b o)
    (hw : ∀ b o, Z b o → w'.cell? ⟨b, o, none⟩ = w.cell? ⟨b, o, none⟩) : Rel ρ' V' Z' w' v a := by
  induction h with
  | bool b => exact .bool b
  | int k n => exact .int k n
  | str s => exact .str s
  | nilp => exact .nilp
  | ptr id off hv => rw [← hρ id hv]; exact .ptr id off (hV _ hv)
  | eptr b o e off cs h1 h2 ih => exact .eptr b o e off cs (fun j hj => ⟨by rw [hw _ _ (h1 j hj).2.1]; exact (h1 j hj).1, hZ _ _ (h1 j hj).2.1, (h1 j hj).2.2⟩) ih
  | rptr id sz i off hv => rw [← hρ id hv]; exact .rptr id sz i off (hV _ hv)
  | nilsl => exact .nilsl
  | sl0 a cap => exact .sl0 a cap
  | sl b o cap sz l cs h0 h1 h2 h3 ih =>
    exact .sl b o cap sz l cs h0 h1 (fun i j hi hj => ⟨by rw [hw _ _ (h2 i j hi hj).2.1]; exact (h2 i j hi hj).1, hZ _ _ (h2 i j hi hj).2.1, (h2 i j hi hj).2.2⟩) ih
  | rw id hv => rw [← hρ id hv]; exact .rw id (hV _ hv)
  | nilmap => exact .nilmap
  | mp id hv => rw [← hρ id hv]; exact .mp id (hV _ hv)
  | nilfn => exact .nilfn
  | fn f fs cs fa ca h1 h2 _ _ ih1 ih2 => exact .fn f fs cs fa ca h1 h2 ih1 ih2
  | nilif => exact .nilif
  | iface t v a _ ih => exact .iface t v a ih
  | agg cs l h1 h2 _ ih => exact .agg cs l h1 h2 ih
  | tup cs l h1 _ ih => exact .tup cs l h1 ih

/-- The relation of a block to an abstract object. -/
def ObjRel (ρ : Nat → Ref) (V : Nat → Prop) (Z : Nat → Nat → Prop) (w : World) (id : Nat) : AObj → Prop
  | .cells l => (ρ id).nil = false ∧ ∃ cs ty, w.heap[(ρ id).blk]? = some (.cells cs ty (0, 0)) ∧ cs.size = l.length ∧
      ∀ i, i < l.length → (l.getD i default).one = true ∧ Rel ρ V Z w (cs.getD i undef) (l.getD i default)
  | .row sz l => ((ρ id).nil = true ∧ l = []) ∨ ((ρ id).nil = false ∧ ∃ cs ty, w.heap[(ρ id).blk]? = some (.cells cs ty (0, 0)) ∧ (ρ id).len = l.length ∧ l.length ≤ (ρ id).cap ∧ cs.size = (ρ id).cap * sz ∧
      (∀ i, i < l.length → (l.getD i default).cells.length = sz) ∧
      ∀ i j, i < l.length → j < sz → ((l.getD i default).cells.getD j default).one = true ∧ Rel ρ V Z w (cs.getD (i * sz + j) undef) ((l.getD i default).cells.getD j default))
  | .map es => (ρ id).nil = false ∧ ∃ ents clock, w.heap[(ρ id).blk]? = some (.map ents clock) ∧ ents.size = es.length ∧
      ∀ i, i < es.length → Rel ρ V Z w ((ents.map (·.key)).getD i undef) (es.getD i default).1 ∧ Rel ρ V Z w ((ents.map (·.val)).getD i undef) (es.getD i default).2

theorem ObjRel.mono {ρ ρ' : Nat → Ref} {V V' : Nat → Prop} {Z Z' : Nat → Nat → Prop} {w w' : World} {id : Nat} {o : AObj}
    (h : ObjRel ρ V Z w id o) (hid : V id) (hρ : ∀ id, V id → ρ' id = ρ id) (hV : ∀ id, V id → V' id) (hZ : ∀ b o, Z b o → Z' b o)
    (hw : ∀ b o, Z b o → w'.cell? ⟨b, o, none⟩ = w.cell? ⟨b, o, none⟩) (hb : ∀ b, (ρ id).at b → w'.heap[b]? = w.heap[b]?) : ObjRel ρ' V' Z' w' id o := by
  cases o with
  | cells l =>
    obtain ⟨h0, cs, ty, h1, h2, h3⟩ := h
    exact ⟨by rw [hρ id hid]; exact h0, cs, ty, by rw [hρ id hid, hb _ ⟨h0, rfl⟩]; exact h1, h2, fun i hi => ⟨(h3 i hi).1, (h3 i hi).2.mono hρ hV hZ hw⟩⟩
  | row sz l =>
    rcases h with ⟨h0, hl⟩ | ⟨h0, cs, ty, h1, h2, h3, h4, h5, h6⟩
    · exact .inl ⟨by rw [hρ id hid]; exact h0, hl⟩
    · exact .inr ⟨by rw [hρ id hid]; exact h0, cs, ty, by rw [hρ id hid, hb _ ⟨h0, rfl⟩]; exact h1, by rw [hρ id hid]; exact h2, by rw [hρ id hid]; exact h3, by rw [hρ id hid]; exact h4, h5, fun i j hi hj => ⟨(h6 i j hi hj).1, (h6 i j hi hj).2.mono hρ hV hZ hw⟩⟩
  | map es =>
    obtain ⟨h0, ents, clock, h1, h2, h3⟩ := h
    exact ⟨by rw [hρ id hid]; exact h0, ents, clock, by rw [hρ id hid, hb _ ⟨h0, rfl⟩]; exact h1, h2, fun i hi => ⟨(h3 i hi).1.mono hρ hV hZ hw, (h3 i hi).2.mono hρ hV hZ hw⟩⟩

theorem ObjRel.lt {ρ : Nat → Ref} {V : Nat → Prop} {Z : Nat → Nat → Prop} {w : World} {id : Nat} {o : AObj} (h : ObjRel ρ V Z w id o) : ∀ b, (ρ id).at b → b < w.heap.size := by
  intro b hb
  have key : ∀ x, w.heap[(ρ id).blk]? = some x → b < w.heap.size := by
    intro x hx
    rw [hb.2] at hx
    rcases Nat.lt_or_ge b w.heap.size with h | h
    · exact h
    · rw [Array.getElem?_eq_none h] at hx; cases hx
  cases o with
  | cells l => obtain ⟨_, cs, ty, h1, _⟩ := h; exact key _ h1
  | row sz l =>
    rcases h with ⟨h0, _⟩ | ⟨_, cs, ty, h1, _⟩
    · rw [hb.1] at h0; cases h0
    · exact key _ h1
  | map es => obtain ⟨_, cs, ty, h1, _⟩ := h; exact key _ h1

/-- An abstract state: what is known of the slots, and the objects that are known and owned. -/
structure St where
  fr : Nat → Option AV
  hp : Nat → Option AObj
  nx : Nat

/-- What stays fixed while a body runs: the number of slots, the deferred calls, the world at its start, which old blocks it may change, the objects whose numbers stay. -/
structure En where
  nt : Nat
  D : List Deferred
  w0 : World
  own : Nat → Prop
  Z0 : Nat → Nat → Prop
  np : Nat
  r0 : Nat → Ref

/-- What is known of memory. -/
structure HSat (ρ : Nat → Ref) (V : Nat → Prop) (Z : Nat → Nat → Prop) (w : World) (hp : Nat → Option AObj) : Prop where
  obj : ∀ id o, hp id = some o → V id ∧ ObjRel ρ V Z w id o
  inj : ∀ id id' o o' b, hp id = some o → hp id' = some o' → (ρ id).at b → (ρ id').at b → id = id'
  sep : ∀ id o b, hp id = some o → (ρ id).at b → ∀ off, ¬ Z b off
  lt : ∀ b off, Z b off → b < w.heap.size

/-- A block that is new since the start, or may change, is not frozen. -/
def Fresh (w0 w : World) (own : Nat → Prop) : Prop := ∀ b, w0.heap.size ≤ b ∨ own b → ∀ c t f, w.heap[b]? = some (.cells c t f) → f = (0, 0)

/-- The world has kept what it held, but for the blocks that may change. -/
structure Ext (w0 w : World) (own : Nat → Prop) : Prop where
  old : ∀ b, b < w0.heap.size → ¬ own b → w.heap[b]? = w0.heap[b]?
  le : w0.heap.size ≤ w.heap.size
  os : w.os = w0.os
  out : w.output = w0.output
  fresh : Fresh w0 w own

structure Sat (E : En) (ρ : Nat → Ref) (V : Nat → Prop) (Z : Nat → Nat → Prop) (σ : St) (a : Act) (w : World) : Prop where
  nt : a.tmps.size = E.nt
  df : a.defers = E.D
  fr : ∀ t x, σ.fr t = some x → Rel ρ V Z w (a.tmps.getD t undef) x
  hs : HSat ρ V Z w σ.hp
  ext : Ext E.w0 w E.own
  ownd : ∀ id o b, σ.hp id = some o → (ρ id).at b → b < E.w0.heap.size → E.own b
  z0 : ∀ b o, E.Z0 b o → Z b o
  zn : ∀ b o, Z b o → E.Z0 b o ∨ E.w0.heap.size ≤ b ∨ E.own b
  pn : ∀ id, id < E.np → V id ∧ ρ id = E.r0 id

def upd (f : Nat → Option AV) (d : Nat) (x : AV) : Nat → Option AV := fun t => if t = d then some x else f t
def updo (f : Nat → Option AObj) (d : Nat) (x : Option AObj) : Nat → Option AObj := fun t => if t = d then x else f t

theorem upd_comm (f : Nat → Option AV) {a b : Nat} (x y : AV) (h : a ≠ b) : upd (upd f a x) b y = upd (upd f b y) a x := by
  funext t
  by_cases h1 : t = a
  · subst h1; simp [upd, h]
  · by_cases h2 : t = b
    · subst h2; simp [upd, h1]
    · simp [upd, h1, h2]

def St.put (σ : St) (d : Option Nat) (x : AV) : St :=
  match d with
  | some d => { σ with fr := upd σ.fr d x }
  | none => σ

theorem St.put_hp (σ : St) (d : Option Nat) (x : AV) : (σ.put d x).hp = σ.hp := by cases d <;> rfl
theorem St.put_nx (σ : St) (d : Option Nat) (x : AV) : (σ.put d x).nx = σ.nx := by cases d <;> rfl

end Go.Am

/- The abstract machine: one step keeps the relation of abstract states to frames and worlds. -/
namespace Go.Am

theorem cell?_of_heap {w w' : World} {b o : Nat} (h : w'.heap[b]? = w.heap[b]?) : w'.cell? ⟨b, o, none⟩ = w.cell? ⟨b, o, none⟩ := by
  simp only [World.cell?, h]

theorem putD (a : Act) (d : Option Tmp) (v : Value) : (a.put d v).defers = a.defers := by cases d <;> rfl
theorem putS (a : Act) (d : Option Tmp) (v : Value) : (a.put d v).tmps.size = a.tmps.size := by cases d <;> simp [Act.put]

theorem put_fr {σ : St} {a : Act} {R : Value → AV → Prop} (h : ∀ t x, σ.fr t = some x → R (a.tmps.getD t undef) x)
    {d : Option Tmp} {v : Value} {x : AV} (hv : R v x) (hd : ∀ n, d = some n → n < a.tmps.size) :
    ∀ t y, (σ.put d x).fr t = some y → R ((a.put d v).tmps.getD t undef) y := by
  intro t y hy
  cases d with
  | none => exact h t y hy
  | some n =>
    simp only [St.put, upd] at hy
    by_cases e : t = n
    · subst e
      simp at hy
      subst hy
      have := hd t rfl
      simpa [Act.put, Array.getD, this] using hv
    · simp only [if_neg e] at hy
      have := h t y hy
      have e2 : (a.put (some n) v).tmps.getD t undef = a.tmps.getD t undef := by
        simp [Act.put, Array.getD_eq_getD_getElem?, Array.getElem?_setIfInBounds_ne (Ne.symm e)]
      rw [e2]; exact this

theorem Sat.step {E : En} {ρ ρ' : Nat → Ref} {V V' : Nat → Prop} {Z Z' : Nat → Nat → Prop} {σ : St} {a : Act} {w w' : World} {hp' : Nat → Option AObj}
    (h : Sat E ρ V Z σ a w) {d : Option Tmp} {v : Value} {x : AV} (B : Nat → Prop)
    (hd : ∀ n, d = some n → n < E.nt)
    (hρ : ∀ id, V id → ρ' id = ρ id) (hV : ∀ id, V id → V' id) (hZ : ∀ b o, Z b o → Z' b o)
    (hB : ∀ b, B b → ∃ id o, σ.hp id = some o ∧ (ρ id).at b)
    (hc : ∀ b, b < w.heap.size → ¬ B b → w'.heap[b]? = w.heap[b]?) (hle : w.heap.size ≤ w'.heap.size) (hos : w'.os = w.os) (hout : w'.output = w.output)
    (hfz : ∀ b, w.heap.size ≤ b ∨ B b → ∀ c t f, w'.heap[b]? = some (.cells c t f) → f = (0, 0))
    (hsub : ∀ id o, hp' id = some o → (σ.hp id = some o ∧ ∀ b, (ρ id).at b → ¬ B b) ∨
      (V' id ∧ ObjRel ρ' V' Z' w' id o ∧ (∀ b, (ρ' id).at b → (B b ∨ w.heap.size ≤ b) ∧ ∀ off, ¬ Z' b off)))
    (hinj : ∀ id id' o o' b, hp' id = some o → hp' id' = some o' → (ρ' id).at b → (ρ' id').at b → (B b ∨ w.heap.size ≤ b) → id = id')
    (hZn : ∀ b o, Z' b o → Z b o ∨ ((B b ∨ w.heap.size ≤ b) ∧ b < w'.heap.size))
    (hval : Rel ρ' V' Z' w' v x) : Sat E ρ' V' Z' (({ σ with hp := hp' } : St).put d x) (a.put d v) w' := by
  have hBsep : ∀ b, B b → ∀ off, ¬ Z b off := by
    intro b hb off hz
    obtain ⟨id, o, h1, h2⟩ := hB b hb
    exact h.hs.sep id o b h1 h2 off hz
  have hcell : ∀ b o, Z b o → w'.cell? ⟨b, o, none⟩ = w.cell? ⟨b, o, none⟩ := by
    intro b o hz
    exact cell?_of_heap (hc b (h.hs.lt b o hz) (fun hb => hBsep b hb o hz))
  have hBown : ∀ b, B b → b < E.w0.heap.size → E.own b := by
    intro b hb hlt
    obtain ⟨id, o, h1, h2⟩ := hB b hb
    exact h.ownd id o b h1 h2 hlt
  have hkept : ∀ id o, σ.hp id = some o → (∀ b, (ρ id).at b → ¬ B b) → ObjRel ρ' V' Z' w' id o ∧ ∀ b, (ρ id).at b → b < w.heap.size := by
    intro id o h1 h2
    have h3 := h.hs.obj id o h1
    have h4 := h3.2.lt
    exact ⟨h3.2.mono h3.1 hρ hV hZ hcell (fun b hb => hc _ (h4 b hb) (h2 b hb)), h4⟩
  refine ⟨?_, ?_, ?_, ⟨?_, ?_, ?_, ?_⟩, ⟨?_, ?_, ?_, ?_, ?_⟩, ?_, ?_, ?_, ?_⟩
  · rw [putS]; exact h.nt
  · rw [putD]; exact h.df
  · exact put_fr (σ := { σ with hp := hp' }) (fun t y hy => (h.fr t y hy).mono hρ hV hZ hcell) hval (fun n hn => by rw [h.nt]; exact hd n hn)
  · intro id o ho
    rw [St.put_hp] at ho
    rcases hsub id o ho with ⟨h1, h2⟩ | ⟨h1, h2, _⟩
    · exact ⟨hV _ (h.hs.obj id o h1).1, (hkept id o h1 h2).1⟩
    · exact ⟨h1, h2⟩
  · intro id id' o o' b ho ho' hb hb'
    rw [St.put_hp] at ho ho'
    rcases hsub id o ho with ⟨h1, h2⟩ | ⟨h1, h2, h3⟩
    · rcases hsub id' o' ho' with ⟨h1', h2'⟩ | ⟨h1', h2', h3'⟩
      · rw [hρ _ (h.hs.obj id o h1).1] at hb
        rw [hρ _ (h.hs.obj id' o' h1').1] at hb'
        exact h.hs.inj id id' o o' b h1 h1' hb hb'
      · exact hinj id id' o o' b ho ho' hb hb' (h3' b hb').1
    · exact hinj id id' o o' b ho ho' hb hb' (h3 b hb).1
  · intro id o b ho hb off hz
    rw [St.put_hp] at ho
    rcases hsub id o ho with ⟨h1, h2⟩ | ⟨h1, h2, h3⟩
    · rw [hρ _ (h.hs.obj id o h1).1] at hb
      rcases hZn _ _ hz with h5 | ⟨h5 | h5, _⟩
      · exact h.hs.sep id o b h1 hb off h5
      · exact h2 b hb h5
      · exact absurd ((hkept id o h1 h2).2 b hb) (Nat.not_lt.2 h5)
    · exact (h3 b hb).2 off hz
  · intro b o hz
    rcases hZn b o hz with h5 | ⟨_, h5⟩
    · exact Nat.lt_of_lt_of_le (h.hs.lt b o h5) hle
    · exact h5
  · intro b hb hno
    have hb' : b < w.heap.size := Nat.lt_of_lt_of_le hb h.ext.le
    rw [hc b hb' (fun hB' => hno (hBown b hB' hb))]
    exact h.ext.old b hb hno
  · exact Nat.le_trans h.ext.le hle
  · exact hos.trans h.ext.os
  · exact hout.trans h.ext.out
  · intro b hb c t f hcf
    by_cases h1 : w.heap.size ≤ b ∨ B b
    · exact hfz b h1 c t f hcf
    · have hb1 : b < w.heap.size := Nat.lt_of_not_le fun h2 => h1 (.inl h2)
      rw [hc b hb1 (fun h2 => h1 (.inr h2))] at hcf
      exact h.ext.fresh b hb c t f hcf
  · intro id o b ho hb hlt
    rw [St.put_hp] at ho
    rcases hsub id o ho with ⟨h1, h2⟩ | ⟨h1, h2, h3⟩
    · rw [hρ _ (h.hs.obj id o h1).1] at hb
      exact h.ownd id o b h1 hb hlt
    · rcases (h3 b hb).1 with h4 | h4
      · exact hBown _ h4 hlt
      · exact absurd hlt (Nat.not_lt.2 (Nat.le_trans h.ext.le h4))
  · intro b o hz; exact hZ _ _ (h.z0 b o hz)
  · intro b o hz
    rcases hZn b o hz with h5 | ⟨h5 | h5, _⟩
    · exact h.zn b o h5
    · rcases Nat.lt_or_ge b E.w0.heap.size with h6 | h6
      · exact .inr (.inr (hBown b h5 h6))
      · exact .inr (.inl h6)
    · exact .inr (.inl (Nat.le_trans h.ext.le h5))
  · intro id hid
    exact ⟨hV _ (h.pn id hid).1, (hρ _ (h.pn id hid).1).trans (h.pn id hid).2⟩

/-- A step that leaves memory alone. -/
theorem Sat.val {E : En} {ρ : Nat → Ref} {V : Nat → Prop} {Z : Nat → Nat → Prop} {σ : St} {a : Act} {w w' : World} (h : Sat E ρ V Z σ a w)
    {d : Option Tmp} {v : Value} {x : AV} (hd : ∀ n, d = some n → n < E.nt) (hh : w'.heap = w.heap) (hos : w'.os = w.os) (hout : w'.output = w.output)
    (hval : Rel ρ V Z w v x) : Sat E ρ V Z (σ.put d x) (a.put d v) w' := by
  refine h.step (hp' := σ.hp) (fun _ => False) hd (fun _ _ => rfl) (fun _ h => h) (fun _ _ h => h) (fun _ h => h.elim) (fun b _ _ => by rw [hh]) (by rw [hh]; exact Nat.le_refl _) hos hout ?_ ?_ ?_ ?_ ?_
  · intro b hb c t f hcf
    rcases hb with hb | hb
    · rw [hh, Array.getElem?_eq_none hb] at hcf; cases hcf
    · exact hb.elim
  · intro id o ho; exact .inl ⟨ho, fun _ _ h => h⟩
  · intro id id' o o' b ho ho' hb hb' _
    exact h.hs.inj id id' o o' b ho ho' hb hb'
  · intro b o hz; exact .inl hz
  · exact hval.mono (fun _ _ => rfl) (fun _ h => h) (fun _ _ h => h) (fun b o _ => cell?_of_heap (by rw [hh]))

theorem Sat.drew {E : En} {ρ : Nat → Ref} {V : Nat → Prop} {Z : Nat → Nat → Prop} {σ : St} {a : Act} {w w' : World} (h : Sat E ρ V Z σ a w)
    (hh : w'.heap = w.heap) (hos : w'.os = w.os) (hout : w'.output = w.output) : Sat E ρ V Z σ a w' := by
  have := h.val (d := none) (v := .bool true) (x := .bool true) (fun _ h => by cases h) hh hos hout (.bool _)
  exact this

/-- An object that is made. -/
theorem Sat.alloc {E : En} {ρ : Nat → Ref} {V : Nat → Prop} {Z : Nat → Nat → Prop} {σ : St} {a : Act} {w : World} (h : Sat E ρ V Z σ a w)
    {d : Option Tmp} {v : Value} {x : AV} (hd : ∀ n, d = some n → n < E.nt) {id : Nat} {ob : Obj} {o : AObj} (r : Ref) (hr : r.blk = w.heap.size) (hid : ¬ V id)
    (hob : ∀ c t f, ob = .cells c t f → f = (0, 0))
    (hobj : ObjRel (fun i => if i = id then r else ρ i) (fun i => V i ∨ i = id) Z { w with heap := w.heap.push ob } id o)
    (hval : Rel (fun i => if i = id then r else ρ i) (fun i => V i ∨ i = id) Z { w with heap := w.heap.push ob } v x) :
    Sat E (fun i => if i = id then r else ρ i) (fun i => V i ∨ i = id) Z (({ σ with hp := updo σ.hp id (some o) } : St).put d x) (a.put d v) { w with heap := w.heap.push ob } := by
  have hne : ∀ i, V i → i ≠ id := fun i hi e => hid (e ▸ hi)
  refine h.step (fun _ => False) hd (fun i hi => if_neg (hne i hi)) (fun _ h => .inl h) (fun _ _ h => h) (fun _ h => h.elim) ?_ (by simp) rfl rfl ?_ ?_ ?_ ?_ hval
  · intro b hb _
    show (w.heap.push ob)[b]? = _
    rw [Array.getElem?_push, if_neg (by omega)]
  · intro b hb c t f hcf
    rcases hb with hb | hb
    · change (w.heap.push ob)[b]? = _ at hcf
      rw [Array.getElem?_push] at hcf
      split at hcf
      · exact hob c t f (Option.some.inj hcf)
      · rw [Array.getElem?_eq_none hb] at hcf; cases hcf
    · exact hb.elim
  · intro i o' ho
    by_cases e : i = id
    · subst e
      simp only [updo, if_true] at ho
      cases ho
      refine .inr ⟨.inr rfl, hobj, ?_⟩
      intro b hb
      simp only [if_true] at hb
      have hb2 : b = w.heap.size := hb.2.symm.trans hr
      exact ⟨.inr (by omega), fun off hz => absurd (h.hs.lt _ _ hz) (by omega)⟩
    · simp only [updo, if_neg e] at ho
      exact .inl ⟨ho, fun _ _ h => h⟩
  · have key : ∀ j oj b, updo σ.hp id (some o) j = some oj → (if j = id then r else ρ j).at b → w.heap.size ≤ b → j = id := by
      intro j oj b hj hb hb2
      by_cases e : j = id
      · exact e
      · simp only [updo, if_neg e] at hj
        simp only [if_neg e] at hb
        exact absurd ((h.hs.obj j oj hj).2.lt b hb) (Nat.not_lt.2 hb2)
    intro i i' o1 o2 b ho ho' hb hb' hb2
    rcases hb2 with hb2 | hb2
    · exact hb2.elim
    · rw [key i o1 b ho hb hb2, key i' o2 b ho' hb' hb2]
  · intro b o' hz; exact .inl hz

/-- An object that is changed in place. -/
theorem Sat.set {E : En} {ρ : Nat → Ref} {V : Nat → Prop} {Z : Nat → Nat → Prop} {σ : St} {a : Act} {w w' : World} (h : Sat E ρ V Z σ a w)
    {d : Option Tmp} {v : Value} {x : AV} (hd : ∀ n, d = some n → n < E.nt) {id : Nat} {o0 o : AObj} (hid : σ.hp id = some o0) (hnil : (ρ id).nil = false)
    (hc : ∀ b, b ≠ (ρ id).blk → w'.heap[b]? = w.heap[b]?) (hsz : w'.heap.size = w.heap.size) (hos : w'.os = w.os) (hout : w'.output = w.output)
    (hfz : ∀ c t f, w'.heap[(ρ id).blk]? = some (.cells c t f) → f = (0, 0))
    (hobj : ObjRel ρ V Z w' id o) (hval : Rel ρ V Z w' v x) :
    Sat E ρ V Z (({ σ with hp := updo σ.hp id (some o) } : St).put d x) (a.put d v) w' := by
  have hat : (ρ id).at (ρ id).blk := ⟨hnil, rfl⟩
  refine h.step (fun b => b = (ρ id).blk) hd (fun _ _ => rfl) (fun _ h => h) (fun _ _ h => h) (fun b hb => ⟨id, o0, hid, hb ▸ hat⟩) (fun b _ hb => hc b hb) (by omega) hos hout ?_ ?_ ?_ (fun b o hz => .inl hz) hval
  · intro b hb c t f hcf
    rcases hb with hb | hb
    · rw [Array.getElem?_eq_none (by omega)] at hcf; cases hcf
    · exact hfz c t f (hb ▸ hcf)
  · intro i o' ho
    by_cases e : i = id
    · subst e
      simp only [updo, if_true] at ho
      cases ho
      exact .inr ⟨(h.hs.obj _ _ hid).1, hobj, fun b hb => ⟨.inl hb.2.symm, h.hs.sep _ _ b hid hb⟩⟩
    · simp only [updo, if_neg e] at ho
      exact .inl ⟨ho, fun b hb hb2 => e (h.hs.inj i id o' o0 b ho hid hb (hb2 ▸ hat))⟩
  · have key : ∀ j oj b, (updo σ.hp id (some o)) j = some oj → (ρ j).at b → (b = (ρ id).blk ∨ w.heap.size ≤ b) → j = id := by
      intro j oj b hj hbj hb2
      by_cases e : j = id
      · exact e
      · simp only [updo, if_neg e] at hj
        rcases hb2 with hb2 | hb2
        · exact absurd (h.hs.inj j id oj o0 b hj hid hbj (hb2 ▸ hat)) e
        · exact absurd ((h.hs.obj _ _ hj).2.lt b hbj) (Nat.not_lt.2 hb2)
    intro i i' o1 o2 b ho ho' hb hb' hb2
    rw [key i o1 b ho hb hb2, key i' o2 b ho' hb' hb2]

/-- An object that is given up, another one (of its block, or of a new one) in its place. -/
theorem Sat.swap {E : En} {ρ : Nat → Ref} {V : Nat → Prop} {Z : Nat → Nat → Prop} {σ : St} {a : Act} {w w' : World} (h : Sat E ρ V Z σ a w)
    {d : Option Tmp} {v : Value} {x : AV} (hd : ∀ n, d = some n → n < E.nt) {old id : Nat} {o0 o : AObj} (hold : σ.hp old = some o0) (r : Ref) (hid : ¬ V id)
    (hr : ∀ b, r.at b → (ρ old).at b ∨ w.heap.size ≤ b)
    (hc : ∀ b, b < w.heap.size → ¬ (ρ old).at b → w'.heap[b]? = w.heap[b]?) (hsz : w.heap.size ≤ w'.heap.size) (hos : w'.os = w.os) (hout : w'.output = w.output)
    (hfz : ∀ b, w.heap.size ≤ b ∨ (ρ old).at b → ∀ c t f, w'.heap[b]? = some (.cells c t f) → f = (0, 0))
    (hobj : ObjRel (fun i => if i = id then r else ρ i) (fun i => V i ∨ i = id) Z w' id o)
    (hval : Rel (fun i => if i = id then r else ρ i) (fun i => V i ∨ i = id) Z w' v x) :
    Sat E (fun i => if i = id then r else ρ i) (fun i => V i ∨ i = id) Z (({ σ with hp := updo (updo σ.hp old none) id (some o) } : St).put d x) (a.put d v) w' := by
  have hne : ∀ i, V i → i ≠ id := fun i hi e => hid (e ▸ hi)
  refine h.step (fun b => (ρ old).at b) hd (fun i hi => if_neg (hne i hi)) (fun _ h => .inl h) (fun _ _ h => h) (fun b hb => ⟨old, o0, hold, hb⟩) hc hsz hos hout hfz ?_ ?_ (fun b o hz => .inl hz) hval
  · intro i o' ho
    by_cases e : i = id
    · subst e
      simp only [updo, if_true] at ho
      cases ho
      refine .inr ⟨.inr rfl, hobj, ?_⟩
      intro b hb
      simp only [if_true] at hb
      refine ⟨hr b hb, fun off hz => ?_⟩
      rcases hr b hb with h1 | h1
      · exact h.hs.sep _ _ b hold h1 off hz
      · exact absurd (h.hs.lt _ _ hz) (Nat.not_lt.2 h1)
    · simp only [updo, if_neg e] at ho
      by_cases e2 : i = old
      · simp [e2] at ho
      · simp only [if_neg e2] at ho
        exact .inl ⟨ho, fun b hb hb2 => e2 (h.hs.inj i old o' o0 b ho hold hb hb2)⟩
  · have key : ∀ j oj b, (updo (updo σ.hp old none) id (some o)) j = some oj → (if j = id then r else ρ j).at b → ((ρ old).at b ∨ w.heap.size ≤ b) → j = id := by
      intro j oj b hj hbj hb2
      by_cases e : j = id
      · exact e
      · simp only [updo, if_neg e] at hj
        by_cases e2 : j = old
        · simp [e2] at hj
        · simp only [if_neg e2] at hj
          simp only [if_neg e] at hbj
          rcases hb2 with hb2 | hb2
          · exact absurd (h.hs.inj j old oj o0 b hj hold hbj hb2) e2
          · exact absurd ((h.hs.obj _ _ hj).2.lt b hbj) (Nat.not_lt.2 hb2)
    intro i i' o1 o2 b ho ho' hb hb' hb2
    rw [key i o1 b ho hb hb2, key i' o2 b ho' hb' hb2]

end Go.Am

/- The abstract machine: what a type is, what a constant is, and the runs of the model's memory operations in terms of known cells. -/
namespace Go.Am

/-- What a type is, as far as the operations ask. -/
inductive TK where
  | int (k : IntKind) | bool | str | ptr | slice (e : TypeId) | struct (fs : List (TypeId × Nat)) | array (n : Nat) (e : TypeId) | map (k e : TypeId) | iface | func | other

def TK.of : TypeDesc → TK
  | .int k => .int k
  | .bool => .bool
  | .string => .str
  | .pointer _ => .ptr
  | .slice e => .slice e
  | .struct fs => .struct (fs.toList.map fun f => (f.type, f.offset))
  | .array n e => .array n e
  | .map k e => .map k e
  | .interface _ => .iface
  | .func _ _ _ => .func
  | _ => .other

def TK.isAgg : TK → Bool
  | .struct _ | .array _ _ => true
  | _ => false

structure TI where
  k : TK
  size : Nat
  bytes : Nat
  zero : Option (List AV)

def avOf1 : Value → Option AV
  | .bool b => some (.bool b)
  | .int k n => some (.int k n)
  | .string s => some (.str s)
  | .pointer none => some .nilp
  | .slice none 0 0 => some .nilsl
  | .map none => some .nilmap
  | .nilFunc => some .nilfn
  | .nilIface => some .nilif
  | _ => none

def avOf : Value → Option AV
  | .agg cs => (cs.toList.mapM avOf1).map .agg
  | .tuple vs => if vs.size = 0 then some (.tup []) else none
  | .func f xs ys => if xs.size = 0 ∧ ys.size = 0 then some (.fn f [] []) else none
  | v => avOf1 v

def ti (P : Program) (t : TypeId) : Option TI :=
  match P.info? t, P.underlying t with
  | some i, some u => some ⟨TK.of u, i.size, i.bytes, i.zero.bind fun z => z.cells.toList.mapM avOf1⟩
  | _, _ => none

theorem ti_spec {P : Program} {t : TypeId} {T : TI} (h : ti P t = some T) : ∃ i u, P.info? t = some i ∧ P.underlying t = some u ∧ TK.of u = T.k ∧ i.size = T.size ∧ i.bytes = T.bytes ∧
    (i.zero.bind fun z => z.cells.toList.mapM avOf1) = T.zero := by
  unfold ti at h
  split at h
  · rename_i i u h1 h2
    cases h
    exact ⟨i, u, h1, h2, rfl, rfl, rfl, rfl⟩
  · cases h

theorem tk_slice {u : TypeDesc} {e : TypeId} (h : TK.of u = .slice e) : u = .slice e := by cases u <;> simp_all [TK.of]
theorem tk_int {u : TypeDesc} {k : IntKind} (h : TK.of u = .int k) : u = .int k := by cases u <;> simp_all [TK.of]
theorem tk_struct {u : TypeDesc} {fs : List (TypeId × Nat)} (h : TK.of u = .struct fs) : ∃ gs, u = .struct gs ∧ fs = gs.toList.map fun f => (f.type, f.offset) := by
  cases u <;> simp_all [TK.of]
theorem tk_array {u : TypeDesc} {n : Nat} {e : TypeId} (h : TK.of u = .array n e) : u = .array n e := by cases u <;> simp_all [TK.of]
theorem tk_map {u : TypeDesc} {k e : TypeId} (h : TK.of u = .map k e) : u = .map k e := by cases u <;> simp_all [TK.of]

theorem avOf1_one {v : Value} {x : AV} (h : avOf1 v = some x) : x.one = true := by
  unfold avOf1 at h
  split at h <;> (first | (cases h; rfl) | cases h)

variable {ρ : Nat → Ref} {V : Nat → Prop} {Z : Nat → Nat → Prop} {w : World}

theorem avOf1_rel {v : Value} {x : AV} (h : avOf1 v = some x) : Rel ρ V Z w v x := by
  unfold avOf1 at h
  split at h <;> cases h
  · exact .bool _
  · exact .int _ _
  · exact .str _
  · exact .nilp
  · exact .nilsl
  · exact .nilmap
  · exact .nilfn
  · exact .nilif

theorem mapM_avOf1 : ∀ (l : List Value) (xs : List AV), l.mapM avOf1 = some xs → l.length = xs.length ∧ ∀ i, i < xs.length → avOf1 (l.getD i undef) = some (xs.getD i default)
  | [], xs, h => by cases h; exact ⟨rfl, fun i hi => absurd hi (Nat.not_lt_zero _)⟩
  | v :: l, xs, h => by
    simp only [List.mapM_cons] at h
    cases hv : avOf1 v with
    | none => simp [hv] at h
    | some x =>
      cases hl : l.mapM avOf1 with
      | none => simp [hv, hl] at h
      | some ys =>
        simp [hv, hl] at h
        subst h
        obtain ⟨h1, h2⟩ := mapM_avOf1 l ys hl
        refine ⟨by simp [h1], fun i hi => ?_⟩
        cases i with
        | zero => simpa using hv
        | succ i => simpa using h2 i (by simpa using hi)

theorem cells_avOf1 {cs : Array Value} {xs : List AV} (h : cs.toList.mapM avOf1 = some xs) :
    cs.size = xs.length ∧ ∀ i, i < xs.length → (xs.getD i default).one = true ∧ Rel ρ V Z w (cs.getD i undef) (xs.getD i default) := by
  obtain ⟨h1, h2⟩ := mapM_avOf1 _ _ h
  refine ⟨by simpa using h1, fun i hi => ?_⟩
  have h3 := h2 i hi
  have h4 : cs.toList.getD i undef = cs.getD i undef := by simp [List.getD_eq_getElem?_getD, Array.getD_eq_getD_getElem?]
  rw [h4] at h3
  exact ⟨avOf1_one h3, avOf1_rel h3⟩

theorem avOf_rel {v : Value} {x : AV} (h : avOf v = some x) : Rel ρ V Z w v x := by
  unfold avOf at h
  split at h
  · rename_i cs
    simp only [Option.map_eq_some_iff] at h
    obtain ⟨xs, h1, rfl⟩ := h
    obtain ⟨h2, h3⟩ := cells_avOf1 (ρ := ρ) (V := V) (Z := Z) (w := w) h1
    exact .agg cs xs h2 (fun i hi => (h3 i hi).1) (fun i hi => (h3 i hi).2)
  · split at h
    · rename_i h0
      cases h; exact .tup _ _ h0 (fun i hi => absurd hi (Nat.not_lt_zero _))
    · cases h
  · split at h
    · rename_i h0
      cases h; exact .fn _ _ _ _ _ h0.1 h0.2 (fun i hi => absurd hi (Nat.not_lt_zero _)) (fun i hi => absurd hi (Nat.not_lt_zero _))
    · cases h
  · exact avOf1_rel h

theorem Value.cells_one {v : Value} (h : ∀ cs, v ≠ .agg cs) : v.cells = #[v] := by cases v <;> first | rfl | exact absurd rfl (h _)
theorem AV.cells_one {x : AV} (h : ∀ l, x ≠ .agg l) : x.cells = [x] := by cases x <;> first | rfl | exact absurd rfl (h _)

theorem Rel.agg_inv {v : Value} {l : List AV} (h : Rel ρ V Z w v (.agg l)) : ∃ cs, v = .agg cs ∧ cs.size = l.length ∧ (∀ i, i < l.length → (l.getD i default).one = true) ∧ (∀ i, i < l.length → Rel ρ V Z w (cs.getD i undef) (l.getD i default)) := by
  generalize hx : AV.agg l = x at h
  cases h <;> cases hx
  exact ⟨_, rfl, ‹_›, ‹_›, ‹_›⟩

theorem Rel.not_agg {v : Value} {x : AV} (h : Rel ρ V Z w v x) (hx : ∀ l, x ≠ .agg l) : ∀ cs, v ≠ .agg cs := by
  intro cs hc
  cases h <;> first | (exact absurd rfl (hx _)) | (cases hc; done) | (unfold Ref.slice at hc; split at hc <;> cases hc)

/-- The cells of a value and of its abstract value. -/
theorem Rel.cells {v : Value} {x : AV} (h : Rel ρ V Z w v x) : v.cells.size = x.cells.length ∧ (∀ i, i < x.cells.length → Rel ρ V Z w (v.cells.getD i undef) (x.cells.getD i default)) := by
  by_cases hx : ∃ l, x = .agg l
  · obtain ⟨l, rfl⟩ := hx
    obtain ⟨cs, rfl, h1, h2, h3⟩ := h.agg_inv
    exact ⟨h1, h3⟩
  · have hx' : ∀ l, x ≠ .agg l := fun l hl => hx ⟨l, hl⟩
    rw [Value.cells_one (h.not_agg hx'), AV.cells_one hx']
    refine ⟨rfl, fun i hi => ?_⟩
    obtain rfl : i = 0 := by simp only [List.length_cons, List.length_nil] at hi; omega
    exact h

/-- A value of one cell is no aggregate. -/
theorem Rel.oneCell {v : Value} {x : AV} (h : Rel ρ V Z w v x) (hx : x.one = true) : v.oneCell' = true := by
  cases h <;> (first | rfl | (unfold Ref.slice; split <;> rfl) | (simp [AV.one] at hx))

theorem addr_add (b o n : Nat) : (⟨b, o, none⟩ : Addr).add n = ⟨b, o + n, none⟩ := by
  unfold Addr.add; split
  · rename_i h; subst h; rfl
  · rfl

theorem run_isAgg {P : Program} {t : TypeId} {T : TI} (h : ti P t = some T) : (isAgg t).run P w = .ok T.k.isAgg w := by
  obtain ⟨i, u, h1, h2, h3, _⟩ := ti_spec h
  unfold isAgg underlying
  simp only [Sem.run_bind, run_program, Result.andThen_ok, h2, Sem.run_pure]
  rw [← h3]
  cases u <;> simp [TK.of, TK.isAgg]

theorem run_sizeOf {P : Program} {t : TypeId} {T : TI} (h : ti P t = some T) : (sizeOf t).run P w = .ok T.size w := by
  obtain ⟨i, u, h1, h2, h3, h4, _⟩ := ti_spec h
  unfold sizeOf typeInfo
  simp [h1, h4]

theorem run_typeInfo {P : Program} {t : TypeId} {T : TI} (h : ti P t = some T) : ∃ i, (typeInfo t).run P w = .ok i w ∧ i.size = T.size ∧ i.bytes = T.bytes ∧ (i.zero.bind fun z => z.cells.toList.mapM avOf1) = T.zero := by
  obtain ⟨i, u, h1, h2, h3, h4, h5, h6⟩ := ti_spec h
  exact ⟨i, by unfold typeInfo; simp [h1], h4, h5, h6⟩

theorem run_underlying {P : Program} {t : TypeId} {T : TI} (h : ti P t = some T) : ∃ u, (underlying t).run P w = .ok u w ∧ TK.of u = T.k := by
  obtain ⟨i, u, h1, h2, h3, h4, h5, h6⟩ := ti_spec h
  exact ⟨u, by unfold underlying; simp [h2], h3⟩

theorem run_underlying_slice {P : Program} {t e : TypeId} {T : TI} (h : ti P t = some T) (hk : T.k = .slice e) : (underlying t).run P w = .ok (.slice e) w := by
  obtain ⟨u, h1, h2⟩ := run_underlying (w := w) h
  rw [hk] at h2
  rw [h1, tk_slice h2]

theorem run_zero {P : Program} {t : TypeId} {T : TI} {zs : List AV} (h : ti P t = some T) (hz : T.zero = some zs) : ∃ z, (zeroValue t).run P w = .ok z w ∧ z.cells.toList.mapM avOf1 = some zs := by
  obtain ⟨i, h1, h2, h3, h4⟩ := run_typeInfo (w := w) h
  rw [hz] at h4
  cases hz' : i.zero with
  | none => rw [hz'] at h4; cases h4
  | some z => rw [hz'] at h4; exact ⟨z, by unfold zeroValue; simp [h1, hz'], h4⟩

theorem loadCellsFrom_run {P : Program} {b o : Nat} : ∀ (n i : Nat) (acc : Array Value) (f : Nat → Value), (∀ j, j < n → w.cell? ⟨b, o + (i + j), none⟩ = some (f (i + j))) →
    (loadCellsFrom ⟨b, o, none⟩ i n acc).run P w = .ok (acc ++ ((List.range n).map fun j => f (i + j)).toArray) w
  | 0, i, acc, f, h => by simp [loadCellsFrom]
  | n + 1, i, acc, f, h => by
    have h0 := h 0 (by omega)
    simp only [loadCellsFrom, Sem.run_bind, addr_add]
    have hl : (load ⟨b, o + i, none⟩).run P w = .ok (f i) w := by simp [load, Sem.run, show w.cell? ⟨b, o + i, none⟩ = some (f i) from h0]
    rw [hl]
    simp only [Result.andThen_ok]
    rw [loadCellsFrom_run n (i + 1) _ f (fun j hj => by have := h (j + 1) (by omega); rw [show i + 1 + j = i + (j + 1) by omega]; exact this)]
    congr 1
    simp only [List.range_succ_eq_map, List.map_cons, List.map_map]
    rw [← Array.toList_inj]
    simp [Nat.add_assoc, Nat.add_comm 1, Function.comp_def]

theorem loadCells_run {P : Program} {b o n : Nat} (f : Nat → Value) (h : ∀ j, j < n → w.cell? ⟨b, o + j, none⟩ = some (f j)) :
    (loadCells ⟨b, o, none⟩ n).run P w = .ok ((List.range n).map f).toArray w := by
  unfold loadCells
  rw [loadCellsFrom_run n 0 #[] f (fun j hj => by simpa using h j hj)]
  simp

theorem getD_range_map {n : Nat} (f : Nat → Value) {i : Nat} (hi : i < n) : ((List.range n).map f).toArray.getD i undef = f i := by
  simp [Array.getD, hi]

/-- The block of known cells, after the cells from some place on have been written. -/
theorem storeCells_run {P : Program} {b : Nat} : ∀ (vs : List Value) (i o : Nat) (w : World) (cs : Array Value) (ty : TypeId), w.heap[b]? = some (.cells cs ty (0, 0)) → o + i + vs.length ≤ cs.size →
    (∀ v ∈ vs, v.oneCell' = true) →
    ∃ w' cs', (storeCells ⟨b, o, none⟩ vs i).run P w = .ok () w' ∧ w'.heap[b]? = some (.cells cs' ty (0, 0)) ∧ cs'.size = cs.size ∧
      (∀ k, cs'.getD k undef = if o + i ≤ k ∧ k < o + i + vs.length then vs.getD (k - (o + i)) undef else cs.getD k undef) ∧
      (∀ b', b' ≠ b → w'.heap[b']? = w.heap[b']?) ∧ w'.heap.size = w.heap.size ∧ w'.os = w.os ∧ w'.output = w.output
  | [], i, o, w, cs, ty, h, hs, hv => ⟨w, cs, rfl, h, rfl, fun k => by rw [if_neg (by simp)], fun _ _ => rfl, rfl, rfl, rfl⟩
  | v :: vs, i, o, w, cs, ty, h, hs, hv => by
    simp only [List.length_cons] at hs
    have hb : b < w.heap.size := by
      rcases Nat.lt_or_ge b w.heap.size with h' | h'
      · exact h'
      · rw [Array.getElem?_eq_none h'] at h; cases h
    have hcell : w.cell? ⟨b, o + i, none⟩ = some cs[o + i] := by
      simp only [World.cell?, h, Option.isSome_none, Bool.false_eq_true, if_false]
      exact Array.getElem?_eq_getElem (by omega)
    have hfz : w.frozen? ⟨b, o + i, none⟩ = false := by simp [World.frozen?, h]
    have hw1 : (w.setCell ⟨b, o + i, none⟩ v).heap[b]? = some (.cells (cs.setIfInBounds (o + i) v) ty (0, 0)) := by
      simp only [World.setCell, Array.getElem?_modify, h]
      simp
    obtain ⟨w', cs', h1, h2, h3, h4, h5, h6, h7, h8⟩ := storeCells_run (P := P) vs (i + 1) o (w.setCell ⟨b, o + i, none⟩ v) (cs.setIfInBounds (o + i) v) ty hw1 (by simp; omega) (fun x hx => hv x (List.mem_cons_of_mem _ hx))
    refine ⟨w', cs', ?_, h2, by simpa using h3, ?_, ?_, by simpa [World.setCell] using h6, by simpa [World.setCell] using h7, by simpa [World.setCell] using h8⟩
    · simp only [storeCells, Sem.run_bind, addr_add]
      have hst : (store ⟨b, o + i, none⟩ v).run P w = .ok () (w.setCell ⟨b, o + i, none⟩ v) := by
        have := run_store P w ⟨b, o + i, none⟩ v .plain (hv v (by simp))
        rw [this, hcell]
        simp [hfz]
      rw [hst]
      simpa using h1
    · intro k
      rw [h4 k]
      by_cases hk : k = o + i
      · subst hk
        rw [if_neg (by omega), if_pos (by simp)]
        have : o + i < cs.size := by omega
        simp [Array.getD, this]
      · have e1 : (cs.setIfInBounds (o + i) v).getD k undef = cs.getD k undef := by
          simp [Array.getD_eq_getD_getElem?, Array.getElem?_setIfInBounds_ne (Ne.symm hk)]
        rw [e1]
        by_cases hk2 : o + i + 1 ≤ k ∧ k < o + i + 1 + vs.length
        · rw [if_pos (by omega), if_pos (by simp; omega)]
          rw [show k - (o + i) = (k - (o + (i + 1))) + 1 by omega]
          simp
        · rw [if_neg (by omega), if_neg (by simp; omega)]
    · intro b' hb'
      rw [h5 b' hb']
      simp [World.setCell, Array.getElem?_modify, Ne.symm hb']

end Go.Am

/- The abstract machine: what an operation does to an abstract state. -/
set_option linter.unusedVariables false
namespace Go.Am

/-- What an operation does: a value; a new object; an object changed; an object given up for a new one. -/
inductive Ef where
  | val (x : AV)
  | new (o : AObj) (x : Nat → AV)
  | set (id : Nat) (o : AObj) (x : AV)
  | swap (old : Nat) (o : AObj) (x : Nat → AV)

def Ef.app (e : Ef) (σ : St) (d : Option Nat) (id : Nat) : St :=
  match e with
  | .val x => σ.put d x
  | .new o x => ({ σ with hp := updo σ.hp id (some o) } : St).put d (x id)
  | .set i o x => ({ σ with hp := updo σ.hp i (some o) } : St).put d x
  | .swap old o x => ({ σ with hp := updo (updo σ.hp old none) id (some o) } : St).put d (x id)

def AV.id? : AV → Option Nat
  | .ptr id _ | .rptr id _ _ _ | .rw id | .mp id => some id
  | _ => none

def AV.isTup : AV → Bool
  | .tup _ => true
  | _ => false

def evA (σ : St) : Operand → Option AV
  | .tmp t => σ.fr t
  | .const v => avOf v
  | .func f => some (.fn (.func f) [] [])
  | .global _ => none

def opnds : Op → List Operand
  | .move x | .assign x | .box _ x | .load _ x | .nilCheck x | .unOp _ _ x | .convert _ _ x | .makeInterface _ x | .fieldAddr _ x _ | .field _ x _ | .typeAssert x _ _ _ | .extract x _ => [x]
  | .pick c a b => [c, a, b]
  | .build _ ps | .buildSlice _ _ ps => ps.toList.map (·.2)
  | .store _ a v | .binOp _ _ a v _ | .makeSlice _ a v | .indexAddr _ a v | .index _ a v | .lookup _ a v _ => [a, v]
  | .makeFunc _ f c => f.toList ++ c.toList
  | .slice _ x l h none => x :: (l.toList ++ h.toList)
  | .mapUpdate _ m k v | .insert _ m k v => [m, k, v]
  | .call ⟨.builtin _, args, _⟩ => args.toList
  | _ => []

/-- A part of a list put in the place of cells. -/
def spl (l : List AV) (off : Nat) (xs : List AV) : List AV := l.take off ++ xs ++ l.drop (off + xs.length)

def ldA (T : TI) (l : List AV) (off : Nat) : Option AV :=
  if T.k.isAgg then (if off + T.size ≤ l.length then some (.agg ((l.drop off).take T.size)) else none) else l[off]?

def stA (T : TI) (l : List AV) (off : Nat) (x : AV) : Option (List AV) :=
  if x.cells.length = T.size ∧ off + T.size ≤ l.length ∧ x.isTup = false then some (spl l off x.cells) else none

/-- An element with other cells. -/
def reElem (e : AV) (c : List AV) : AV :=
  match e with
  | .agg _ => .agg c
  | _ => c.getD 0 default

def fillA (P : Program) (fs : List (TypeId × Nat)) (cells : List AV) : List (Nat × AV) → Option (List AV)
  | [] => some cells
  | (i, x) :: r =>
    match fs[i]? with
    | some (t, off) =>
      match ti P t with
      | some T => if x.cells.length = T.size ∧ off + T.size ≤ cells.length ∧ x.isTup = false then fillA P fs (spl cells off x.cells) r else none
      | none => none
    | none => none

def mkElem (T : TI) (zs : List AV) : AV := if T.k.isAgg then .agg zs else zs.getD 0 default

/-- All elements have so many cells. -/
def SzOk (l : List AV) (n : Nat) : Prop := ∀ x, x ∈ l → x.cells.length = n

def binInt (op : BinOp) (k : IntKind) (a b : Int) : Option AV :=
  match op with
  | .add => some (.int k (k.wrap (a + b)))
  | .sub => some (.int k (k.wrap (a - b)))
  | .mul => some (.int k (k.wrap (a * b)))
  | .eql => some (.bool (a == b))
  | .neq => some (.bool (a != b))
  | .lss => some (.bool (decide (a < b)))
  | .leq => some (.bool (decide (a ≤ b)))
  | .gtr => some (.bool (decide (a > b)))
  | .geq => some (.bool (decide (a ≥ b)))
  | .and => some (.int k (k.wrap (BitVec.ofInt k.bits a &&& BitVec.ofInt k.bits b).toNat))
  | .or => some (.int k (k.wrap (BitVec.ofInt k.bits a ||| BitVec.ofInt k.bits b).toNat))
  | .xor => some (.int k (k.wrap (BitVec.ofInt k.bits a ^^^ BitVec.ofInt k.bits b).toNat))
  | .andNot => some (.int k (k.wrap (BitVec.ofInt k.bits a &&& ~~~BitVec.ofInt k.bits b).toNat))
  | _ => none

def binDiv (op : BinOp) (k : IntKind) (a b : Int) : Option AV :=
  match op with
  | .quo => some (.int k (k.wrap (a.tdiv b)))
  | .rem => some (.int k (a.tmod b))
  | _ => none

/-- A comparison of two values of which one is nil: are they equal? -/
def nilEq : AV → AV → Option Bool
  | .nilp, .nilp | .nilmap, .nilmap | .nilfn, .nilfn | .nilsl, .nilsl => some true
  | .nilp, .ptr _ _ | .nilp, .eptr _ _ | .nilp, .rptr _ _ _ _ | .ptr _ _, .nilp | .eptr _ _, .nilp | .rptr _ _ _ _, .nilp => some false
  | .nilmap, .mp _ | .mp _, .nilmap => some false
  | .nilfn, .fn _ _ _ | .fn _ _ _, .nilfn => some false
  | .nilsl, .sl (_ :: _) | .sl (_ :: _), .nilsl => some false
  | .nilif, .iface _ _ | .iface _ _, .nilif => some false
  | _, _ => none

def nilTK : TK → AV → Bool
  | .ptr, .nilp | .ptr, .ptr _ _ | .ptr, .eptr _ _ | .ptr, .rptr _ _ _ _ => true
  | .map _ _, .nilmap | .map _ _, .mp _ => true
  | .func, .nilfn | .func, .fn _ _ _ => true
  | .slice _, .nilsl | .slice _, .sl _ => true
  | .iface, .nilif | .iface, .iface _ _ => true
  | _, _ => false

def binA (P : Program) (op : BinOp) (t : TypeId) (x y : AV) : Option (Prop × AV) :=
  match x, y with
  | .int k a, .int k' b =>
    if k = k' then
      (match binInt op k a b with
       | some v => some (True, v)
       | none => (binDiv op k a b).map fun v => (b ≠ 0, v))
    else none
  | .bool a, .bool b =>
    match ti P t, op with
    | some ⟨.bool, _, _, _⟩, .eql => some (True, .bool (a == b))
    | some ⟨.bool, _, _, _⟩, .neq => some (True, .bool (!(a == b)))
    | _, _ => none
  | .str a, .str b =>
    match op with
    | .add => some ((a.size + b.size : Nat) ≤ 2 ^ 62, .str (a ++ b))
    | .eql => some (True, .bool (a.toList == b.toList))
    | .neq => some (True, .bool (!(a.toList == b.toList)))
    | .lss => some (True, .bool (Op.bytesLess a.toList b.toList))
    | _ => none
  | x, y =>
    match ti P t with
    | some T =>
      if nilTK T.k x && nilTK T.k y then
        (match nilEq x y, op with
         | some r, .eql => some (True, .bool r)
         | some r, .neq => some (True, .bool (!r))
         | _, _ => none)
      else none
    | none => none

def isC : Operand → Bool
  | .const _ => true
  | _ => false

/-- Two nil interface values, one of them the literal. -/
def nilifA (P : Program) (op : BinOp) (t : TypeId) (c : Bool) : AV → AV → Option (Prop × AV)
  | .nilif, .nilif =>
    if c then
      (match ti P t, op with
       | some ⟨.iface, _, _, _⟩, .eql => some (True, .bool true)
       | some ⟨.iface, _, _, _⟩, .neq => some (True, .bool false)
       | _, _ => none)
    else none
  | _, _ => none

def unA (op : UnOp) : AV → Option AV
  | .bool b => match op with | .not => some (.bool !b) | _ => none
  | .int k n => match op with | .neg => some (.int k (k.wrap (0 - n))) | _ => none
  | _ => none

def convA (P : Program) (src dst : TypeId) (x : AV) : Option AV :=
  match ti P src, ti P dst, x with
  | some _, some ⟨.int k, _, _, _⟩, .int _ n => some (.int k (k.wrap n))
  | some _, some ⟨.str, _, _, _⟩, .str s => some (.str s)
  | _, _, _ => none

/-- What is appended. -/
def srcB (Te : TI) (k : TK) (x : AV) (o : Option AObj) : Option (Prop × List AV) :=
  match k, x, o with
  | .int _, .int _ n, _ =>
    match Te.zero with
    | some zs => if zs.length = Te.size ∧ (Te.k.isAgg = true ∨ Te.size = 1) then some (0 ≤ n ∧ n ≤ 2 ^ 46, List.replicate n.toNat (mkElem Te zs)) else none
    | none => none
  | .slice _, .nilsl, _ => some (True, [])
  | .slice _, .sl xs, _ => some (SzOk xs Te.size, xs)
  | .slice _, .rw _, some (.row sz xs) => if sz = Te.size then some (True, xs) else none
  | _, _, _ => none

def srcA (P : Program) (Te : TI) (tx : TypeId) (x : AV) (o : Option AObj) : Option (Prop × List AV) :=
  match ti P tx with
  | some Tx => srcB Te Tx.k x o
  | none => none

/-- There is room for so many elements. -/
def Fits (n bytes : Nat) : Prop := n ≤ 2 ^ 46 ∧ (2 * n + 1024) * bytes ≤ 2 ^ 48

def appA (P : Program) (ts tx : TypeId) (s x : AV) (os ox : Option AObj) : Option (Prop × Ef) :=
  match ti P ts with
  | some ⟨.slice e, _, _, _⟩ =>
    match ti P e with
    | some Te =>
      match srcA P Te tx x ox, Te.zero with
      | some (ob, xs), some zs =>
        if zs.length = Te.size then
          (match s, os with
           | .nilsl, _ => some (ob ∧ Fits xs.length Te.bytes, .new (.row Te.size xs) .rw)
           | .rw id, some (.row sz l) =>
             if sz = Te.size then some (ob ∧ Fits (l.length + xs.length) Te.bytes, .swap id (.row Te.size (l ++ xs)) .rw) else none
           | _, _ => none)
        else none
      | _, _ => none
    | none => none
  | _ => none

def lenA : AV → Option AObj → Option AV
  | .nilsl, _ => some (.i 0)
  | .sl l, _ => some (.i l.length)
  | .rw _, some (.row _ l) => some (.i l.length)
  | _, _ => none

def lenE (P : Program) (t : TypeId) (x : AV) (o : Option AObj) : Option AV :=
  match ti P t with
  | none => none
  | some T =>
    match T.k with
    | .str => (match x with | .str s => some (.i s.size) | _ => none)
    | .slice _ => lenA x o
    | _ => none

def idxA (P : Program) (t : TypeId) (x i : AV) (o : Option AObj) : Option (Prop × AV) :=
  match ti P t with
  | some ⟨.slice e, _, _, _⟩ =>
    match ti P e with
    | some Te =>
      match x, i, o with
      | .sl l, .int _ n, _ =>
        match l[n.toNat]? with
        | some y => if y.cells.length = Te.size then some (0 ≤ n, .eptr y 0) else none
        | none => none
      | .rw id, .int _ n, some (.row sz l) => if sz = Te.size then some (0 ≤ n ∧ n.toNat < l.length, .rptr id sz n.toNat 0) else none
      | _, _, _ => none
    | none => none
  | _ => none

/-- The cells of a part of a slice. -/
def cutA (l : List AV) (lo hi : Nat) : List AV := (l.take hi).drop lo

def sliceA (l : List AV) : Option AV → Option AV → Option (Prop × AV)
  | none, none => some (True, .sl l)
  | some (.int _ a), none => some (0 ≤ a ∧ a.toNat ≤ l.length, .sl (l.drop a.toNat))
  | none, some (.int _ b) => some (0 ≤ b ∧ b.toNat ≤ l.length, .sl (l.take b.toNat))
  | some (.int _ a), some (.int _ b) => some (0 ≤ a ∧ a ≤ b ∧ b.toNat ≤ l.length, .sl (cutA l a.toNat b.toNat))
  | _, _ => none

def sliceArgs : Option Operand → Option Operand → List AV → Option (AV × Option AV × Option AV)
  | none, none, [x] => some (x, none, none)
  | some _, none, [x, a] => some (x, some a, none)
  | none, some _, [x, b] => some (x, none, some b)
  | some _, some _, [x, a, b] => some (x, some a, some b)
  | _, _, _ => none

def keyEq : AV → AV → Option Bool
  | .int k a, .int k' b => if k = k' then some (a == b) else none
  | .str a, .str b => some (a == b)
  | .bool a, .bool b => some (a == b)
  | _, _ => none

/-- An entry of a map with a number as key, if it is known whether there is one. -/
def findE (k : IntKind) (n : Int) : List (AV × AV) → Option (Option AV)
  | [] => some none
  | (.int k' n', x) :: es => if k = k' then (if n = n' then some (some x) else findE k n es) else none
  | _ => none

/-- What a lookup gives. -/
def lkRes (ok : Bool) (z : AV) : Option AV → AV
  | some x => if ok then .tup [x, .bool true] else x
  | none => if ok then .tup [z, .bool false] else z

/-- The zero value of a type. -/
def zv (P : Program) (t : TypeId) : Option AV := (P.info? t).bind fun i => i.zero.bind avOf

def effA (P : Program) (op : Op) (vs : List AV) (os : List (Option AObj)) : Option (Prop × Ef) :=
  match op with
  | .move _ | .assign _ => match vs with | [x] => some (True, .val x) | _ => none
  | .pick _ _ _ => match vs with | [.bool c, x, y] => some (True, .val (if c then x else y)) | _ => none
  | .box _ _ => match vs with | [x] => if x.isTup then none else some (True, .new (.cells x.cells) (.ptr · 0)) | _ => none
  | .alloc t => match ti P t with | some ⟨_, _, _, some zs⟩ => some (True, .new (.cells zs) (.ptr · 0)) | _ => none
  | .build t ps =>
    match ti P t with
    | some ⟨.struct fs, _, _, some zs⟩ =>
      if fs.all (fun f => (ti P f.1).isSome) then (fillA P fs zs ((ps.toList.map (·.1)).zip vs)).map fun l => (True, .val (.agg l)) else none
    | _ => none
  | .buildSlice t n ps =>
    match ti P t with
    | some ⟨.slice e, _, _, _⟩ =>
      match ti P e with
      | some ⟨k, size, bytes, some zs⟩ =>
        if zs.length = size ∧ n * size ≤ 2 ^ 24 ∧ ps.toList.map (·.1) = List.range n ∧ vs.all (fun x => x.cells.length == size && !x.isTup) then
          some (True, .new (.row size vs) .rw) else none
      | _ => none
    | _ => none
  | .load t _ =>
    match ti P t with
    | some T =>
      match vs, os with
      | [.ptr _ off], [some (.cells l)] => (ldA T l off).map fun x => (True, .val x)
      | [.eptr e off], _ => (ldA T e.cells off).map fun x => (True, .val x)
      | [.rptr _ sz i off], [some (.row sz' l)] =>
        match l[i]? with
        | some e => if sz = sz' then (ldA T e.cells off).map fun x => (True, .val x) else none
        | none => none
      | _, _ => none
    | none => none
  | .store t _ _ =>
    match ti P t with
    | some T =>
      match vs, os with
      | [.ptr id off, x], [some (.cells l), _] => (stA T l off x).map fun l' => (True, .set id (.cells l') (.tup []))
      | [.rptr id sz i off, x], [some (.row sz' l), _] =>
        match l[i]? with
        | some e => if sz = sz' then (stA T e.cells off x).map fun c => (True, .set id (.row sz' (l.set i (reElem e c))) (.tup [])) else none
        | none => none
      | _, _ => none
    | none => none
  | .nilCheck _ => match vs with | [x] => (match x with | .ptr _ _ | .eptr _ _ | .rptr _ _ _ _ => some (True, .val x) | .fn (.func _) _ _ => some (True, .val x) | _ => none) | _ => none
  | .binOp op t xo yo _ => match vs with | [x, y] => ((binA P op t x y).or (nilifA P op t (isC xo || isC yo) x y)).map fun (ob, v) => (ob, .val v) | _ => none
  | .unOp op _ _ => match vs with | [x] => (unA op x).map fun v => (True, .val v) | _ => none
  | .convert src dst _ => match vs with | [x] => (convA P src dst x).map fun v => (True, .val v) | _ => none
  | .makeInterface t _ => match vs, ti P t with | [_], some ⟨.iface, _, _, _⟩ => none | [x], some _ => some (True, .val (.iface t x)) | _, _ => none
  | .makeFunc fn f c => if vs.length = f.size + c.size then some (True, .val (.fn fn (vs.take f.size) (vs.drop f.size))) else none
  | .makeSlice t _ _ =>
    match ti P t, vs with
    | some ⟨.slice e, _, _, _⟩, [.int _ n, .int _ c] =>
      match ti P e with
      | some ⟨k, size, bytes, some zs⟩ =>
        if zs.length = size ∧ (k.isAgg = true ∨ size = 1) then some (0 ≤ n ∧ n ≤ c ∧ c ≤ 2 ^ 46 ∧ c * bytes ≤ 2 ^ 48, .new (.row size (List.replicate n.toNat (mkElem ⟨k, size, bytes, some zs⟩ zs))) .rw) else none
      | _ => none
    | _, _ => none
  | .slice t _ lo hi none =>
    match ti P t, sliceArgs lo hi vs with
    | some ⟨.slice e, _, _, _⟩, some (.sl l, a, b) =>
      match ti P e with
      | some Te => (sliceA l a b).map fun (ob, v) => (ob ∧ SzOk l Te.size, .val v)
      | none => none
    | _, _ => none
  | .fieldAddr t _ f =>
    match ti P t with
    | some ⟨.struct fs, _, _, _⟩ =>
      match fs[f]? with
      | some (ft, off) =>
        match ti P ft with
        | some ⟨_, size, _, _⟩ =>
          if size = 0 then none else
          (match vs with
           | [.ptr id o] => some (True, .val (.ptr id (o + off)))
           | [.eptr e o] => some (True, .val (.eptr e (o + off)))
           | [.rptr id sz i o] => some (True, .val (.rptr id sz i (o + off)))
           | _ => none)
        | none => none
      | none => none
    | _ => none
  | .field t _ f =>
    match ti P t, vs with
    | some ⟨.struct fs, _, _, _⟩, [.agg l] =>
      match fs[f]? with
      | some (ft, off) => match ti P ft with | some T => (ldA T l off).map fun x => (True, .val x) | none => none
      | none => none
    | _, _ => none
  | .indexAddr t _ _ => match vs with | [x, i] => (idxA P t x i (os.getD 0 none)).map fun (ob, v) => (ob, .val v) | _ => none
  | .extract _ i => match vs with | [.tup l] => (l[i]?).map fun x => (True, .val x) | _ => none
  | .typeAssert _ _ t ok =>
    match vs, ti P t with
    | [.iface u x], some ⟨.struct _, _, _, _⟩ =>
      if u = t then (if ok then some (True, .val (.tup [x, .bool true])) else some (True, .val x)) else none
    | _, _ => none
  | .makeMap _ none => match vs with | [] => some (True, .new (.map []) .mp) | _ => none
  | .insert t _ _ _ =>
    match ti P t, vs, os with
    | some ⟨.map kt _, _, _, _⟩, [.mp id, .int k n, x], [some (.map es), _, _] =>
      match ti P kt with
      | some ⟨.int _, _, _, _⟩ => (match findE k n es with | some none => some (True, .set id (.map (es ++ [(.int k n, x)])) (.tup [])) | _ => none)
      | _ => none
    | _, _, _ => none
  | .lookup t _ _ ok =>
    match ti P t, vs, os with
    | some ⟨.map kt et, _, _, _⟩, [.mp _, .int k n], [some (.map es), _] =>
      match ti P kt, zv P et with
      | some ⟨.int _, _, _, _⟩, some z => (findE k n es).map fun r => (True, .val (lkRes ok z r))
      | _, _ => none
    | _, _, _ => none
  | .call ⟨.builtin .len, _, ts⟩ =>
    match vs, ts with
    | [x], ⟨[t]⟩ => (lenE P t x (os.getD 0 none)).map fun v => (True, .val v)
    | _, _ => none
  | .call ⟨.builtin .append, _, ts⟩ =>
    match vs, ts with
    | [s, x], ⟨[t, u]⟩ => appA P t u s x (os.getD 0 none) (os.getD 1 none)
    | _, _ => none
  | _ => none

/-- What an operation does to a state. -/
def eff (P : Program) (σ : St) (op : Op) : Option (Prop × Ef) :=
  match (opnds op).mapM (evA σ) with
  | some vs => effA P op vs (vs.map fun v => v.id?.bind σ.hp)
  | none => none

end Go.Am

/- The abstract machine: the operations do what the abstract machine says (values, loads, stores, new objects). -/
set_option linter.unusedVariables false
set_option linter.unusedSimpArgs false
namespace Go.Am

/-- The run of an operation does to frame and world what is said of the abstract state. -/
def OpOk (P : Program) (E : En) (o : Oper) (σ : St) (a : Act) (w : World) (V : Nat → Prop) (Z : Nat → Nat → Prop) (id : Nat) (e : Ef) : Prop :=
  ∃ n w' v ρ' V', (execOp a.eval o).run P w = .ok n w' ∧ (n = .value v ∨ (n = .skip ∧ v = undef)) ∧ (∀ i, V i → V' i) ∧ (∀ i, V' i → V i ∨ i = id) ∧
    Sat E ρ' V' Z (e.app σ o.dst id) (a.put o.dst v) w'

variable {P : Program} {E : En} {ρ : Nat → Ref} {V : Nat → Prop} {Z : Nat → Nat → Prop} {σ : St} {a : Act} {w : World}

theorem ev_rel (h : Sat E ρ V Z σ a w) {x : Operand} {v : AV} (hx : evA σ x = some v) : Rel ρ V Z w (a.eval x) v := by
  cases x with
  | tmp t => exact h.fr t v hx
  | const c => exact avOf_rel hx
  | func f => cases hx; exact .fn _ _ _ _ _ rfl rfl (fun i hi => absurd hi (Nat.not_lt_zero _)) (fun i hi => absurd hi (Nat.not_lt_zero _))
  | global g => cases hx

theorem ok_val (h : Sat E ρ V Z σ a w) {o : Oper} (hd : ∀ n, o.dst = some n → n < E.nt) {id : Nat} {v : Value} {x : AV} (hrun : (execOp a.eval o).run P w = .ok (.value v) w)
    (hv : Rel ρ V Z w v x) : OpOk P E o σ a w V Z id (.val x) :=
  ⟨.value v, w, v, ρ, V, hrun, .inl rfl, fun _ h => h, fun _ h => .inl h, h.val hd rfl rfl rfl hv⟩

theorem run_value {s : Sem Value} {v : Value} {w w' : World} (h : s.run P w = .ok v w') : (do pure (Next.value (← s)) : Sem Next).run P w = .ok (.value v) w' := by
  simp [h]

theorem ok_box (h : Sat E ρ V Z σ a w) {o : Oper} (hd : ∀ n, o.dst = some n → n < E.nt) {id : Nat} (hid : ¬ V id) {t : TypeId} {v : Value} {x : AV} (hv : Rel ρ V Z w v x) (ht : x.isTup = false)
    (hrun : execOp a.eval o = (do pure (Next.value (← Instr.box t v)))) : OpOk P E o σ a w V Z id (.new (.cells x.cells) (.ptr · 0)) := by
  have hr : (Instr.box t v).run P w = .ok (.pointer (some ⟨w.heap.size, 0, none⟩)) { w with heap := w.heap.push (.cells v.cells t) } := by
    simp [Instr.box, newVar, newRow]
  refine ⟨.value (.pointer (some ⟨w.heap.size, 0, none⟩)), { w with heap := w.heap.push (.cells v.cells t) }, .pointer (some ⟨w.heap.size, 0, none⟩), fun i => if i = id then ⟨w.heap.size, 0, 0, false⟩ else ρ i, fun i => V i ∨ i = id, ?_, .inl rfl, fun _ h => .inl h, fun _ h => h, ?_⟩
  · rw [hrun, run_value hr]
  · have hne : ∀ i, V i → i ≠ id := fun i hi e => hid (e ▸ hi)
    have hmono : ∀ v x, Rel ρ V Z w v x → Rel (fun i => if i = id then (⟨w.heap.size, 0, 0, false⟩ : Ref) else ρ i) (fun i => V i ∨ i = id) Z { w with heap := w.heap.push (.cells v.cells t) } v x → True := fun _ _ _ _ => trivial
    have hcell : ∀ b o, Z b o → ({ w with heap := w.heap.push (.cells v.cells t) } : World).cell? ⟨b, o, none⟩ = w.cell? ⟨b, o, none⟩ := by
      intro b o hz
      refine cell?_of_heap ?_
      show (w.heap.push _)[b]? = _
      have := h.hs.lt b o hz
      rw [Array.getElem?_push, if_neg (by omega)]
    refine h.alloc (o := .cells x.cells) hd ⟨w.heap.size, 0, 0, false⟩ rfl hid (fun c t f hc => by cases hc; rfl) ?_ ?_
    · refine ⟨by simp, v.cells, t, by simp, (Rel.cells hv).1, fun i hi => ⟨?_, ?_⟩⟩
      · by_cases hx : ∃ l, x = .agg l
        · obtain ⟨l, rfl⟩ := hx
          obtain ⟨_, _, _, h1, _⟩ := hv.agg_inv
          exact h1 i hi
        · have hx' : ∀ l, x ≠ .agg l := fun l hl => hx ⟨l, hl⟩
          rw [AV.cells_one hx'] at hi ⊢
          obtain rfl : i = 0 := by simp only [List.length_cons, List.length_nil] at hi; omega
          cases x <;> first | rfl | exact absurd rfl (hx' _) | cases ht
      · exact ((Rel.cells hv).2 i hi).mono (fun i hi => if_neg (hne i hi)) (fun _ h => .inl h) (fun _ _ h => h) hcell
    · have := Rel.ptr (ρ := fun i => if i = id then (⟨w.heap.size, 0, 0, false⟩ : Ref) else ρ i) (V := fun i => V i ∨ i = id) (Z := Z) (w := { w with heap := w.heap.push (.cells v.cells t) }) id 0 (.inr rfl)
      simpa using this

theorem ok_alloc (h : Sat E ρ V Z σ a w) {o : Oper} (hd : ∀ n, o.dst = some n → n < E.nt) {id : Nat} (hid : ¬ V id) {t : TypeId} {T : TI} {zs : List AV} (hT : ti P t = some T) (hz : T.zero = some zs)
    (hrun : execOp a.eval o = (do pure (Next.value (← Instr.alloc t true (.tuple #[]))))) : OpOk P E o σ a w V Z id (.new (.cells zs) (.ptr · 0)) := by
  obtain ⟨z, hz1, hz2⟩ := run_zero (w := w) hT hz
  have hr : (Instr.alloc t true (.tuple #[])).run P w = .ok (.pointer (some ⟨w.heap.size, 0, none⟩)) { w with heap := w.heap.push (.cells z.cells t) } := by
    simp [Instr.alloc, newVar, newRow, hz1]
  refine ⟨.value (.pointer (some ⟨w.heap.size, 0, none⟩)), { w with heap := w.heap.push (.cells z.cells t) }, .pointer (some ⟨w.heap.size, 0, none⟩), fun i => if i = id then ⟨w.heap.size, 0, 0, false⟩ else ρ i, fun i => V i ∨ i = id, ?_, .inl rfl, fun _ h => .inl h, fun _ h => h, ?_⟩
  · rw [hrun, run_value hr]
  · refine h.alloc (o := .cells zs) hd ⟨w.heap.size, 0, 0, false⟩ rfl hid (fun c t f hc => by cases hc; rfl) ?_ ?_
    · refine ⟨by simp, z.cells, t, by simp, (cells_avOf1 (ρ := ρ) (V := V) (Z := Z) (w := w) hz2).1, fun i hi => (cells_avOf1 hz2).2 i hi⟩
    · have := Rel.ptr (ρ := fun i => if i = id then (⟨w.heap.size, 0, 0, false⟩ : Ref) else ρ i) (V := fun i => V i ∨ i = id) (Z := Z) (w := { w with heap := w.heap.push (.cells z.cells t) }) id 0 (.inr rfl)
      simpa using this

/-- A load from known cells. -/
theorem ld_run {t : TypeId} {T : TI} (hT : ti P t = some T) {b o off : Nat} {l : List AV} {cs : Nat → Value} (hc : ∀ j, j < l.length → w.cell? ⟨b, o + j, none⟩ = some (cs j))
    (h1 : ∀ j, j < l.length → (l.getD j default).one = true) (hr : ∀ j, j < l.length → Rel ρ V Z w (cs j) (l.getD j default)) {x : AV} (hx : ldA T l off = some x) :
    ∃ v, (Instr.loadAt t (.pointer (some ⟨b, o + off, none⟩))).run P w = .ok v w ∧ Rel ρ V Z w v x := by
  unfold ldA at hx
  unfold Instr.loadAt Instr.sureAddr loadVar
  simp only [Sem.run_bind, Sem.run_pure, Result.andThen_ok, run_isAgg hT]
  cases hk : T.k.isAgg with
  | true =>
    rw [hk] at hx
    simp only [if_true] at hx
    split at hx
    · rename_i hle
      cases hx
      refine ⟨.agg ((List.range T.size).map fun j => cs (off + j)).toArray, ?_, ?_⟩
      · simp only [if_true, Sem.run_bind, run_sizeOf hT, Result.andThen_ok]
        rw [loadCells_run (fun j => cs (off + j)) (fun j hj => by rw [Nat.add_assoc]; exact hc (off + j) (by omega))]
        simp
      · have hlen : ((l.drop off).take T.size).length = T.size := by simp; omega
        have hg : ∀ i, i < T.size → ((l.drop off).take T.size).getD i default = l.getD (off + i) default := by
          intro i hi
          simp [List.getD_eq_getElem?_getD, List.getElem?_take, hi, List.getElem?_drop]
        refine .agg _ _ (by simp [hlen]) ?_ ?_
        · intro i hi; rw [hlen] at hi; rw [hg i hi]; exact h1 _ (by omega)
        · intro i hi; rw [hlen] at hi; rw [hg i hi, getD_range_map _ hi]; exact hr _ (by omega)
    · cases hx
  | false =>
    rw [hk] at hx
    simp only [Bool.false_eq_true, if_false] at hx ⊢
    have hlt : off < l.length := by
      rcases Nat.lt_or_ge off l.length with h | h
      · exact h
      · rw [List.getElem?_eq_none h] at hx; cases hx
    refine ⟨cs off, by simp [load, Sem.run, hc off hlt], ?_⟩
    have := hr off hlt
    simpa [List.getD_eq_getElem?_getD, hx] using this

theorem ok_load_ptr (h : Sat E ρ V Z σ a w) {o : Oper} (hd : ∀ n, o.dst = some n → n < E.nt) {id' : Nat} {t : TypeId} {T : TI} (hT : ti P t = some T) {v : Value} {id off : Nat} {l : List AV}
    (hv : Rel ρ V Z w v (.ptr id off)) (ho : σ.hp id = some (.cells l)) {x : AV} (hx : ldA T l off = some x)
    (hrun : execOp a.eval o = (do pure (Next.value (← Instr.loadAt t v)))) : OpOk P E o σ a w V Z id' (.val x) := by
  obtain ⟨hV, h0, cs, ty, h1, h2, h3⟩ := h.hs.obj _ _ ho
  cases hv
  have hc : ∀ j, j < l.length → w.cell? ⟨(ρ id).blk, 0 + j, none⟩ = some (cs.getD j undef) := by
    intro j hj
    have : j < cs.size := by omega
    simp [World.cell?, h1, Array.getD, this]
  obtain ⟨v', hr, hrel⟩ := ld_run hT hc (fun j hj => (h3 j hj).1) (fun j hj => (h3 j hj).2) hx
  rw [Nat.zero_add] at hr
  exact ok_val h hd (by rw [hrun, run_value hr]) hrel

theorem ok_load_eptr (h : Sat E ρ V Z σ a w) {o : Oper} (hd : ∀ n, o.dst = some n → n < E.nt) {id' : Nat} {t : TypeId} {T : TI} (hT : ti P t = some T) {v : Value} {e : AV} {off : Nat}
    (hv : Rel ρ V Z w v (.eptr e off)) {x : AV} (hx : ldA T e.cells off = some x)
    (hrun : execOp a.eval o = (do pure (Next.value (← Instr.loadAt t v)))) : OpOk P E o σ a w V Z id' (.val x) := by
  cases hv
  rename_i b o' cs h1 h2
  obtain ⟨v', hr, hrel⟩ := ld_run hT (fun j hj => (h1 j hj).1) (fun j hj => (h1 j hj).2.2.1) h2 hx
  exact ok_val h hd (by rw [hrun, run_value hr]) hrel

theorem row_idx {i n sz j : Nat} (hi : i < n) (hj : j < sz) : i * sz + j < n * sz := by
  have : (i + 1) * sz ≤ n * sz := Nat.mul_le_mul_right sz hi
  rw [Nat.add_mul] at this
  omega

theorem ok_load_rptr (h : Sat E ρ V Z σ a w) {o : Oper} (hd : ∀ n, o.dst = some n → n < E.nt) {id' : Nat} {t : TypeId} {T : TI} (hT : ti P t = some T) {v : Value} {id sz i off : Nat} {l : List AV} {e : AV}
    (hv : Rel ρ V Z w v (.rptr id sz i off)) (ho : σ.hp id = some (.row sz l)) (hi : l[i]? = some e) {x : AV} (hx : ldA T e.cells off = some x)
    (hrun : execOp a.eval o = (do pure (Next.value (← Instr.loadAt t v)))) : OpOk P E o σ a w V Z id' (.val x) := by
  obtain ⟨hV, h0⟩ := h.hs.obj _ _ ho
  have hil : i < l.length := by
    rcases Nat.lt_or_ge i l.length with h | h
    · exact h
    · rw [List.getElem?_eq_none h] at hi; cases hi
  have he : l.getD i default = e := by simp [List.getD_eq_getElem?_getD, hi]
  rcases h0 with ⟨_, hl⟩ | ⟨h0, cs, ty, h1, h2, h3, h4, h5, h6⟩
  · subst hl; simp at hil
  have hsz := h5 i hil
  rw [he] at hsz
  cases hv
  have hc : ∀ j, j < e.cells.length → w.cell? ⟨(ρ id).blk, i * sz + j, none⟩ = some (cs.getD (i * sz + j) undef) := by
    intro j hj
    have h7 : i * sz + j < cs.size := by
      have := row_idx (j := j) (sz := sz) hil (by omega)
      have h8 : l.length * sz ≤ (ρ id).cap * sz := Nat.mul_le_mul_right sz h3
      omega
    simp [World.cell?, h1, Array.getD, h7]
  have h6' := fun j (hj : j < e.cells.length) => h6 i j hil (by omega)
  rw [he] at h6'
  obtain ⟨v', hr, hrel⟩ := ld_run hT hc (fun j hj => (h6' j hj).1) (fun j hj => (h6' j hj).2) hx
  exact ok_val h hd (by rw [hrun, run_value hr]) hrel

theorem spl_len {l xs : List AV} {off : Nat} (h : off + xs.length ≤ l.length) : (spl l off xs).length = l.length := by
  simp [spl]; omega

theorem spl_getD {l xs : List AV} {off : Nat} (h : off + xs.length ≤ l.length) (k : Nat) :
    (spl l off xs).getD k default = if off ≤ k ∧ k < off + xs.length then xs.getD (k - off) default else l.getD k default := by
  simp only [spl, List.getD_eq_getElem?_getD]
  by_cases h1 : k < off
  · rw [if_neg (by omega), List.append_assoc, List.getElem?_append_left (by simp; omega), List.getElem?_take, if_pos h1]
  · have ht : (l.take off).length = off := by simp; omega
    by_cases h2 : k < off + xs.length
    · rw [if_pos (by omega), List.append_assoc, List.getElem?_append_right (by omega), ht, List.getElem?_append_left (by omega)]
    · rw [if_neg (by omega), List.getElem?_append_right (by simp; omega), List.getElem?_drop]
      congr 2
      simp
      omega

/-- A store over known cells. -/
theorem st_run {t : TypeId} {T : TI} (hT : ti P t = some T) {b o : Nat} {v : Value} {x : AV} (hv : Rel ρ V Z w v x) (hsz : x.cells.length = T.size) (htup : x.isTup = false) {cs : Array Value} {ty : TypeId}
    (hh : w.heap[b]? = some (.cells cs ty (0, 0))) (hle : o + T.size ≤ cs.size) :
    ∃ w' cs', (Instr.storeAt t (.pointer (some ⟨b, o, none⟩)) v).run P w = .ok () w' ∧ w'.heap[b]? = some (.cells cs' ty (0, 0)) ∧ cs'.size = cs.size ∧
      (∀ k, cs'.getD k undef = if o ≤ k ∧ k < o + T.size then v.cells.getD (k - o) undef else cs.getD k undef) ∧
      (∀ b', b' ≠ b → w'.heap[b']? = w.heap[b']?) ∧ w'.heap.size = w.heap.size ∧ w'.os = w.os ∧ w'.output = w.output ∧
      (∀ j, j < T.size → (x.cells.getD j default).one = true) := by
  obtain ⟨h1, h2⟩ := hv.cells
  have hone : ∀ j, j < T.size → (x.cells.getD j default).one = true := by
    intro j hj
    rw [← hsz] at hj
    by_cases hx : ∃ l, x = .agg l
    · obtain ⟨l, rfl⟩ := hx
      obtain ⟨_, _, _, h1, _⟩ := hv.agg_inv
      exact h1 j hj
    · have hx' : ∀ l, x ≠ .agg l := fun l hl => hx ⟨l, hl⟩
      rw [AV.cells_one hx'] at hj ⊢
      obtain rfl : j = 0 := by simp only [List.length_cons, List.length_nil] at hj; omega
      cases x <;> first | rfl | exact absurd rfl (hx' _) | cases htup
  have hoc : ∀ u ∈ v.cells.toList, u.oneCell' = true := by
    intro u hu
    obtain ⟨j, hj, rfl⟩ := List.getElem_of_mem hu
    have hj' : j < T.size := by simp only [Array.length_toList] at hj; omega
    have := (h2 j (by omega)).oneCell (hone j hj')
    have hj2 : j < v.cells.size := by omega
    simpa [Array.getD, hj2] using this
  obtain ⟨w', cs', r1, r2, r3, r4, r5, r6, r7, r8⟩ := storeCells_run (P := P) v.cells.toList 0 o w cs ty hh (by simp; omega) hoc
  refine ⟨w', cs', ?_, r2, r3, ?_, r5, r6, r7, r8, hone⟩
  · unfold Instr.storeAt Instr.sureAddr storeVar
    simp only [Sem.run_bind, Sem.run_pure, Result.andThen_ok, run_sizeOf hT]
    rw [if_neg (by omega)]
    exact r1
  · intro k
    rw [r4 k]
    simp only [Nat.add_zero, Array.length_toList, h1, hsz]
    split
    · simp [List.getD_eq_getElem?_getD, Array.getD_eq_getD_getElem?]
    · rfl

theorem ok_store_ptr (h : Sat E ρ V Z σ a w) {o : Oper} (hd : ∀ n, o.dst = some n → n < E.nt) {id' : Nat} {t : TypeId} {T : TI} (hT : ti P t = some T) {v u : Value} {id off : Nat} {l l' : List AV} {x : AV}
    (hv : Rel ρ V Z w v (.ptr id off)) (hu : Rel ρ V Z w u x) (ho : σ.hp id = some (.cells l)) (hx : stA T l off x = some l')
    (hrun : execOp a.eval o = (do Instr.storeAt t v u; pure .skip)) : OpOk P E o σ a w V Z id' (.set id (.cells l') (.tup [])) := by
  obtain ⟨hV, h0, cs, ty, h1, h2, h3⟩ := h.hs.obj _ _ ho
  unfold stA at hx
  split at hx
  · rename_i hcond
    obtain ⟨hsz, hle, htup⟩ := hcond
    cases hx
    cases hv
    obtain ⟨w', cs', r1, r2, r3, r4, r5, r6, r7, r8, hone⟩ := st_run (o := off) hT hu hsz htup h1 (by omega)
    have hsep : ∀ o, ¬ Z (ρ id).blk o := h.hs.sep _ _ _ ho ⟨h0, rfl⟩
    have hcell : ∀ b o, Z b o → w'.cell? ⟨b, o, none⟩ = w.cell? ⟨b, o, none⟩ := by
      intro b o hz
      exact cell?_of_heap (r5 b (fun e => hsep o (e ▸ hz)))
    have hm : ∀ {v x}, Rel ρ V Z w v x → Rel ρ V Z w' v x := fun hh => hh.mono (fun _ _ => rfl) (fun _ h => h) (fun _ _ h => h) hcell
    refine ⟨.skip, w', undef, ρ, V, by rw [hrun]; simp [r1], .inr ⟨rfl, rfl⟩, fun _ h => h, fun _ h => .inl h, ?_⟩
    refine h.set hd ho h0 r5 r6 r7 r8 (fun c t f hc => by rw [r2] at hc; cases hc; rfl) ?_ (.tup _ _ rfl (fun i hi => absurd hi (Nat.not_lt_zero _)))
    refine ⟨h0, cs', ty, r2, by rw [r3, h2, spl_len (by omega)], fun i hi => ?_⟩
    rw [spl_len (by omega)] at hi
    rw [spl_getD (by omega), r4 i, hsz]
    by_cases hi2 : off ≤ i ∧ i < off + T.size
    · rw [if_pos hi2, if_pos hi2]
      exact ⟨hone _ (by omega), hm (hu.cells.2 _ (by omega))⟩
    · rw [if_neg hi2, if_neg hi2]
      exact ⟨(h3 i hi).1, hm (h3 i hi).2⟩
  · cases hx

theorem ok_store_rptr (h : Sat E ρ V Z σ a w) {o : Oper} (hd : ∀ n, o.dst = some n → n < E.nt) {id' : Nat} {t : TypeId} {T : TI} (hT : ti P t = some T) {v u : Value} {id sz i off : Nat} {l c : List AV} {x e : AV}
    (hv : Rel ρ V Z w v (.rptr id sz i off)) (hu : Rel ρ V Z w u x) (ho : σ.hp id = some (.row sz l)) (hi : l[i]? = some e) (hx : stA T e.cells off x = some c)
    (hrun : execOp a.eval o = (do Instr.storeAt t v u; pure .skip)) :
    OpOk P E o σ a w V Z id' (.set id (.row sz (l.set i (reElem e c))) (.tup [])) := by
  obtain ⟨hV, h0⟩ := h.hs.obj _ _ ho
  have hil : i < l.length := by
    rcases Nat.lt_or_ge i l.length with h | h
    · exact h
    · rw [List.getElem?_eq_none h] at hi; cases hi
  have he : l.getD i default = e := by simp [List.getD_eq_getElem?_getD, hi]
  rcases h0 with ⟨_, hl⟩ | ⟨h0, cs, ty, h1, h2, h3, h4, h5, h6⟩
  · subst hl; simp at hil
  have hesz := h5 i hil
  rw [he] at hesz
  unfold stA at hx
  split at hx
  · rename_i hcond
    obtain ⟨hsz, hle, htup⟩ := hcond
    cases hx
    cases hv
    have hbound : i * sz + sz ≤ cs.size := by
      have h8 : (i + 1) * sz ≤ (ρ id).cap * sz := Nat.mul_le_mul_right sz (by omega)
      rw [Nat.add_mul] at h8
      omega
    obtain ⟨w', cs', r1, r2, r3, r4, r5, r6, r7, r8, hone⟩ := st_run (o := i * sz + off) hT hu hsz htup h1 (by omega)
    have hsep : ∀ o, ¬ Z (ρ id).blk o := h.hs.sep _ _ _ ho ⟨h0, rfl⟩
    have hcell : ∀ b o, Z b o → w'.cell? ⟨b, o, none⟩ = w.cell? ⟨b, o, none⟩ := by
      intro b o hz
      exact cell?_of_heap (r5 b (fun e => hsep o (e ▸ hz)))
    have hm : ∀ {v x}, Rel ρ V Z w v x → Rel ρ V Z w' v x := fun hh => hh.mono (fun _ _ => rfl) (fun _ h => h) (fun _ _ h => h) hcell
    have hcl : (spl e.cells off x.cells).length = sz := by rw [spl_len (by omega)]; exact hesz
    have hcells : (reElem e (spl e.cells off x.cells)).cells = spl e.cells off x.cells := by
      by_cases hx : ∃ l, e = .agg l
      · obtain ⟨l, rfl⟩ := hx; rfl
      · have hx' : ∀ l, e ≠ .agg l := fun l hl => hx ⟨l, hl⟩
        have h9 : e.cells.length = 1 := by rw [AV.cells_one hx']; rfl
        have h10 : (reElem e (spl e.cells off x.cells)) = (spl e.cells off x.cells).getD 0 default := by
          unfold reElem
          cases e <;> first | rfl | exact absurd rfl (hx' _)
        rw [h10]
        have h11 : (spl e.cells off x.cells).length = 1 := by omega
        have h12 : ((spl e.cells off x.cells).getD 0 default).one = true := by
          rw [spl_getD (by omega)]
          split
          · exact hone _ (by omega)
          · have := (h6 i 0 hil (by omega)).1
            rw [he] at this
            exact this
        obtain ⟨y, hy⟩ := List.length_eq_one_iff.1 h11
        rw [hy] at h12 ⊢
        refine AV.cells_one fun l hl => ?_
        rw [hl] at h12
        cases h12
    refine ⟨.skip, w', undef, ρ, V, by rw [hrun]; simp [r1], .inr ⟨rfl, rfl⟩, fun _ h => h, fun _ h => .inl h, ?_⟩
    refine h.set hd ho h0 r5 r6 r7 r8 (fun c t f hc => by rw [r2] at hc; cases hc; rfl) ?_ (.tup _ _ rfl (fun i hi => absurd hi (Nat.not_lt_zero _)))
    have hset : ∀ k, k < l.length → (l.set i (reElem e (spl e.cells off x.cells))).getD k default =
        if k = i then (reElem e (spl e.cells off x.cells)) else l.getD k default := by
      intro k hk
      by_cases e1 : k = i
      · subst e1; simp [List.getD_eq_getElem?_getD, hk]
      · simp [List.getD_eq_getElem?_getD, List.getElem?_set, Ne.symm e1, e1]
    refine .inr ⟨h0, cs', ty, r2, by rw [h2]; simp, by simpa using h3, by rw [r3, h4], ?_, ?_⟩
    · intro k hk
      simp only [List.length_set] at hk
      rw [hset k hk]
      split
      · rw [hcells]; exact hcl
      · exact h5 k hk
    · intro k j hk hj
      simp only [List.length_set] at hk
      rw [hset k hk, r4]
      by_cases hki : k = i
      · subst hki
        rw [if_pos rfl]
        · rw [hcells, spl_getD (by omega)]
          by_cases hj2 : off ≤ j ∧ j < off + x.cells.length
          · rw [if_pos hj2, if_pos (by omega)]
            refine ⟨hone _ (by omega), ?_⟩
            rw [show k * sz + j - (k * sz + off) = j - off by omega]
            exact hm (hu.cells.2 _ (by omega))
          · rw [if_neg hj2, if_neg (by omega)]
            have := h6 k j hk hj
            rw [he] at this
            exact ⟨this.1, hm this.2⟩
      · rw [if_neg hki]
        have hout : ¬ (i * sz + off ≤ k * sz + j ∧ k * sz + j < i * sz + off + T.size) := by
          intro ⟨g1, g2⟩
          rcases Nat.lt_or_gt_of_ne hki with g | g
          · have := Nat.mul_le_mul_right sz (show k + 1 ≤ i by omega)
            rw [Nat.add_mul] at this
            omega
          · have := Nat.mul_le_mul_right sz (show i + 1 ≤ k by omega)
            rw [Nat.add_mul] at this
            omega
        rw [if_neg hout]
        exact ⟨(h6 k j hk hj).1, hm (h6 k j hk hj).2⟩
  · cases hx

end Go.Am

/- The abstract machine: slices: made, cut, measured, indexed, appended to. -/
set_option linter.unusedVariables false
set_option linter.unusedSimpArgs false
namespace Go.Am

variable {P : Program} {E : En} {ρ : Nat → Ref} {V : Nat → Prop} {Z : Nat → Nat → Prop} {σ : St} {a : Act} {w : World}

/-- Cells that hold the cells of elements, one element after the other. -/
def Cells (ρ : Nat → Ref) (V : Nat → Prop) (Z : Nat → Nat → Prop) (w : World) (cs : Array Value) (off sz : Nat) (l : List AV) : Prop :=
  (∀ i, i < l.length → (l.getD i default).cells.length = sz) ∧
  ∀ i j, i < l.length → j < sz → ((l.getD i default).cells.getD j default).one = true ∧ Rel ρ V Z w (cs.getD (off + i * sz + j) undef) ((l.getD i default).cells.getD j default)

theorem Rel.sl_inv {v : Value} {l : List AV} (h : Rel ρ V Z w v (.sl l)) : ∃ a cap, v = .slice a l.length cap ∧ l.length ≤ cap ∧
    (l = [] ∨ ∃ (b o sz : Nat) (cs : Nat → Nat → Value), a = some ⟨b, o, none⟩ ∧ (∀ i, i < l.length → (l.getD i default).cells.length = sz) ∧
      (∀ i j, i < l.length → j < sz → w.cell? ⟨b, o + i * sz + j, none⟩ = some (cs i j) ∧ Z b (o + i * sz + j) ∧ ((l.getD i default).cells.getD j default).one = true ∧ ((l.getD i default).cells.getD j default).clo = true) ∧
      (∀ i j, i < l.length → j < sz → Rel ρ V Z w (cs i j) ((l.getD i default).cells.getD j default))) := by
  generalize hx : AV.sl l = x at h
  cases h <;> cases hx
  · exact ⟨_, _, rfl, Nat.zero_le _, .inl rfl⟩
  · rename_i b o cap sz cs h0 h1 h2 h3
    exact ⟨_, _, rfl, h0, .inr ⟨b, o, sz, cs, rfl, h1, h2, h3⟩⟩

theorem Rel.rw_inv {v : Value} {id : Nat} (h : Rel ρ V Z w v (.rw id)) : v = (ρ id).slice ∧ V id := by
  generalize hx : AV.rw id = x at h
  cases h <;> cases hx
  exact ⟨rfl, ‹_›⟩

theorem Rel.int_inv {v : Value} {k : IntKind} {n : Int} (h : Rel ρ V Z w v (.int k n)) : v = .int k n := by
  generalize hx : AV.int k n = x at h
  cases h <;> cases hx
  rfl

theorem Rel.nilsl_inv {v : Value} (h : Rel ρ V Z w v .nilsl) : v = .slice none 0 0 := by
  generalize hx : AV.nilsl = x at h
  cases h <;> cases hx
  rfl

theorem div_mod_idx {i j sz : Nat} (hj : j < sz) : (i * sz + j) / sz = i ∧ (i * sz + j) % sz = j := by
  have hs : 0 < sz := by omega
  constructor
  · rw [Nat.mul_comm, Nat.mul_add_div hs, Nat.div_eq_of_lt hj, Nat.add_zero]
  · rw [Nat.mul_comm, Nat.mul_add_mod, Nat.mod_eq_of_lt hj]

theorem SzOk.getD {l : List AV} {n : Nat} (h : SzOk l n) {i : Nat} (hi : i < l.length) : (l.getD i default).cells.length = n := by
  have : l.getD i default = l[i] := by simp [List.getD_eq_getElem?_getD, hi]
  rw [this]
  exact h _ (List.getElem_mem hi)

/-- The cells of a frozen slice, loaded. -/
theorem sl_cells {l : List AV} {b o sz : Nat} {cs : Nat → Nat → Value} (h1 : ∀ i, i < l.length → (l.getD i default).cells.length = sz)
    (h2 : ∀ i j, i < l.length → j < sz → w.cell? ⟨b, o + i * sz + j, none⟩ = some (cs i j) ∧ Z b (o + i * sz + j) ∧ ((l.getD i default).cells.getD j default).one = true ∧ ((l.getD i default).cells.getD j default).clo = true)
    (h3 : ∀ i j, i < l.length → j < sz → Rel ρ V Z w (cs i j) ((l.getD i default).cells.getD j default)) :
    ∃ nc, (loadCells ⟨b, o, none⟩ (l.length * sz)).run P w = .ok nc w ∧ nc.size = l.length * sz ∧ Cells ρ V Z w nc 0 sz l := by
  refine ⟨((List.range (l.length * sz)).map fun k => cs (k / sz) (k % sz)).toArray, ?_, by simp, h1, ?_⟩
  · refine loadCells_run (fun k => cs (k / sz) (k % sz)) (fun k hk => ?_)
    have hs : 0 < sz := by
      rcases Nat.eq_zero_or_pos sz with h | h
      · subst h; simp at hk
      · exact h
    have hi : k / sz < l.length := by rw [Nat.div_lt_iff_lt_mul hs]; exact hk
    have := (h2 (k / sz) (k % sz) hi (Nat.mod_lt _ hs)).1
    rw [show o + k / sz * sz + k % sz = o + k by rw [Nat.add_assoc, Nat.mul_comm, Nat.div_add_mod]] at this
    exact this
  · intro i j hi hj
    refine ⟨(h2 i j hi hj).2.2.1, ?_⟩
    rw [Nat.zero_add, getD_range_map _ (row_idx hi hj)]
    have := div_mod_idx (i := i) hj
    simp only [this.1, this.2]
    exact h3 i j hi hj

/-- The cells of an owned row, loaded. -/
theorem row_cells {l : List AV} {b sz : Nat} {cs : Array Value} {ty : TypeId} (h1 : w.heap[b]? = some (.cells cs ty (0, 0))) (h4 : l.length * sz ≤ cs.size) (h : Cells ρ V Z w cs 0 sz l) :
    ∃ nc, (loadCells ⟨b, 0, none⟩ (l.length * sz)).run P w = .ok nc w ∧ nc.size = l.length * sz ∧ Cells ρ V Z w nc 0 sz l := by
  refine ⟨((List.range (l.length * sz)).map fun k => cs.getD k undef).toArray, ?_, by simp, h.1, ?_⟩
  · refine loadCells_run (fun k => cs.getD k undef) (fun k hk => ?_)
    have : k < cs.size := by omega
    simp [World.cell?, h1, Array.getD, this]
  · intro i j hi hj
    refine ⟨(h.2 i j hi hj).1, ?_⟩
    rw [Nat.zero_add, getD_range_map _ (row_idx hi hj)]
    simpa using (h.2 i j hi hj).2

theorem ObjRel.row_cells' {id sz : Nat} {l : List AV} (h : ObjRel ρ V Z w id (.row sz l)) : ((ρ id).nil = true ∧ l = []) ∨
    ((ρ id).nil = false ∧ ∃ cs ty, w.heap[(ρ id).blk]? = some (.cells cs ty (0, 0)) ∧ (ρ id).len = l.length ∧ l.length ≤ (ρ id).cap ∧ cs.size = (ρ id).cap * sz ∧ Cells ρ V Z w cs 0 sz l) := by
  rcases h with h | ⟨h0, cs, ty, h1, h2, h3, h4, h5, h6⟩
  · exact .inl h
  · exact .inr ⟨h0, cs, ty, h1, h2, h3, h4, h5, fun i j hi hj => by simpa using h6 i j hi hj⟩

theorem ObjRel.of_cells {id sz : Nat} {l : List AV} (h0 : (ρ id).nil = false) {cs : Array Value} {ty : TypeId} (h1 : w.heap[(ρ id).blk]? = some (.cells cs ty (0, 0))) (h2 : (ρ id).len = l.length) (h3 : l.length ≤ (ρ id).cap)
    (h4 : cs.size = (ρ id).cap * sz) (h : Cells ρ V Z w cs 0 sz l) : ObjRel ρ V Z w id (.row sz l) :=
  .inr ⟨h0, cs, ty, h1, h2, h3, h4, h.1, fun i j hi hj => by simpa using h.2 i j hi hj⟩

theorem Cells.mono {ρ' : Nat → Ref} {V' : Nat → Prop} {Z' : Nat → Nat → Prop} {w' : World} {cs : Array Value} {off sz : Nat} {l : List AV} (h : Cells ρ V Z w cs off sz l)
    (hm : ∀ v x, Rel ρ V Z w v x → Rel ρ' V' Z' w' v x) : Cells ρ' V' Z' w' cs off sz l :=
  ⟨h.1, fun i j hi hj => ⟨(h.2 i j hi hj).1, hm _ _ (h.2 i j hi hj).2⟩⟩

/-- Two groups of cells, one after the other. -/
theorem Cells.append {c1 c2 : Array Value} {off1 off2 sz : Nat} {l1 l2 : List AV} (h1 : Cells ρ V Z w c1 off1 sz l1) (h2 : Cells ρ V Z w c2 off2 sz l2) {c : Array Value}
    (e1 : ∀ k, k < l1.length * sz → c.getD k undef = c1.getD (off1 + k) undef) (e2 : ∀ k, k < l2.length * sz → c.getD (l1.length * sz + k) undef = c2.getD (off2 + k) undef) :
    Cells ρ V Z w c 0 sz (l1 ++ l2) := by
  have g1 : ∀ i, i < l1.length → (l1 ++ l2).getD i default = l1.getD i default := fun i hi => by simp [List.getD_eq_getElem?_getD, List.getElem?_append_left hi]
  have g2 : ∀ i, l1.length ≤ i → (l1 ++ l2).getD i default = l2.getD (i - l1.length) default := fun i hi => by simp [List.getD_eq_getElem?_getD, List.getElem?_append_right hi]
  constructor
  · intro i hi
    simp only [List.length_append] at hi
    by_cases h : i < l1.length
    · rw [g1 i h]; exact h1.1 i h
    · rw [g2 i (by omega)]; exact h2.1 _ (by omega)
  · intro i j hi hj
    simp only [List.length_append] at hi
    by_cases h : i < l1.length
    · rw [g1 i h, Nat.zero_add, e1 _ (row_idx h hj), ← Nat.add_assoc]; exact h1.2 i j h hj
    · rw [g2 i (by omega)]
      have := h2.2 (i - l1.length) j (by omega) hj
      rw [show 0 + i * sz + j = l1.length * sz + ((i - l1.length) * sz + j) by
        have : i = l1.length + (i - l1.length) := by omega
        conv => lhs; rw [this, Nat.add_mul]
        omega, e2 _ (row_idx (by omega) hj), ← Nat.add_assoc]
      exact this

theorem mkElem_cells {T : TI} {zs : List AV} {z : Value} (hz : z.cells.toList.mapM avOf1 = some zs) (hl : zs.length = T.size) (hk : T.k.isAgg = true ∨ T.size = 1) : (mkElem T zs).cells = zs := by
  unfold mkElem
  split
  · rfl
  · rename_i h
    rcases hk with hk | hk
    · exact absurd hk h
    · obtain ⟨y, hy⟩ := List.length_eq_one_iff.1 (hl.trans hk)
      subst hy
      have := (cells_avOf1 (ρ := fun _ => ⟨0, 0, 0, false⟩) (V := fun _ => True) (Z := fun _ _ => True) (w := default) hz).2 0 (by simp)
      exact AV.cells_one fun l hl => by
        have h1 := this.1
        simp only [List.getD_cons_zero] at h1 hl
        rw [hl] at h1; cases h1

/-- Cells of zero elements. -/
theorem zero_cells {T : TI} {zs : List AV} {z : Value} (hz : z.cells.toList.mapM avOf1 = some zs) (hl : zs.length = T.size) (hk : T.k.isAgg = true ∨ T.size = 1) (n : Nat) (c : Array Value)
    (hc : ∀ k, k < n * T.size → c.getD k undef = z.cells.getD (k % T.size) undef) : Cells ρ V Z w c 0 T.size (List.replicate n (mkElem T zs)) := by
  have h1 := cells_avOf1 (ρ := ρ) (V := V) (Z := Z) (w := w) hz
  have g : ∀ i, i < n → (List.replicate n (mkElem T zs)).getD i default = mkElem T zs := fun i hi => by simp [List.getD_eq_getElem?_getD, hi]
  constructor
  · intro i hi
    simp only [List.length_replicate] at hi
    rw [g i hi, mkElem_cells hz hl hk, hl]
  · intro i j hi hj
    simp only [List.length_replicate] at hi
    rw [g i hi, mkElem_cells hz hl hk, Nat.zero_add, hc _ (row_idx hi hj), (div_mod_idx hj).2]
    exact h1.2 j (by omega)

theorem getD_zeroCells (z : Array Value) (n k : Nat) (hk : k < n * z.size) : (Builtin.zeroCells z n).getD k undef = z.getD (k % z.size) undef := by
  have hs : 0 < z.size := by
    rcases Nat.eq_zero_or_pos z.size with h | h
    · rw [h] at hk; simp at hk
    · exact h
  have hm : k % z.size < z.size := Nat.mod_lt _ hs
  simp [Builtin.zeroCells, Array.getD, hk, hm]

theorem growBy_le (n : Nat) : ∀ r c, Builtin.growBy n r c ≤ max c (n + (n + 768) / 4)
  | 0, c => by simp [Builtin.growBy]; omega
  | r + 1, c => by
    simp only [Builtin.growBy]
    split
    · omega
    · have := growBy_le n r (c + (c + 768) / 4)
      omega

theorem nextcap_le {need cap : Nat} (h : cap < need) : Builtin.nextslicecap need cap ≤ 2 * need + 1024 := by
  unfold Builtin.nextslicecap
  split
  · omega
  · split
    · omega
    · have := growBy_le need 4 cap
      omega

/-- What is appended, run. -/
theorem src_run (h : Sat E ρ V Z σ a w) {Te : TI} {e ts tx : TypeId} (hTe : ti P e = some Te) {x : AV} {v : Value} {ox : Option AObj} {ob : Prop} {xs : List AV} (hs : srcA P Te tx x ox = some (ob, xs)) (hob : ob)
    (hx : Rel ρ V Z w v x) (hox : ∀ o, ox = some o → ∀ id, x.id? = some id → σ.hp id = some o) {zs : List AV} (hz : Te.zero = some zs) (hzl : zs.length = Te.size) (hb : xs.length * Te.bytes ≤ 2 ^ 48) (hn : xs.length ≤ 2 ^ 46) :
    ∃ u, (underlying tx).run P w = .ok u w ∧
      ((match u with | .int _ => true | _ => false) = true → ∃ k, v = .int k xs.length) ∧
      ((match u with | .int _ => true | _ => false) = false → (Builtin.lenOf v).run P w = .ok xs.length w ∧ ∃ nc, (Builtin.firstCells Te.size xs.length v).run P w = .ok nc w ∧ nc.size = xs.length * Te.size ∧ Cells ρ V Z w nc 0 Te.size xs) ∧
      ((match u with | .int _ => true | _ => false) = true → ∀ z : Value, z.cells.toList.mapM avOf1 = some zs → ∀ nc : Array Value, nc.size = xs.length * Te.size → (∀ k, k < xs.length * Te.size → nc.getD k undef = z.cells.getD (k % Te.size) undef) → Cells ρ V Z w nc 0 Te.size xs) := by
  unfold srcA at hs
  cases hTx : ti P tx with
  | none => rw [hTx] at hs; cases hs
  | some Tx =>
    rw [hTx] at hs
    simp only at hs
    obtain ⟨u, hu1, hu2⟩ := run_underlying (w := w) hTx
    refine ⟨u, hu1, ?_⟩
    generalize Tx.k = kk at hs hu2
    unfold srcB at hs
    split at hs
    · rename_i k1 k2 n
      rw [tk_int hu2]
      rw [hz] at hs
      simp only at hs
      split at hs
      · rename_i hcond
        cases hs
        rw [hx.int_inv]
        have hlen : ((List.replicate n.toNat (mkElem Te zs)).length : Int) = n := by simp; omega
        refine ⟨fun _ => ⟨k2, by rw [hlen]⟩, fun hc => by simp at hc, fun _ z hz' nc hnc hcs => zero_cells hz' hzl hcond.2 _ _ (by simpa using hcs)⟩
      · cases hs
    · rw [tk_slice hu2]
      cases hs
      rw [hx.nilsl_inv]
      refine ⟨fun hc => by simp at hc, fun _ => ⟨by simp [Builtin.lenOf], #[], by simp [Builtin.firstCells], by simp, fun i hi => absurd hi (Nat.not_lt_zero _), fun i j hi => absurd hi (Nat.not_lt_zero _)⟩, fun hc => by simp at hc⟩
    · rename_i xs'
      rw [tk_slice hu2]
      cases hs
      refine ⟨fun hc => by simp at hc, fun _ => ?_, fun hc => by simp at hc⟩
      obtain ⟨a', cap, rfl, hcap, h1⟩ := hx.sl_inv
      refine ⟨by simp [Builtin.lenOf], ?_⟩
      rcases h1 with rfl | ⟨b, o, sz, cs, rfl, h1, h2, h3⟩
      · refine ⟨#[], ?_, by simp, fun i hi => absurd hi (Nat.not_lt_zero _), fun i j hi => absurd hi (Nat.not_lt_zero _)⟩
        cases a' <;> simp [Builtin.firstCells, loadCells, loadCellsFrom]
      · by_cases hnil : xs = []
        · subst hnil
          exact ⟨#[], by simp [Builtin.firstCells, loadCells, loadCellsFrom], by simp, fun i hi => absurd hi (Nat.not_lt_zero _), fun i j hi => absurd hi (Nat.not_lt_zero _)⟩
        · have hpos : 0 < xs.length := List.length_pos_iff.2 hnil
          have hsz : sz = Te.size := (h1 0 hpos).symm.trans (hob.getD hpos)
          subst hsz
          obtain ⟨nc, g1, g2, g3⟩ := sl_cells (P := P) h1 h2 h3
          exact ⟨nc, by simpa [Builtin.firstCells] using g1, g2, g3⟩
    · rename_i id sz xs'
      rw [tk_slice hu2]
      split at hs
      · rename_i hsz
        subst hsz
        cases hs
        refine ⟨fun hc => by simp at hc, fun _ => ?_, fun hc => by simp at hc⟩
        have hobj := (h.hs.obj id _ (hox _ rfl id rfl)).2
        obtain ⟨rfl, hV⟩ := hx.rw_inv
        unfold Ref.slice
        rcases hobj.row_cells' with ⟨h0, rfl⟩ | ⟨h0, cs, ty, h1, h2, h3, h4, h5⟩
        · rw [if_pos h0]
          exact ⟨by simp [Builtin.lenOf], #[], by simp [Builtin.firstCells], by simp, fun i hi => absurd hi (Nat.not_lt_zero _), fun i j hi => absurd hi (Nat.not_lt_zero _)⟩
        · rw [if_neg (by simp [h0])]
          refine ⟨by simp [Builtin.lenOf, h2], ?_⟩
          obtain ⟨nc, g1, g2, g3⟩ := row_cells (P := P) h1 (by rw [h4]; exact Nat.mul_le_mul_right _ h3) h5
          exact ⟨nc, by simpa [Builtin.firstCells] using g1, g2, g3⟩
      · cases hs
    · cases hs

end Go.Am

/- The abstract machine: append. -/
set_option linter.unusedVariables false
set_option linter.unusedSimpArgs false
namespace Go.Am

variable {P : Program} {E : En} {ρ : Nat → Ref} {V : Nat → Prop} {Z : Nat → Nat → Prop} {σ : St} {a : Act} {w : World}

/-- The cells that are appended, run. -/
def NewCells (P : Program) (w : World) (e tx : TypeId) (size n : Nat) (v : Value) (nc : Array Value) : Prop :=
  ∃ u, (underlying tx).run P w = .ok u w ∧
    (((match u with | .int _ => true | _ => false) = true ∧ (∃ k, v = .int k n) ∧ ∃ z, (zeroValue e).run P w = .ok z w ∧ z.cells.size = size ∧ nc = if n * size = 0 then #[] else Builtin.zeroCells z.cells n) ∨
     ((match u with | .int _ => true | _ => false) = false ∧ (Builtin.lenOf v).run P w = .ok n w ∧ (Builtin.firstCells size n v).run P w = .ok nc w)) ∧ nc.size = n * size

theorem src_new (h : Sat E ρ V Z σ a w) {Te : TI} {e tx : TypeId} (hTe : ti P e = some Te) {x : AV} {v : Value} {ox : Option AObj} {ob : Prop} {xs : List AV} (hs : srcA P Te tx x ox = some (ob, xs)) (hob : ob)
    (hx : Rel ρ V Z w v x) (hox : ∀ o, ox = some o → ∀ id, x.id? = some id → σ.hp id = some o) {zs : List AV} (hz : Te.zero = some zs) (hzl : zs.length = Te.size) (hb : xs.length * Te.bytes ≤ 2 ^ 48) (hn : xs.length ≤ 2 ^ 46) :
    ∃ nc, NewCells P w e tx Te.size xs.length v nc ∧ Cells ρ V Z w nc 0 Te.size xs := by
  obtain ⟨u, h1, h2, h3, h4⟩ := src_run (ts := tx) h hTe hs hob hx hox hz hzl hb hn
  obtain ⟨z, hz1, hz2⟩ := run_zero (w := w) hTe hz
  have hzs : z.cells.size = Te.size := by
    have := (mapM_avOf1 _ _ hz2).1
    simp at this
    omega
  cases hc : (match u with | .int _ => true | _ => false) with
  | false =>
    obtain ⟨g1, nc, g2, g3, g4⟩ := h3 hc
    exact ⟨nc, ⟨u, h1, .inr ⟨hc, g1, g2⟩, g3⟩, g4⟩
  | true =>
    have hsz : (if xs.length * Te.size = 0 then #[] else Builtin.zeroCells z.cells xs.length).size = xs.length * Te.size := by
      split
      · rename_i h0; rw [h0]; rfl
      · simp [Builtin.zeroCells, hzs]
    refine ⟨if xs.length * Te.size = 0 then #[] else Builtin.zeroCells z.cells xs.length, ⟨u, h1, .inl ⟨hc, h2 hc, z, hz1, hzs, rfl⟩, hsz⟩, h4 hc z hz2 _ hsz fun k hk => ?_⟩
    rw [if_neg (by omega)]
    have := getD_zeroCells z.cells xs.length k (by rw [hzs]; exact hk)
    rw [this, hzs]

/-- append within the capacity. -/
theorem append_fits {ts tx e : TypeId} {Ts Te : TI} (hTs : ti P ts = some Ts) (hk : Ts.k = .slice e) (hTe : ti P e = some Te) {base : Option Addr} {n m cap : Nat} {v : Value} {nc : Array Value} {ty : TypeId}
    (hnew : NewCells P w e tx Te.size m v nc) (hfit : n + m ≤ cap) (hb : m * Te.bytes ≤ 2 ^ 48) (hm : m ≤ 2 ^ 46) {w' : World}
    (hst : match base with | some b => (storeCells (b.add (n * Te.size)) nc.toList).run P w = .ok () w' | none => w' = w) :
    (Builtin.append_ #[ts, tx] ty #[.slice base n cap, v]).run P w = .ok (.slice base (n + m) cap) w' := by
  obtain ⟨u, hu, hcase, hsz⟩ := hnew
  obtain ⟨i, hi1, hi2, hi3, _⟩ := run_typeInfo (w := w) hTe
  have hus : (underlying ts).run P w = .ok (.slice e) w := run_underlying_slice hTs hk
  rcases hcase with ⟨hz, ⟨k, rfl⟩, z, hz1, hz2, hnc⟩ | ⟨hz, hl, hf⟩
  · have hw : IntKind.i64.wrap (m : Int) = m := IntWalk.i64_in _ (by omega)
    have hb2 : ¬ ((m : Int) * (i.bytes : Int) > 2 ^ 48) := by
      rw [hi3]
      have : ((m * Te.bytes : Nat) : Int) ≤ 2 ^ 48 := by exact_mod_cast hb
      push_cast at this
      omega
    have hneg : ¬ ((m : Int) < 0) := by omega
    obtain ⟨kk, rfl⟩ : ∃ kk, u = .int kk := by cases u <;> first | exact ⟨_, rfl⟩ | cases hz
    unfold Builtin.append_
    simp only [Sem.run_bind, hus, Result.andThen_ok, run_sizeOf hTe, hu, Sem.run_pure, asInt, asIntOf, hw, hneg, if_false, hi1, hb2, Sem.run_ite, Int.toNat_natCast,
      List.getElem?_toArray, List.getElem?_cons_zero, List.getElem?_cons_succ, hfit, if_true, Result.andThen_ok, Sem.run_bind, Sem.run_pure, hw, hneg, if_false, hi1, hb2, Sem.run_ite, Int.toNat_natCast, hfit, Bool.not_true, Bool.false_eq_true]
    subst hnc
    by_cases h0 : m * Te.size = 0
    · simp only [h0, if_true, Result.andThen_ok] at hst ⊢
      cases base with
      | none => simp only at hst ⊢; subst hst; simp
      | some b => simp only at hst ⊢; simp [hst]
    · simp only [h0, if_false, Result.andThen_ok, hz1, Sem.run_bind, Sem.run_pure] at hst ⊢
      cases base with
      | none => simp only at hst ⊢; subst hst; simp
      | some b => simp only at hst ⊢; simp [hst]
  · cases u
    case int => cases hz
    all_goals
      unfold Builtin.append_
      simp only [Sem.run_bind, hus, Result.andThen_ok, run_sizeOf hTe, hu, Sem.run_pure,
        List.getElem?_toArray, List.getElem?_cons_zero, List.getElem?_cons_succ,
        Result.andThen_ok, Sem.run_bind, Sem.run_pure, if_false, Sem.run_ite, hl, hf, hfit, if_true, Bool.not_false, Bool.false_eq_true]
      cases base with
      | none => simp only at hst ⊢; subst hst; simp
      | some b => simp only at hst ⊢; simp [hst]

theorem NewCells.heap {e tx : TypeId} {size n : Nat} {v : Value} {nc : Array Value} (h : NewCells P w e tx size n v nc) : ∃ u, (∀ w', (underlying tx).run P w' = .ok u w') ∧
    (((match u with | .int _ => true | _ => false) = true ∧ (∃ k, v = .int k n)) ∨ ((match u with | .int _ => true | _ => false) = false ∧ ∀ w', (Builtin.lenOf v).run P w' = .ok n w')) := by
  obtain ⟨u, hu, hcase, hsz⟩ := h
  refine ⟨u, ?_, ?_⟩
  · intro w'
    unfold underlying at hu ⊢
    simp only [Sem.run_bind, run_program, Result.andThen_ok] at hu ⊢
    cases hp : P.underlying tx with
    | none => simp [hp] at hu
    | some d => simp only [hp, Sem.run_pure] at hu ⊢; cases hu; rfl
  · rcases hcase with ⟨hz, hk, _⟩ | ⟨hz, hl, _⟩
    · exact .inl ⟨hz, hk⟩
    · refine .inr ⟨hz, fun w' => ?_⟩
      cases v <;> simp [Builtin.lenOf] at hl ⊢ <;> first | exact hl | exact hl.1

/-- append beyond the capacity: into new cells. -/
theorem append_grows {ts tx e : TypeId} {Ts Te : TI} (hTs : ti P ts = some Ts) (hk : Ts.k = .slice e) (hTe : ti P e = some Te) {zs : List AV} (hz0 : Te.zero = some zs) {base : Option Addr} {n m cap : Nat} {v : Value} {oc nc : Array Value} {ty : TypeId}
    (hnew : NewCells P w.drew e tx Te.size m v nc) (hgrow : cap < n + m) (hb : (2 * (n + m) + 1024) * Te.bytes ≤ 2 ^ 48) (hm : n + m ≤ 2 ^ 46)
    (hold : (Builtin.firstCells Te.size n (.slice base n cap)).run P w.drew = .ok oc w.drew) :
    ∃ (newCap : Nat) (rest : Array Value), n + m ≤ newCap ∧ rest.size = (newCap - (n + m)) * zs.length ∧
    (Builtin.append_ #[ts, tx] ty #[.slice base n cap, v]).run P w = .ok (.slice (some ⟨w.heap.size, 0, none⟩) (n + m) newCap) { w.drew with heap := w.heap.push (.cells (oc ++ nc ++ rest) e) } := by
  obtain ⟨u, hu, hcase, hsz⟩ := hnew
  obtain ⟨u', hu', hcase'⟩ := NewCells.heap (P := P) (w := w.drew) ⟨u, hu, hcase, hsz⟩
  obtain ⟨i, hi1, hi2, hi3, _⟩ := run_typeInfo (w := w) hTe
  obtain ⟨i', hi1', hi2', hi3', _⟩ := run_typeInfo (w := w.drew) hTe
  obtain ⟨zz, hzz1, hzz2⟩ := run_zero (w := w.drew) hTe hz0
  have hzzs : zz.cells.size = zs.length := by have := (mapM_avOf1 _ _ hzz2).1; simpa using this
  have hus : (underlying ts).run P w = .ok (.slice e) w := run_underlying_slice hTs hk
  have huu : u' = u := by have := hu' w.drew; rw [hu] at this; cases this; rfl
  subst huu
  have huw := hu' w
  have hnf : ¬ (n + m ≤ cap) := by omega
  have hmb : m * Te.bytes ≤ 2 ^ 48 := Nat.le_trans (Nat.mul_le_mul_right _ (by omega)) hb
  have hi64 : ¬ (((n + m : Nat) : Int) > IntKind.i64.max) := by
    have : IntKind.i64.max = 9223372036854775807 := by decide
    rw [this]; omega
  have hcapb : ¬ (Builtin.nextslicecap (n + m) cap * i.bytes > 2 ^ 48) := by
    rw [hi3]
    have h1 := Nat.mul_le_mul_right Te.bytes (nextcap_le hgrow)
    omega
  refine ⟨(Question.appendCap (n + m) cap e).cut (w.tape w.drawn (.appendCap (n + m) cap e)), Builtin.zeroCells zz.cells ((Question.appendCap (n + m) cap e).cut (w.tape w.drawn (.appendCap (n + m) cap e)) - (n + m)), by simp [Question.cut], by simp [Builtin.zeroCells, hzzs], ?_⟩
  have hdrew : ({ w with drawn := w.drawn + 1 } : World) = w.drew := rfl
  rcases hcase with ⟨hz, ⟨k, rfl⟩, z, hz1, hz2, hnc⟩ | ⟨hz, hl, hf⟩
  · have hw : IntKind.i64.wrap (m : Int) = m := IntWalk.i64_in _ (by omega)
    have hb2 : ¬ ((m : Int) * (i.bytes : Int) > 2 ^ 48) := by
      rw [hi3]
      have : ((m * Te.bytes : Nat) : Int) ≤ 2 ^ 48 := by exact_mod_cast hmb
      push_cast at this
      omega
    have hneg : ¬ ((m : Int) < 0) := by omega
    obtain rfl : zz = z := by rw [hz1] at hzz1; cases hzz1; rfl
    obtain ⟨kk, rfl⟩ : ∃ kk, u' = .int kk := by cases u' <;> first | exact ⟨_, rfl⟩ | cases hz
    unfold Builtin.append_
    simp only [Sem.run_bind, hus, Result.andThen_ok, run_sizeOf hTe, huw, Sem.run_pure, asInt, asIntOf, hw, hneg, if_false, hi1, hb2, Sem.run_ite, Int.toNat_natCast,
      List.getElem?_toArray, List.getElem?_cons_zero, List.getElem?_cons_succ, hnf, if_true, Result.andThen_ok, Sem.run_bind, Sem.run_pure, hw, hneg, if_false, hi1, hb2, Sem.run_ite, Int.toNat_natCast, hnf, hi64, false_and, hcapb, Bool.not_true, Bool.false_eq_true,
      run_choose, Question.forced, run_askRoom, hdrew, hold, hi1', hzz1]
    subst hnc
    by_cases h0 : m * Te.size = 0
    · simp [h0, newRow, hzz1]; rfl
    · simp [h0, newRow, hz1, hzz1]; rfl
  · have hlw : (Builtin.lenOf v).run P w = .ok m w := by
      rcases hcase' with ⟨h1, _⟩ | ⟨_, h2⟩
      · rw [hz] at h1; cases h1
      · exact h2 w
    cases u'
    case int => cases hz
    all_goals
      unfold Builtin.append_
      simp only [Sem.run_bind, hus, Result.andThen_ok, run_sizeOf hTe, huw, Sem.run_pure,
        List.getElem?_toArray, List.getElem?_cons_zero, List.getElem?_cons_succ,
        Result.andThen_ok, Sem.run_bind, Sem.run_pure, if_false, Sem.run_ite, hlw, hnf, hi1, hi64, false_and, hcapb, Bool.not_false, Bool.false_eq_true, if_true,
        run_choose, Question.forced, run_askRoom, hdrew, hold, hi1', hzz1, hf]
      simp [newRow]
      rfl

end Go.Am

/- The abstract machine: append does to states what is said. -/
set_option linter.unusedVariables false
set_option linter.unusedSimpArgs false
namespace Go.Am

variable {P : Program} {E : En} {ρ : Nat → Ref} {V : Nat → Prop} {Z : Nat → Nat → Prop} {σ : St} {a : Act} {w : World}

def nilRef : Ref := ⟨0, 0, 0, true⟩

/-- A nil slice taken for an owned row without elements. -/
theorem Sat.newnil (h : Sat E ρ V Z σ a w) {d : Option Tmp} (hd : ∀ n, d = some n → n < E.nt) {id : Nat} (hid : ¬ V id) (sz : Nat) :
    Sat E (fun i => if i = id then nilRef else ρ i) (fun i => V i ∨ i = id) Z (({ σ with hp := updo σ.hp id (some (.row sz [])) } : St).put d (.rw id)) (a.put d (.slice none 0 0)) w := by
  have hne : ∀ i, V i → i ≠ id := fun i hi e => hid (e ▸ hi)
  refine h.step (fun _ => False) hd (fun i hi => if_neg (hne i hi)) (fun _ h => .inl h) (fun _ _ h => h) (fun _ h => h.elim) (fun _ _ _ => rfl) (Nat.le_refl _) rfl rfl ?_ ?_ ?_ (fun b o hz => .inl hz) ?_
  · intro b hb c t f hcf
    rcases hb with hb | hb
    · rw [Array.getElem?_eq_none hb] at hcf; cases hcf
    · exact hb.elim
  · intro i o' ho
    by_cases e : i = id
    · subst e
      simp only [updo, if_true] at ho
      cases ho
      refine .inr ⟨.inr rfl, .inl ⟨by simp [nilRef], rfl⟩, fun b hb => ?_⟩
      simp only [if_true] at hb
      exact absurd hb.1 (by simp [nilRef])
    · simp only [updo, if_neg e] at ho
      exact .inl ⟨ho, fun _ _ h => h⟩
  · intro i i' o1 o2 b ho ho' hb hb' hb2
    exfalso
    rcases hb2 with hb2 | hb2
    · exact hb2.elim
    · by_cases e : i = id
      · subst e; simp only [if_true] at hb; exact absurd hb.1 (by simp [nilRef])
      · simp only [updo, if_neg e] at ho
        simp only [if_neg e] at hb
        exact absurd ((h.hs.obj _ _ ho).2.lt b hb) (Nat.not_lt.2 hb2)
  · have := Rel.rw (ρ := fun i => if i = id then nilRef else ρ i) (V := fun i => V i ∨ i = id) (Z := Z) (w := w) id (.inr rfl)
    simpa [Ref.slice, nilRef] using this

theorem cells_push {x : Obj} (h : Sat E ρ V Z σ a w) : ∀ b o, Z b o → ({ w.drew with heap := w.heap.push x } : World).cell? ⟨b, o, none⟩ = w.cell? ⟨b, o, none⟩ := by
  intro b o hz
  refine cell?_of_heap ?_
  show (w.heap.push _)[b]? = _
  have := h.hs.lt b o hz
  rw [Array.getElem?_push, if_neg (by omega)]

/-- The cells of the grown row. -/
theorem grown_cells {sz newCap : Nat} {l xs : List AV} {oc nc rest : Array Value} (h1 : Cells ρ V Z w oc 0 sz l) (h2 : Cells ρ V Z w nc 0 sz xs) (e1 : oc.size = l.length * sz) (e2 : nc.size = xs.length * sz) :
    Cells ρ V Z w (oc ++ nc ++ rest) 0 sz (l ++ xs) := by
  refine Cells.append h1 h2 (fun k hk => ?_) (fun k hk => ?_)
  · rw [Nat.zero_add]
    simp only [Array.getD_eq_getD_getElem?]
    rw [Array.append_assoc, Array.getElem?_append_left (by omega)]
  · rw [Nat.zero_add]
    simp only [Array.getD_eq_getD_getElem?]
    rw [Array.append_assoc, Array.getElem?_append_right (by omega), Array.getElem?_append_left (by omega), e1]
    congr 2
    omega

theorem ok_append_rw (h : Sat E ρ V Z σ a w) {o : Oper} (hd : ∀ n, o.dst = some n → n < E.nt) {id : Nat} (hid : ¬ V id) {ts tx e ty : TypeId} {Ts Te : TI} (hTs : ti P ts = some Ts) (hk : Ts.k = .slice e) (hTe : ti P e = some Te)
    {zs : List AV} (hz : Te.zero = some zs) (hzl : zs.length = Te.size) {x : AV} {v u : Value} {ox : Option AObj} {ob : Prop} {l xs : List AV} {old : Nat} (hs : srcA P Te tx x ox = some (ob, xs)) (hob : ob)
    (hx : Rel ρ V Z w v x) (hox : ∀ o, ox = some o → ∀ id, x.id? = some id → σ.hp id = some o) (hu : Rel ρ V Z w u (.rw old)) (hold : σ.hp old = some (.row Te.size l))
    (hn : l.length + xs.length ≤ 2 ^ 46) (hb : (2 * (l.length + xs.length) + 1024) * Te.bytes ≤ 2 ^ 48)
    (hrun : execOp a.eval o = (do pure (Next.value (← Builtin.append_ #[ts, tx] ty #[u, v])))) : OpOk P E o σ a w V Z id (.swap old (.row Te.size (l ++ xs)) .rw) := by
  obtain ⟨hV, hobj⟩ := h.hs.obj _ _ hold
  obtain ⟨rfl, _⟩ := hu.rw_inv
  have hne : ∀ i, V i → i ≠ id := fun i hi e => hid (e ▸ hi)
  have hbx : xs.length * Te.bytes ≤ 2 ^ 48 := Nat.le_trans (Nat.mul_le_mul_right _ (by omega)) hb
  have hmono : ∀ (r : Ref) (w' : World), (∀ b o, Z b o → w'.cell? ⟨b, o, none⟩ = w.cell? ⟨b, o, none⟩) → ∀ v x, Rel ρ V Z w v x → Rel (fun i => if i = id then r else ρ i) (fun i => V i ∨ i = id) Z w' v x :=
    fun r w' hc v x hr => hr.mono (fun i hi => if_neg (hne i hi)) (fun _ h => .inl h) (fun _ _ h => h) hc
  have hsw : ∀ (r : Ref), r.nil = false → ∀ (w' : World), Rel (fun i => if i = id then r else ρ i) (fun i => V i ∨ i = id) Z w' (.slice (some ⟨r.blk, 0, none⟩) r.len r.cap) (.rw id) := by
    intro r hr w'
    have := Rel.rw (ρ := fun i => if i = id then r else ρ i) (V := fun i => V i ∨ i = id) (Z := Z) (w := w') id (.inr rfl)
    simpa [Ref.slice, hr] using this
  -- a new row
  have grow : ∀ (base : Option Addr) (cap : Nat) (oc : Array Value), (ρ old).slice = .slice base l.length cap → cap < l.length + xs.length → (Builtin.firstCells Te.size l.length (.slice base l.length cap)).run P w.drew = .ok oc w.drew →
      oc.size = l.length * Te.size → Cells ρ V Z w oc 0 Te.size l → OpOk P E o σ a w V Z id (.swap old (.row Te.size (l ++ xs)) .rw) := by
    intro base cap oc hsl hlt hoc hocs hcl
    have hdr := h.drew (w' := w.drew) rfl rfl rfl
    have hxd : Rel ρ V Z w.drew v x := hx.mono (fun _ _ => rfl) (fun _ h => h) (fun _ _ h => h) (fun _ _ _ => rfl)
    obtain ⟨nc, hnew, hcx⟩ := src_new (P := P) (e := e) hdr hTe hs hob hxd hox hz hzl hbx (by omega)
    obtain ⟨newCap, rest, hge, hrs, hr⟩ := append_grows (w := w) (ty := ty) hTs hk hTe hz hnew hlt hb hn hoc
    have hcells := cells_push (x := .cells (oc ++ nc ++ rest) e) h
    rw [hsl] at hrun
    refine ⟨_, _, _, fun i => if i = id then ⟨w.heap.size, l.length + xs.length, newCap, false⟩ else ρ i, fun i => V i ∨ i = id, by rw [hrun, run_value hr], .inl rfl, fun _ h => .inl h, fun _ h => h, ?_⟩
    refine h.swap (w' := { w.drew with heap := w.heap.push (.cells (oc ++ nc ++ rest) e) }) (o := .row Te.size (l ++ xs)) (x := .rw id) hd hold ⟨w.heap.size, l.length + xs.length, newCap, false⟩ hid (fun b hb => .inr (by have := hb.2; simp at this; omega)) ?_ (by simp) rfl rfl ?_ ?_ ?_
    · intro b hb _
      show (w.heap.push _)[b]? = _
      rw [Array.getElem?_push, if_neg (by omega)]
    · intro b hb c t f hcf
      change (w.heap.push _)[b]? = _ at hcf
      rw [Array.getElem?_push] at hcf
      split at hcf
      · cases hcf; rfl
      · rename_i hb3
        rcases hb with hb | hb
        · rw [Array.getElem?_eq_none hb] at hcf; cases hcf
        · rcases hobj.row_cells' with ⟨h0, _⟩ | ⟨h0, cs, ty', h1, _⟩
          · exact absurd hb.1 (by simp [h0])
          · rw [← hb.2, h1] at hcf; cases hcf; rfl
    · refine ObjRel.of_cells (by simp) (cs := oc ++ nc ++ rest) (ty := e) (by simp) (by simp) (by simp; omega) ?_ ?_
      · have e2 : nc.size = xs.length * Te.size := by obtain ⟨_, _, _, h⟩ := hnew; exact h
        have e3 : newCap * Te.size = (l.length + xs.length) * Te.size + (newCap - (l.length + xs.length)) * Te.size := by rw [← Nat.add_mul]; congr 1; omega
        simp only [Array.size_append, hocs, e2, hrs, hzl, if_true]
        rw [e3, Nat.add_mul]
      · have hcx' : Cells ρ V Z w nc 0 Te.size xs := hcx.mono (fun v x hr => hr.mono (fun _ _ => rfl) (fun _ h => h) (fun _ _ h => h) (fun _ _ _ => rfl))
        have e2 : nc.size = xs.length * Te.size := by obtain ⟨_, _, _, h⟩ := hnew; exact h
        exact (grown_cells (newCap := newCap) hcl hcx' hocs e2).mono (hmono _ _ hcells)
    · exact hsw ⟨w.heap.size, l.length + xs.length, newCap, false⟩ rfl _
  obtain ⟨nc, hnew, hcx⟩ := src_new (P := P) (e := e) h hTe hs hob hx hox hz hzl hbx (by omega)
  have hncs : nc.size = xs.length * Te.size := by obtain ⟨_, _, _, h⟩ := hnew; exact h
  rcases hobj.row_cells' with ⟨h0, rfl⟩ | ⟨h0, cs, ty', h1, h2, h3, h4, h5⟩
  · by_cases hxe : xs = []
    · subst hxe
      have hsl : (ρ old).slice = .slice none 0 0 := by simp [Ref.slice, h0]
      have hr := append_fits (base := none) (n := 0) (m := 0) (cap := 0) (ty := ty) (w' := w) hTs hk hTe hnew (by omega) hbx (by simp) rfl
      rw [hsl] at hrun
      refine ⟨_, _, _, fun i => if i = id then nilRef else ρ i, fun i => V i ∨ i = id, by rw [hrun, run_value hr], .inl rfl, fun _ h => .inl h, fun _ h => h, ?_⟩
      refine h.swap (o := .row Te.size ([] ++ [])) (x := .rw id) hd hold nilRef hid (fun b hb => absurd hb.1 (by simp [nilRef])) (fun _ _ _ => rfl) (Nat.le_refl _) rfl rfl ?_ (.inl ⟨by simp [nilRef], rfl⟩) ?_
      · intro b hb c t f hcf
        rcases hb with hb | hb
        · rw [Array.getElem?_eq_none hb] at hcf; cases hcf
        · exact absurd hb.1 (by simp [h0])
      · have := Rel.rw (ρ := fun i => if i = id then nilRef else ρ i) (V := fun i => V i ∨ i = id) (Z := Z) (w := w) id (.inr rfl)
        simpa [Ref.slice, nilRef] using this
    · have hpos : 0 < xs.length := List.length_pos_iff.2 hxe
      refine grow none 0 #[] (by simp [Ref.slice, h0]) (by simpa using hpos) (by simp [Builtin.firstCells]) (by simp) ⟨fun i hi => absurd hi (Nat.not_lt_zero _), fun i j hi => absurd hi (Nat.not_lt_zero _)⟩
  · have hsl : (ρ old).slice = .slice (some ⟨(ρ old).blk, 0, none⟩) l.length (ρ old).cap := by simp [Ref.slice, h0, h2]
    by_cases hfit : l.length + xs.length ≤ (ρ old).cap
    · have hnc1 : ∀ v ∈ nc.toList, v.oneCell' = true := by
        intro y hy
        obtain ⟨k, hk', rfl⟩ := List.getElem_of_mem hy
        simp only [Array.length_toList] at hk'
        have hs0 : 0 < Te.size := by
          rcases Nat.eq_zero_or_pos Te.size with h | h
          · rw [hncs, h] at hk'; simp at hk'
          · exact h
        have hi : k / Te.size < xs.length := by rw [Nat.div_lt_iff_lt_mul hs0]; omega
        have := hcx.2 (k / Te.size) (k % Te.size) hi (Nat.mod_lt _ hs0)
        rw [show 0 + k / Te.size * Te.size + k % Te.size = k by rw [Nat.zero_add, Nat.mul_comm, Nat.div_add_mod]] at this
        have h6 := this.2.oneCell this.1
        simpa [Array.getD, hk'] using h6
      have hfit' : (l.length + xs.length) * Te.size ≤ cs.size := by rw [h4]; exact Nat.mul_le_mul_right _ hfit
      rw [Nat.add_mul] at hfit'
      obtain ⟨w', cs', r1, r2, r3, r4, r5, r6, r7, r8⟩ := storeCells_run (P := P) nc.toList 0 (l.length * Te.size) w cs ty' h1 (by simp; omega) hnc1
      have hr := append_fits (base := some ⟨(ρ old).blk, 0, none⟩) (n := l.length) (m := xs.length) (cap := (ρ old).cap) (ty := ty) (w' := w') hTs hk hTe hnew hfit hbx (by omega) (by simp only [addr_add, Nat.zero_add]; exact r1)
      rw [hsl] at hrun
      have hat : ∀ b, (ρ old).at b ↔ b = (ρ old).blk := fun b => ⟨fun hb => hb.2.symm, fun hb => ⟨h0, hb.symm⟩⟩
      have hcell : ∀ b o, Z b o → w'.cell? ⟨b, o, none⟩ = w.cell? ⟨b, o, none⟩ := by
        intro b o hz
        exact cell?_of_heap (r5 b (fun e => h.hs.sep _ _ b hold ((hat b).2 e) o hz))
      refine ⟨_, _, _, fun i => if i = id then ⟨(ρ old).blk, l.length + xs.length, (ρ old).cap, false⟩ else ρ i, fun i => V i ∨ i = id, by rw [hrun, run_value hr], .inl rfl, fun _ h => .inl h, fun _ h => h, ?_⟩
      refine h.swap (o := .row Te.size (l ++ xs)) (x := .rw id) hd hold ⟨(ρ old).blk, l.length + xs.length, (ρ old).cap, false⟩ hid (fun b hb => .inl ((hat b).2 hb.2.symm)) (fun b _ hb => r5 b (fun e => hb ((hat b).2 e))) (by omega) r7 r8 ?_ ?_ ?_
      · intro b hb c t f hcf
        rcases hb with hb | hb
        · rw [Array.getElem?_eq_none (by omega)] at hcf; cases hcf
        · rw [(hat b).1 hb, r2] at hcf; cases hcf; rfl
      · refine ObjRel.of_cells (by simp) (cs := cs') (ty := ty') (by simpa using r2) (by simp) (by simpa using hfit) (by simp [r3, h4]) ?_
        have hm := hmono ⟨(ρ old).blk, l.length + xs.length, (ρ old).cap, false⟩ w' hcell
        refine Cells.append (h5.mono hm) (hcx.mono hm) (fun k hk => ?_) (fun k hk => ?_)
        · rw [r4, if_neg (by omega), Nat.zero_add]
        · rw [r4, if_pos (by simp only [Array.length_toList]; omega), Nat.zero_add]
          simp [List.getD_eq_getElem?_getD, Array.getD_eq_getD_getElem?]
      · exact hsw ⟨(ρ old).blk, l.length + xs.length, (ρ old).cap, false⟩ rfl _
    · obtain ⟨oc, g1, g2, g3⟩ := row_cells (P := P) (w := w.drew) (ρ := ρ) (V := V) (Z := Z) h1 (by rw [h4]; exact Nat.mul_le_mul_right _ h3) (h5.mono (fun v x hr => hr.mono (fun _ _ => rfl) (fun _ h => h) (fun _ _ h => h) (fun _ _ _ => rfl)))
      exact grow _ _ oc hsl (by omega) (by simpa [Builtin.firstCells] using g1) g2 (g3.mono (fun v x hr => hr.mono (fun _ _ => rfl) (fun _ h => h) (fun _ _ h => h) (fun _ _ _ => rfl)))

theorem ok_append_nil (h : Sat E ρ V Z σ a w) {o : Oper} (hd : ∀ n, o.dst = some n → n < E.nt) {id : Nat} (hid : ¬ V id) {ts tx e ty : TypeId} {Ts Te : TI} (hTs : ti P ts = some Ts) (hk : Ts.k = .slice e) (hTe : ti P e = some Te)
    {zs : List AV} (hz : Te.zero = some zs) (hzl : zs.length = Te.size) {x : AV} {v u : Value} {ox : Option AObj} {ob : Prop} {xs : List AV} (hs : srcA P Te tx x ox = some (ob, xs)) (hob : ob)
    (hx : Rel ρ V Z w v x) (hox : ∀ o, ox = some o → ∀ id, x.id? = some id → σ.hp id = some o) (hu : Rel ρ V Z w u .nilsl)
    (hn : xs.length ≤ 2 ^ 46) (hb : (2 * xs.length + 1024) * Te.bytes ≤ 2 ^ 48)
    (hrun : execOp a.eval o = (do pure (Next.value (← Builtin.append_ #[ts, tx] ty #[u, v])))) : OpOk P E o σ a w V Z id (.new (.row Te.size xs) .rw) := by
  obtain rfl := hu.nilsl_inv
  have hne : ∀ i, V i → i ≠ id := fun i hi e => hid (e ▸ hi)
  have hbx : xs.length * Te.bytes ≤ 2 ^ 48 := Nat.le_trans (Nat.mul_le_mul_right _ (by omega)) hb
  by_cases hxe : xs = []
  · subst hxe
    obtain ⟨nc, hnew, hcx⟩ := src_new (P := P) (e := e) h hTe hs hob hx hox hz hzl hbx (by simp)
    have hr := append_fits (base := none) (n := 0) (m := 0) (cap := 0) (ty := ty) (w' := w) hTs hk hTe hnew (by omega) hbx (by simp) rfl
    exact ⟨_, _, _, fun i => if i = id then nilRef else ρ i, fun i => V i ∨ i = id, by rw [hrun, run_value hr], .inl rfl, fun _ h => .inl h, fun _ h => h, h.newnil hd hid Te.size⟩
  · have hpos : 0 < xs.length := List.length_pos_iff.2 hxe
    have hdr := h.drew (w' := w.drew) rfl rfl rfl
    have hxd : Rel ρ V Z w.drew v x := hx.mono (fun _ _ => rfl) (fun _ h => h) (fun _ _ h => h) (fun _ _ _ => rfl)
    obtain ⟨nc, hnew, hcx⟩ := src_new (P := P) (e := e) hdr hTe hs hob hxd hox hz hzl hbx hn
    obtain ⟨newCap, rest, hge, hrs, hr⟩ := append_grows (w := w) (ty := ty) (base := none) (n := 0) (cap := 0) (oc := #[]) hTs hk hTe hz hnew (by omega) (by simpa using hb) (by simpa using hn) (by simp [Builtin.firstCells])
    have hncs : nc.size = xs.length * Te.size := by obtain ⟨_, _, _, h⟩ := hnew; exact h
    simp only [Nat.zero_add] at hr hge hrs
    refine ⟨_, _, _, fun i => if i = id then ⟨w.heap.size, xs.length, newCap, false⟩ else ρ i, fun i => V i ∨ i = id, by rw [hrun, run_value hr], .inl rfl, fun _ h => .inl h, fun _ h => h, ?_⟩
    have hcells := cells_push (x := .cells (#[] ++ nc ++ rest) e) hdr
    refine hdr.alloc (o := .row Te.size xs) hd ⟨w.heap.size, xs.length, newCap, false⟩ rfl hid (fun c t f hc => by cases hc; rfl) ?_ ?_
    · refine ObjRel.of_cells (by simp) (cs := #[] ++ nc ++ rest) (ty := e) (by simp [show w.drew.heap = w.heap from rfl]) (by simp) (by simp; omega) ?_ ?_
      · have e3 : newCap * Te.size = xs.length * Te.size + (newCap - xs.length) * Te.size := by rw [← Nat.add_mul]; congr 1; omega
        simp only [Array.size_append, hncs, hrs, hzl, if_true, e3, List.size_toArray, List.length_nil]
        omega
      · have := grown_cells (newCap := newCap) (l := []) (oc := #[]) (rest := rest) (sz := Te.size) (ρ := ρ) (V := V) (Z := Z) (w := w.drew) ⟨fun i hi => absurd hi (Nat.not_lt_zero _), fun i j hi => absurd hi (Nat.not_lt_zero _)⟩ hcx (by simp) hncs
        rw [List.nil_append] at this
        exact this.mono (fun v x hr => hr.mono (fun i hi => if_neg (hne i hi)) (fun _ h => .inl h) (fun _ _ h => h) hcells)
    · have := Rel.rw (ρ := fun i => if i = id then (⟨w.heap.size, xs.length, newCap, false⟩ : Ref) else ρ i) (V := fun i => V i ∨ i = id) (Z := Z) (w := { w.drew with heap := w.drew.heap.push (.cells (#[] ++ nc ++ rest) e) }) id (.inr rfl)
      simpa [Ref.slice] using this

end Go.Am

/- The abstract machine: the other operations do what is said. -/
set_option linter.unusedVariables false
set_option linter.unusedSimpArgs false
namespace Go.Am

variable {P : Program} {E : En} {ρ : Nat → Ref} {V : Nat → Prop} {Z : Nat → Nat → Prop} {σ : St} {a : Act} {w : World}

/-- The list of cells is that of the abstract cells. -/
def CR (ρ : Nat → Ref) (V : Nat → Prop) (Z : Nat → Nat → Prop) (w : World) (cs : Array Value) (l : List AV) : Prop :=
  cs.size = l.length ∧ ∀ i, i < l.length → (l.getD i default).one = true ∧ Rel ρ V Z w (cs.getD i undef) (l.getD i default)

theorem foldl_set_getD (vs : List Value) : ∀ (cs : Array Value) (off : Nat), off + vs.length ≤ cs.size →
    let r := (vs.zipIdx).foldl (fun (cs : Array Value) (x : Value × Nat) => cs.setIfInBounds (off + x.2) x.1) cs
    r.size = cs.size ∧ ∀ k, r.getD k undef = if off ≤ k ∧ k < off + vs.length then vs.getD (k - off) undef else cs.getD k undef := by
  have key : ∀ (vs : List Value) (j : Nat) (cs : Array Value) (off : Nat), off + j + vs.length ≤ cs.size →
    let r := (vs.zipIdx j).foldl (fun (cs : Array Value) (x : Value × Nat) => cs.setIfInBounds (off + x.2) x.1) cs
    r.size = cs.size ∧ ∀ k, r.getD k undef = if off + j ≤ k ∧ k < off + j + vs.length then vs.getD (k - (off + j)) undef else cs.getD k undef := by
    intro vs
    induction vs with
    | nil => intro j cs off h; exact ⟨rfl, fun k => by rw [if_neg (by simp)]; rfl⟩
    | cons v vs ih =>
      intro j cs off h
      simp only [List.length_cons] at h
      have := ih (j + 1) (cs.setIfInBounds (off + j) v) off (by simp; omega)
      simp only [List.zipIdx_cons, List.foldl_cons]
      refine ⟨by rw [this.1]; simp, fun k => ?_⟩
      rw [this.2 k]
      by_cases hk : k = off + j
      · subst hk
        rw [if_neg (by omega), if_pos (by simp)]
        have : off + j < cs.size := by omega
        simp [Array.getD, this]
      · have e1 : (cs.setIfInBounds (off + j) v).getD k undef = cs.getD k undef := by
          simp [Array.getD_eq_getD_getElem?, Array.getElem?_setIfInBounds_ne (Ne.symm hk)]
        rw [e1]
        by_cases hk2 : off + (j + 1) ≤ k ∧ k < off + (j + 1) + vs.length
        · rw [if_pos hk2, if_pos (by simp; omega), show k - (off + j) = (k - (off + (j + 1))) + 1 by omega]
          simp
        · rw [if_neg hk2, if_neg (by simp; omega)]
  intro cs off h
  simpa using key vs 0 cs off (by simpa using h)

theorem one_of_notTup {v : Value} {x : AV} (hv : Rel ρ V Z w v x) (ht : x.isTup = false) : ∀ j, j < x.cells.length → (x.cells.getD j default).one = true := by
  intro j hj
  by_cases hx : ∃ l, x = .agg l
  · obtain ⟨l, rfl⟩ := hx
    obtain ⟨_, _, _, h1, _⟩ := hv.agg_inv
    exact h1 j hj
  · have hx' : ∀ l, x ≠ .agg l := fun l hl => hx ⟨l, hl⟩
    rw [AV.cells_one hx'] at hj ⊢
    obtain rfl : j = 0 := by simp only [List.length_cons, List.length_nil] at hj; omega
    cases x <;> first | rfl | exact absurd rfl (hx' _) | cases ht

theorem CR.spl {cs : Array Value} {l : List AV} (h : CR ρ V Z w cs l) {v : Value} {x : AV} (hv : Rel ρ V Z w v x) (ht : x.isTup = false) {off : Nat} (hle : off + x.cells.length ≤ l.length) :
    CR ρ V Z w (v.cells.zipIdx.foldl (fun cs (c, j) => cs.setIfInBounds (off + j) c) cs) (spl l off x.cells) := by
  obtain ⟨h1, h2⟩ := hv.cells
  have e0 : (v.cells.zipIdx.foldl (fun cs (c, j) => cs.setIfInBounds (off + j) c) cs) = (v.cells.toList.zipIdx).foldl (fun (cs : Array Value) (x : Value × Nat) => cs.setIfInBounds (off + x.2) x.1) cs := by
    rw [← Array.foldl_toList]
    simp [Array.toList_zipIdx]
  rw [e0]
  have := foldl_set_getD v.cells.toList cs off (by simp; have := h.1; omega)
  obtain ⟨g1, g2⟩ := this
  refine ⟨by rw [g1, h.1, spl_len hle], fun i hi => ?_⟩
  rw [spl_len hle] at hi
  rw [g2, spl_getD hle]
  simp only [Array.length_toList, h1]
  split
  · rename_i hc
    refine ⟨one_of_notTup hv ht _ (by omega), ?_⟩
    have := h2 (i - off) (by omega)
    simpa [List.getD_eq_getElem?_getD, Array.getD_eq_getD_getElem?] using this
  · exact h.2 i hi

theorem fill_ok (place : Nat → Option (Nat × Nat)) (fs : List (TypeId × Nat)) (hpl : ∀ (i : Nat) (t : TypeId) (off : Nat) (T : TI), fs[i]? = some (t, off) → ti P t = some T → place i = some (off, T.size)) :
    ∀ (parts : List (Nat × Value)) (is : List Nat) (vs : List AV) (cs : Array Value) (l l' : List AV), CR ρ V Z w cs l → parts.map (·.1) = is → vs.length = parts.length →
      (∀ i, i < vs.length → Rel ρ V Z w ((parts.map (·.2)).getD i undef) (vs.getD i default)) → fillA P fs l (is.zip vs) = some l' →
      ∃ cs', Instr.fill place cs parts = some cs' ∧ CR ρ V Z w cs' l' := by
  intro parts
  induction parts with
  | nil =>
    intro is vs cs l l' hcr his hvs hrel hf
    simp at his
    subst his
    simp [fillA] at hf
    subst hf
    exact ⟨cs, rfl, hcr⟩
  | cons p parts ih =>
    intro is vs cs l l' hcr his hvs hrel hf
    obtain ⟨i, v⟩ := p
    cases vs with
    | nil => simp at hvs
    | cons x vs =>
      simp at his
      subst his
      simp only [List.zip_cons_cons, fillA] at hf
      cases hfi : fs[i]? with
      | none => simp [hfi] at hf
      | some tf =>
        obtain ⟨t, off⟩ := tf
        simp only [hfi] at hf
        cases hT : ti P t with
        | none => simp [hT] at hf
        | some T =>
          simp only [hT] at hf
          split at hf
          · rename_i hc
            obtain ⟨hc1, hc2, hc3⟩ := hc
            have hv : Rel ρ V Z w v x := by simpa using hrel 0 (by simp)
            have hpl' := hpl i t off T hfi hT
            have hvs' : v.cells.size = T.size := by rw [hv.cells.1, hc1]
            obtain ⟨cs', r1, r2⟩ := ih _ vs _ _ l' (hcr.spl hv hc3 (by omega)) rfl (by simpa using hvs) (fun k hk => by simpa using hrel (k + 1) (by simpa using hk)) hf
            refine ⟨cs', ?_, r2⟩
            simp only [Instr.fill, hpl']
            rw [if_neg (by
              have := hcr.1
              simp only [ne_eq, Bool.or_eq_true, bne_iff_ne, decide_eq_true_eq, not_or]
              omega)]
            exact r1
          · cases hf

theorem zero_CR {z : Value} {zs : List AV} (h : z.cells.toList.mapM avOf1 = some zs) : CR ρ V Z w z.cells zs := cells_avOf1 h

theorem run_mapM_fields {fs : List Field} (h : ∀ f ∈ fs, ∃ T, ti P f.type = some T) :
    (fs.toArray.mapM fun f => (do pure (f.offset, ← sizeOf f.type) : Sem (Nat × Nat))).run P w = .ok (fs.map fun f => (f.offset, ((ti P f.type).map (·.size)).getD 0)).toArray w := by
  have key : ∀ (l : List Field), (∀ f ∈ l, ∃ T, ti P f.type = some T) → (l.mapM fun f => (do pure (f.offset, ← sizeOf f.type) : Sem (Nat × Nat))).run P w = .ok (l.map fun f => (f.offset, ((ti P f.type).map (·.size)).getD 0)) w := by
    intro l
    induction l with
    | nil => intro _; rfl
    | cons f l ih =>
      intro h
      obtain ⟨T, hT⟩ := h f (by simp)
      rw [List.mapM_cons]
      simp only [Sem.run_bind, run_sizeOf hT, Result.andThen_ok, Sem.run_pure, ih (fun g hg => h g (List.mem_cons_of_mem _ hg))]
      simp [hT]
  have e := List.mapM_toArray (m := Sem) (l := fs) (f := fun f => (do pure (f.offset, ← sizeOf f.type) : Sem (Nat × Nat)))
  rw [e]
  simp only [Sem.run_map, key fs h, Result.andThen_ok]

theorem ok_build (h : Sat E ρ V Z σ a w) {o : Oper} (hd : ∀ n, o.dst = some n → n < E.nt) {id : Nat} {t : TypeId} {T : TI} {fs : List (TypeId × Nat)} {zs : List AV} (hT : ti P t = some T) (hk : T.k = .struct fs) (hz : T.zero = some zs)
    (hall : fs.all (fun f => (ti P f.1).isSome) = true) {ps : Array (Nat × Operand)} {vs : List AV} {l : List AV} (hvs : (ps.toList.map (·.2)).mapM (evA σ) = some vs) (hf : fillA P fs zs ((ps.toList.map (·.1)).zip vs) = some l)
    (hrun : execOp a.eval o = (do pure (Next.value (← Instr.build t (ps.map fun (i, x) => (i, a.eval x)))))) : OpOk P E o σ a w V Z id (.val (.agg l)) := by
  obtain ⟨z, hz1, hz2⟩ := run_zero (w := w) hT hz
  obtain ⟨u, hu1, hu2⟩ := run_underlying (w := w) hT
  rw [hk] at hu2
  obtain ⟨gs, rfl, hfs⟩ := tk_struct hu2
  have hgs : ∀ f ∈ gs.toList, ∃ T, ti P f.type = some T := by
    intro f hf
    rw [hfs, List.all_eq_true] at hall
    have := hall (f.type, f.offset) (List.mem_map.2 ⟨f, hf, rfl⟩)
    exact Option.isSome_iff_exists.1 this
  have hpl : ∀ (i : Nat) (t : TypeId) (off : Nat) (T : TI), fs[i]? = some (t, off) → ti P t = some T → ((gs.toList.map fun f => (f.offset, ((ti P f.type).map (·.size)).getD 0)).toArray)[i]? = some (off, T.size) := by
    intro i t off T h1 h2
    rw [hfs, List.getElem?_map] at h1
    cases hg : gs.toList[i]? with
    | none => simp [hg] at h1
    | some g =>
      simp only [hg, Option.map_some, Option.some.injEq, Prod.mk.injEq] at h1
      obtain ⟨rfl, rfl⟩ := h1
      simp [← Array.getElem?_toList, hg, h2]
  have hev : ∀ (l : List (Nat × Operand)) (vs : List AV), (l.map (·.2)).mapM (evA σ) = some vs → vs.length = l.length ∧ ∀ i, i < vs.length → Rel ρ V Z w (((l.map fun (i, x) => (i, a.eval x)).map (·.2)).getD i undef) (vs.getD i default) := by
    intro l
    induction l with
    | nil => intro vs hvs; simp at hvs; subst hvs; exact ⟨rfl, fun i hi => absurd hi (Nat.not_lt_zero _)⟩
    | cons p l ih =>
      intro vs hvs
      simp only [List.map_cons, List.mapM_cons] at hvs
      cases h1 : evA σ p.2 with
      | none => simp [h1] at hvs
      | some x =>
        cases h2 : (l.map (·.2)).mapM (evA σ) with
        | none => simp [h1, h2] at hvs
        | some ys =>
          simp [h1, h2] at hvs
          subst hvs
          obtain ⟨g1, g2⟩ := ih ys h2
          refine ⟨by simp [g1], fun i hi => ?_⟩
          cases i with
          | zero => simpa using ev_rel h h1
          | succ i => simpa using g2 i (by simpa using hi)
  obtain ⟨hl1, hl2⟩ := hev _ _ hvs
  obtain ⟨cs', r1, r2⟩ := fill_ok (P := P) _ fs hpl (ps.toList.map fun (i, x) => (i, a.eval x)) (ps.toList.map (·.1)) vs z.cells zs l (zero_CR (ρ := ρ) (V := V) (Z := Z) (w := w) hz2) (by simp) (by simpa using hl1) hl2 hf
  have hr : (Instr.build t (ps.map fun (i, x) => (i, a.eval x))).run P w = .ok (.agg cs') w := by
    have hm := run_mapM_fields (P := P) (w := w) hgs
    unfold Instr.build
    simp only [Sem.run_bind, hz1, hu1, Result.andThen_ok]
    simp only [Array.toArray_toList] at hm
    rw [hm]
    simp only [Result.andThen_ok, Array.toList_map]
    rw [show (fun x => ((gs.toList.map fun f => (f.offset, ((ti P f.type).map (·.size)).getD 0)).toArray)[x]?) = (fun i => ((gs.toList.map fun f => (f.offset, ((ti P f.type).map (·.size)).getD 0)).toArray)[i]?) from rfl, r1]
    simp
  exact ok_val h hd (by rw [hrun, run_value hr]) (.agg _ _ r2.1 (fun i hi => (r2.2 i hi).1) (fun i hi => (r2.2 i hi).2))

end Go.Am

/- The abstract machine: rows that are made whole; slices cut; addresses; values of operators. -/
set_option linter.unusedVariables false
set_option linter.unusedSimpArgs false
namespace Go.Am

variable {P : Program} {E : En} {ρ : Nat → Ref} {V : Nat → Prop} {Z : Nat → Nat → Prop} {σ : St} {a : Act} {w : World}

/-- A new row. -/
theorem ok_row (h : Sat E ρ V Z σ a w) {o : Oper} (hd : ∀ n, o.dst = some n → n < E.nt) {id : Nat} (hid : ¬ V id) {e : TypeId} {sz cap : Nat} {l : List AV} {cs : Array Value} {s : Sem Value}
    (hc : Cells ρ V Z w cs 0 sz l) (hle : l.length ≤ cap) (hsz : cs.size = cap * sz)
    (hs : s.run P w = .ok (.slice (some ⟨w.heap.size, 0, none⟩) l.length cap) { w with heap := w.heap.push (.cells cs e) })
    (hrun : execOp a.eval o = (do pure (Next.value (← s)))) : OpOk P E o σ a w V Z id (.new (.row sz l) .rw) := by
  have hne : ∀ i, V i → i ≠ id := fun i hi e => hid (e ▸ hi)
  refine ⟨_, _, _, fun i => if i = id then ⟨w.heap.size, l.length, cap, false⟩ else ρ i, fun i => V i ∨ i = id, by rw [hrun, run_value hs], .inl rfl, fun _ h => .inl h, fun _ h => h, ?_⟩
  refine h.alloc (o := .row sz l) hd ⟨w.heap.size, l.length, cap, false⟩ rfl hid (fun c t f hc => by cases hc; rfl) ?_ ?_
  · refine ObjRel.of_cells (by simp) (cs := cs) (ty := e) (by simp) (by simp) (by simpa using hle) (by simpa using hsz) (hc.mono fun v x hr => hr.mono (fun i hi => if_neg (hne i hi)) (fun _ h => .inl h) (fun _ _ h => h) ?_)
    intro b o hz
    refine cell?_of_heap ?_
    show (w.heap.push _)[b]? = _
    have := h.hs.lt b o hz
    rw [Array.getElem?_push, if_neg (by omega)]
  · have := Rel.rw (ρ := fun i => if i = id then (⟨w.heap.size, l.length, cap, false⟩ : Ref) else ρ i) (V := fun i => V i ∨ i = id) (Z := Z) (w := { w with heap := w.heap.push (.cells cs e) }) id (.inr rfl)
    simpa [Ref.slice] using this

theorem ok_makeSlice (h : Sat E ρ V Z σ a w) {o : Oper} (hd : ∀ n, o.dst = some n → n < E.nt) {id : Nat} (hid : ¬ V id) {t e : TypeId} {T Te : TI} (hT : ti P t = some T) (hk : T.k = .slice e) (hTe : ti P e = some Te)
    {zs : List AV} (hz : Te.zero = some zs) (hzl : zs.length = Te.size) (hek : Te.k.isAgg = true ∨ Te.size = 1) {n c : Int} {k k' : IntKind} (h0 : 0 ≤ n) (h1 : n ≤ c) (h2 : c ≤ 2 ^ 46) (h3 : c * Te.bytes ≤ 2 ^ 48) {vn vc : Value}
    (hn : Rel ρ V Z w vn (.int k n)) (hc : Rel ρ V Z w vc (.int k' c))
    (hrun : execOp a.eval o = (do pure (Next.value (← Instr.makeSlice t vn vc)))) : OpOk P E o σ a w V Z id (.new (.row Te.size (List.replicate n.toNat (mkElem Te zs))) .rw) := by
  obtain ⟨i, hi1, hi2, hi3, _⟩ := run_typeInfo (w := w) hTe
  obtain ⟨z, hz1, hz2⟩ := run_zero (w := w) hTe hz
  have hzs : z.cells.size = Te.size := by have := (mapM_avOf1 _ _ hz2).1; simp at this; omega
  have hus := run_underlying_slice (w := w) hT hk
  rw [hn.int_inv, hc.int_inv] at hrun
  have hw1 : IntKind.i64.wrap n = n := IntWalk.i64_in _ (by omega)
  have hw2 : IntKind.i64.wrap c = c := IntWalk.i64_in _ (by omega)
  let cs : Array Value := (Array.range (c.toNat * Te.size)).map fun j => (if c.toNat * Te.size = 0 then #[] else z.cells)[j % (if c.toNat * Te.size = 0 then #[] else z.cells).size]!
  have hget : ∀ q, q < c.toNat * Te.size → cs.getD q undef = z.cells.getD (q % Te.size) undef := by
    intro q hq
    have hne : c.toNat * Te.size ≠ 0 := by omega
    have hs0 : 0 < Te.size := Nat.pos_of_ne_zero (fun e => hne (by rw [e]; simp))
    have hm : q % Te.size < Te.size := Nat.mod_lt _ hs0
    have e1 : cs.getD q undef = z.cells[q % z.cells.size]! := by
      show ((Array.range (c.toNat * Te.size)).map _).getD q undef = _
      simp only [hne, if_false]
      simp [Array.getD, hq]
    rw [e1, hzs]
    simp [Array.getD, hzs, hm]
  refine ok_row h hd hid (e := e) (cap := c.toNat) (cs := cs) ?_ (by simp; omega) (by simp [cs]) ?_ hrun
  · refine zero_cells hz2 hzl hek n.toNat cs (fun q hq => hget q (Nat.lt_of_lt_of_le hq (Nat.mul_le_mul_right _ (by omega))))
  · have hbig : ¬ ((i.bytes : Int) * c > 2 ^ 48) := by rw [hi3, Int.mul_comm]; omega
    have hcond : (decide (c < 0) || decide ((i.bytes : Int) * c > 2 ^ 48) || decide (n < 0) || decide (n > c)) = false := by
      simp only [Bool.or_eq_false_iff, decide_eq_false_iff_not]
      exact ⟨⟨⟨by omega, hbig⟩, by omega⟩, by omega⟩
    unfold Instr.makeSlice
    simp only [Sem.run_bind, hus, Result.andThen_ok, asInt, asIntOf, Sem.run_pure, hi1, hw1, hw2, Sem.run_ite]
    rw [if_neg (by simpa using hcond)]
    simp only [run_askRoom, Result.andThen_ok, run_sizeOf hTe, Sem.run_bind, Sem.run_ite, Sem.run_pure, hz1, newRow, run_newObj]
    have hlen : (List.replicate n.toNat (mkElem Te zs)).length = n.toNat := by simp
    rw [hlen]
    by_cases hz0 : c.toNat * Te.size = 0
    · simp only [hz0, if_true, Result.andThen_ok, newRow, run_newObj, Sem.run_bind, Sem.run_pure]
      simp [cs, hz0]
    · simp only [hz0, if_false, Result.andThen_ok, newRow, run_newObj, Sem.run_bind, Sem.run_pure]
      simp [cs, hz0]

/-- The cells of elements, one after the other. -/
theorem flat_getD {sz : Nat} : ∀ {l : List AV}, (∀ i, i < l.length → (l.getD i default).cells.length = sz) → (l.flatMap AV.cells).length = l.length * sz ∧
    ∀ i j, i < l.length → j < sz → (l.flatMap AV.cells).getD (i * sz + j) default = (l.getD i default).cells.getD j default
  | [], _ => ⟨by simp, fun i j hi => absurd hi (Nat.not_lt_zero _)⟩
  | x :: l, h => by
    have hx : x.cells.length = sz := by simpa using h 0 (by simp)
    obtain ⟨h1, h2⟩ := flat_getD (l := l) (fun i hi => by simpa using h (i + 1) (by simpa using hi))
    refine ⟨by simp [h1, hx, Nat.add_mul, Nat.add_comm], fun i j hi hj => ?_⟩
    cases i with
    | zero =>
      simp only [List.flatMap_cons, Nat.zero_mul, Nat.zero_add, List.getD_eq_getElem?_getD]
      rw [List.getElem?_append_left (by omega)]
      rfl
    | succ i =>
      have := h2 i j (by simpa using hi) hj
      rw [List.getD_eq_getElem?_getD] at this
      rw [List.getD_cons_succ, ← this, List.flatMap_cons, List.getD_eq_getElem?_getD, List.getElem?_append_right (by rw [hx, Nat.add_mul]; omega)]
      congr 2
      rw [hx, Nat.add_mul]; omega

/-- Parts that are filled in one after the other. -/
theorem fill_seq {sz : Nat} : ∀ (parts : List Value) (xs : List AV) (k : Nat) (cs : Array Value) (done rest : List AV), CR ρ V Z w cs (done ++ rest) → done.length = k * sz → rest.length = parts.length * sz →
    parts.length = xs.length → (∀ i, i < xs.length → Rel ρ V Z w (parts.getD i undef) (xs.getD i default)) → (∀ i, i < xs.length → (xs.getD i default).cells.length = sz ∧ (xs.getD i default).isTup = false) →
    ∃ cs', Instr.fill (fun i => some (i * sz, sz)) cs (parts.zipIdx k |>.map fun p => (p.2, p.1)) = some cs' ∧ CR ρ V Z w cs' (done ++ xs.flatMap AV.cells)
  | [], [], k, cs, done, rest, hcr, hdl, hrl, hpx, hrel, hsz => by
    simp at hrl
    subst hrl
    exact ⟨cs, rfl, by simpa using hcr⟩
  | [], _ :: _, _, _, _, _, _, _, _, h, _, _ => by simp at h
  | _ :: _, [], _, _, _, _, _, _, _, h, _, _ => by simp at h
  | p :: parts, x :: xs, k, cs, done, rest, hcr, hdl, hrl, hpx, hrel, hsz => by
    have hx := hsz 0 (by simp)
    have hr := hrel 0 (by simp)
    simp only [List.getD_cons_zero] at hx hr
    simp only [List.length_cons, Nat.add_mul, Nat.one_mul] at hrl
    have hps : p.cells.size = sz := by rw [hr.cells.1, hx.1]
    have hcr' := hcr.spl (off := k * sz) hr hx.2 (by simp only [List.length_append]; omega)
    have e1 : spl (done ++ rest) (k * sz) x.cells = (done ++ x.cells) ++ rest.drop sz := by
      unfold spl
      rw [← hdl, List.take_left', List.drop_append, List.drop_eq_nil_of_le (by omega)]
      · simp only [List.nil_append, List.append_assoc]
        congr 2
        congr 1
        omega
      · rfl
    rw [e1] at hcr'
    obtain ⟨cs', r1, r2⟩ := fill_seq (sz := sz) parts xs (k + 1) _ (done ++ x.cells) (rest.drop sz) hcr' (by simp [hdl, hx.1, Nat.add_mul]) (by simp; omega) (by simpa using hpx)
      (fun i hi => by simpa using hrel (i + 1) (by simpa using hi)) (fun i hi => by simpa using hsz (i + 1) (by simpa using hi))
    refine ⟨cs', ?_, by simpa using r2⟩
    simp only [List.zipIdx_cons, List.map_cons, Instr.fill]
    rw [if_neg (by
      have := hcr.1
      simp only [List.length_append] at this
      simp only [ne_eq, Bool.or_eq_true, bne_iff_ne, decide_eq_true_eq, not_or]
      omega)]
    exact r1

theorem ok_buildSlice (h : Sat E ρ V Z σ a w) {o : Oper} (hd : ∀ n, o.dst = some n → n < E.nt) {id : Nat} (hid : ¬ V id) {t e : TypeId} {T Te : TI} (hT : ti P t = some T) (hk : T.k = .slice e) (hTe : ti P e = some Te)
    {zs : List AV} (hz : Te.zero = some zs) (hzl : zs.length = Te.size) {n : Nat} {ps : Array (Nat × Operand)} {vs : List AV} (hvs : (ps.toList.map (·.2)).mapM (evA σ) = some vs) (hix : ps.toList.map (·.1) = List.range n)
    (hsm : n * Te.size ≤ 2 ^ 24) (hall : vs.all (fun x => x.cells.length == Te.size && !x.isTup) = true)
    (hrun : execOp a.eval o = (do pure (Next.value (← Instr.buildSlice t n (ps.map fun (i, x) => (i, a.eval x)))))) : OpOk P E o σ a w V Z id (.new (.row Te.size vs) .rw) := by
  obtain ⟨z, hz1, hz2⟩ := run_zero (w := w) hTe hz
  have hzs : z.cells.size = Te.size := by have := (mapM_avOf1 _ _ hz2).1; simp at this; omega
  have hus := run_underlying_slice (w := w) hT hk
  have hev : ∀ (l : List Operand) (vs : List AV), l.mapM (evA σ) = some vs → vs.length = l.length ∧ ∀ i, i < vs.length → Rel ρ V Z w ((l.map a.eval).getD i undef) (vs.getD i default) := by
    intro l
    induction l with
    | nil => intro vs hvs; simp at hvs; subst hvs; exact ⟨rfl, fun i hi => absurd hi (Nat.not_lt_zero _)⟩
    | cons p l ih =>
      intro vs hvs
      simp only [List.mapM_cons] at hvs
      cases h1 : evA σ p with
      | none => simp [h1] at hvs
      | some x =>
        cases h2 : l.mapM (evA σ) with
        | none => simp [h1, h2] at hvs
        | some ys =>
          simp [h1, h2] at hvs
          subst hvs
          obtain ⟨g1, g2⟩ := ih ys h2
          refine ⟨by simp [g1], fun i hi => ?_⟩
          cases i with
          | zero => simpa using ev_rel h h1
          | succ i => simpa using g2 i (by simpa using hi)
  obtain ⟨hl1, hl2⟩ := hev _ _ hvs
  have hn : ps.toList.length = n := by have := congrArg List.length hix; simpa using this
  have hvn : vs.length = n := by rw [hl1]; simpa using hn
  have hsz : ∀ i, i < vs.length → (vs.getD i default).cells.length = Te.size ∧ (vs.getD i default).isTup = false := by
    intro i hi
    rw [List.all_eq_true] at hall
    have : vs.getD i default = vs[i] := by simp [List.getD_eq_getElem?_getD, hi]
    rw [this]
    have := hall _ (List.getElem_mem hi)
    simpa using this
  let z0 : Array Value := if n * Te.size = 0 then #[] else z.cells
  let c0 : Array Value := (Array.range (n * Te.size)).map fun j => z0[j % z0.size]!
  have hget : ∀ q, q < n * Te.size → c0.getD q undef = z.cells.getD (q % Te.size) undef := by
    intro q hq
    have hne : n * Te.size ≠ 0 := by omega
    have hs0 : 0 < Te.size := Nat.pos_of_ne_zero (fun e => hne (by rw [e]; simp))
    have hm : q % Te.size < Te.size := Nat.mod_lt _ hs0
    have e1 : c0.getD q undef = z.cells[q % z.cells.size]! := by
      show ((Array.range (n * Te.size)).map _).getD q undef = _
      simp only [z0, hne, if_false]
      simp [Array.getD, hq]
    rw [e1, hzs]
    simp [Array.getD, hzs, hm]
  have hcr0 : CR ρ V Z w c0 ([] ++ (List.range (n * Te.size)).map fun q => zs.getD (q % Te.size) default) := by
    refine ⟨by simp [c0], fun i hi => ?_⟩
    simp only [List.nil_append, List.length_map, List.length_range] at hi
    have hs0 : 0 < Te.size := by
      rcases Nat.eq_zero_or_pos Te.size with h | h
      · rw [h] at hi; simp at hi
      · exact h
    have hg : ([] ++ (List.range (n * Te.size)).map fun q => zs.getD (q % Te.size) default).getD i default = zs.getD (i % Te.size) default := by
      simp [List.getD_eq_getElem?_getD, hi]
    rw [hg, hget i hi]
    exact (cells_avOf1 hz2).2 _ (by rw [hzl]; exact Nat.mod_lt _ hs0)
  have hpl : (ps.map fun (i, x) => (i, a.eval x)).toList = ((ps.toList.map fun p => a.eval p.2).zipIdx 0).map fun p => (p.2, p.1) := by
    apply List.ext_getElem
    · simp
    · intro i h1 h2
      have h3 : i < ps.toList.length := by simpa using h1
      have h4 : (ps.toList.map (·.1))[i]'(by simpa using h3) = i := by simp [hix]
      simp at h4 ⊢
      exact h4
  obtain ⟨cs', r1, r2⟩ := fill_seq (sz := Te.size) (ps.toList.map fun p => a.eval p.2) vs 0 c0 [] _ hcr0 (by simp) (by simp; rw [← hn]; simp) (by simpa using hl1.symm)
    (fun i hi => by have := hl2 i hi; simpa [Function.comp_def] using this) hsz
  obtain ⟨f1, f2⟩ := flat_getD (fun i hi => (hsz i hi).1)
  refine ok_row h hd hid (e := e) (cap := n) (cs := cs') (l := vs) ⟨fun i hi => (hsz i hi).1, fun i j hi hj => ?_⟩ (by omega) (by rw [r2.1]; simp [f1, hvn]) ?_ hrun
  · have := r2.2 (i * Te.size + j) (by simp only [List.nil_append, f1]; exact row_idx hi hj)
    rw [List.nil_append, f2 i j hi hj] at this
    rw [Nat.zero_add]
    exact this
  · have hfill : Instr.fill (fun i => some (i * Te.size, Te.size)) c0 (ps.map fun (i, x) => (i, a.eval x)).toList = some cs' := by rw [hpl]; exact r1
    unfold Instr.buildSlice
    simp only [Sem.run_bind, hus, Result.andThen_ok, run_sizeOf hTe, Sem.run_ite]
    rw [if_neg (by omega)]
    by_cases hz0 : n * Te.size = 0
    · have ez : z0 = #[] := by simp [z0, hz0]
      simp only [hz0, if_true, Sem.run_pure, Result.andThen_ok, Sem.run_bind]
      simp only [c0, ez, hz0] at hfill
      rw [hfill]
      simp [newRow, hvn]
    · have ez : z0 = z.cells := by simp [z0, hz0]
      simp only [hz0, if_false, Sem.run_pure, Result.andThen_ok, Sem.run_bind, hz1]
      simp only [c0, ez] at hfill
      rw [hfill]
      simp [newRow, hvn]

end Go.Am
