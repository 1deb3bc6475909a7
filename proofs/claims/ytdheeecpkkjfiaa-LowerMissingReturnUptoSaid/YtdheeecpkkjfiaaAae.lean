/- A part of the proof: an abstract machine for the walks, and what the walked functions compute. -/
import Derived.Test.YtdheeecpkkjfiaaAad
set_option linter.unusedVariables false
set_option linter.unusedSimpArgs false
/- The abstract machine: equations for simp, one for each case (printed by gen_wa.py). -/
set_option linter.unusedVariables false
set_option linter.unusedSimpArgs false
namespace Go.Am

def notRw : AV → Bool
  | .rw _ => false
  | _ => true
def snapR (o : Option AObj) (id : Nat) : AV := match o with | some (.row _ l) => .sl l | _ => .rw id
def snapOkR (o : Option AObj) : Prop := match o with | some (.row _ l) => CloRow l | _ => True
def idO (nx m : Nat) (l : List Nat) : Bool := l.all fun id => decide (id < nx) || m.testBit ((id - nx) / 1048576)
def valO : Option AV → Option (Prop × Ef) := Option.map fun x => (True, .val x)
def ldT (T : Option TI) (l : List AV) (off : Nat) : Option AV := T.bind fun T => ldA T l off
def ldE (T : Option TI) (e : Option AV) (off : Nat) : Option AV := e.bind fun e => ldT T e.cells off
def stT (T : Option TI) (l : List AV) (off : Nat) (x : AV) : Option (List AV) := T.bind fun T => stA T l off x
def setO (id : Nat) : Option (List AV) → Option (Prop × Ef) := Option.map fun l => (True, .set id (.cells l) (.tup []))
def setR2 (id sz i : Nat) (l : List AV) (e : AV) : Option (List AV) → Option (Prop × Ef) := Option.map fun c => (True, .set id (.row sz (l.set i (reElem e c))) (.tup []))
def setR (T : Option TI) (id sz i : Nat) (l : List AV) (e : Option AV) (off : Nat) (x : AV) : Option (Prop × Ef) := e.bind fun e => setR2 id sz i l e (stT T e.cells off x)
/-- So many cells has an element of a slice. -/
def elT (P : Program) (t : TypeId) : Option Nat := match ti P t with | some ⟨.slice e, _, _, _⟩ => (ti P e).map (·.size) | _ => none
def idxO (sz : Option Nat) (n : Int) (y : Option AV) : Option (Prop × Ef) := sz.bind fun sz => y.bind fun y => if y.cells.length = sz then some (0 ≤ n, .val (.eptr y 0)) else none
def idxR (sz1 : Option Nat) (sz id : Nat) (n : Int) (len : Nat) : Option (Prop × Ef) := sz1.bind fun sz1 => if sz = sz1 then some (0 ≤ n ∧ n.toNat < len, .val (.rptr id sz n.toNat 0)) else none
theorem effA_idx_sl' {P : Program} {t : TypeId} {x y : Operand} {l : List AV} {k : IntKind} {n : Int} {os : List (Option AObj)} : effA P (.indexAddr t x y) [.sl l, .int k n] os = idxO (elT P t) n l[n.toNat]? := by
  rcases h0 : ti P t with _ | ⟨k, s, b, z⟩
  · simp [effA, idxA, h0, elT, idxO]
  · cases k <;> simp [effA, idxA, h0, elT, idxO]
    rename_i e
    rcases h1 : ti P e with _ | T <;> simp [idxO]
    rcases h2 : l[n.toNat]? with _ | y <;> simp
    try (split <;> simp)
theorem effA_idx_rw' {P : Program} {t : TypeId} {x y : Operand} {id sz : Nat} {l : List AV} {k : IntKind} {n : Int} {o : Option AObj} : effA P (.indexAddr t x y) [.rw id, .int k n] [some (.row sz l), o] = idxR (elT P t) sz id n l.length := by
  rcases h0 : ti P t with _ | ⟨k, s, b, z⟩
  · simp [effA, idxA, h0, elT, idxR]
  · cases k <;> simp [effA, idxA, h0, elT, idxR]
    rename_i e
    rcases h1 : ti P e with _ | T <;> simp [idxR]
    try (split <;> simp)
/-- Where a field lies in its struct. -/
def flT (P : Program) (t : TypeId) (f : Nat) : Option Nat :=
  match ti P t with
  | some ⟨.struct fs, _, _, _⟩ =>
    match fs[f]? with
    | some (ft, off) => match ti P ft with | some T => if T.size = 0 then none else some off | none => none
    | none => none
  | _ => none
def addO (off : Option Nat) (v : AV) : Option (Prop × Ef) :=
  match off, v with
  | some off, .ptr id o => some (True, .val (.ptr id (o + off)))
  | some off, .eptr e o => some (True, .val (.eptr e (o + off)))
  | some off, .rptr id sz i o => some (True, .val (.rptr id sz i (o + off)))
  | _, _ => none
theorem effA_fld' {P : Program} {t : TypeId} {x : Operand} {f : Nat} {v : AV} {os : List (Option AObj)} : effA P (.fieldAddr t x f) [v] os = addO (flT P t f) v := by
  rcases h0 : ti P t with _ | ⟨k, s, b, z⟩
  · simp [effA, h0, flT, addO]
  · cases k <;> simp [effA, h0, flT, addO]
    rename_i fs
    rcases h1 : fs[f]? with _ | ⟨ft, off⟩ <;> simp
    rcases h2 : ti P ft with _ | ⟨k, s, b, z⟩ <;> simp
    by_cases h3 : s = 0
    · simp [h3]
    · simp only [h3, if_false]; cases v <;> rfl
def fd2 (P : Program) (o : Option (TypeId × Nat)) (l : List AV) : Option AV := o.bind fun p => ldT (ti P p.1) l p.2
def fd1 (P : Program) (T : Option TI) (f : Nat) (l : List AV) : Option AV := match T with | some ⟨.struct fs, _, _, _⟩ => fd2 P fs[f]? l | _ => none
theorem effA_field' {P : Program} {t : TypeId} {x : Operand} {f : Nat} {l : List AV} {os : List (Option AObj)} : effA P (.field t x f) [.agg l] os = valO (fd1 P (ti P t) f l) := by
  rcases h0 : ti P t with _ | ⟨k, s, b, z⟩
  · simp [effA, h0, fd1, valO]
  · cases k <;> simp [effA, h0, fd1, valO]
    rename_i fs
    rcases h1 : fs[f]? with _ | ⟨ft, off⟩ <;> simp [fd2]
    rcases h2 : ti P ft with _ | T <;> simp [ldT]
def blO (T : Option TI) (r : Bool) : Option (Prop × Ef) := match T with | some ⟨.bool, _, _, _⟩ => some (True, .val (.bool r)) | _ => none
def niO (T : Option TI) (r : Bool) : Option (Prop × Ef) := match T with | some ⟨.iface, _, _, _⟩ => some (True, .val (.bool r)) | _ => none
def nlO (T : Option TI) (x y : AV) (r : Bool) : Option (Prop × Ef) := T.bind fun T => if nilTK T.k x && nilTK T.k y then some (True, .val (.bool r)) else none
def cvI (T U : Option TI) (n : Int) : Option (Prop × Ef) := match T, U with | some _, some ⟨.int k, _, _, _⟩ => some (True, .val (.int k (k.wrap n))) | _, _ => none
def cvS (T U : Option TI) (c : ByteArray) : Option (Prop × Ef) := match T, U with | some _, some ⟨.str, _, _, _⟩ => some (True, .val (.str c)) | _, _ => none
def mkI (T : Option TI) (t : TypeId) (v : AV) : Option (Prop × Ef) := match T with | some ⟨.iface, _, _, _⟩ => none | some _ => some (True, .val (.iface t v)) | none => none
def alO (T : Option TI) : Option (Prop × Ef) := match T with | some ⟨_, _, _, some zs⟩ => some (True, .new (.cells zs) (.ptr · 0)) | _ => none
def agO : Option (List AV) → Option (Prop × Ef) := Option.map fun l => (True, .val (.agg l))
def bdO (P : Program) (T : Option TI) (q : List (Nat × AV)) : Option (Prop × Ef) :=
  match T with
  | some ⟨.struct fs, _, _, some zs⟩ => if fs.all (fun f => (ti P f.1).isSome) then agO (fillA P fs zs q) else none
  | _ => none
def fl2 (P : Program) (fs : List (TypeId × Nat)) (c : List AV) (v : AV) (r : List (Nat × AV)) (off : Nat) (T : Option TI) : Option (List AV) :=
  match T with
  | some T => if v.cells.length = T.size ∧ off + T.size ≤ c.length ∧ v.isTup = false then fillA P fs (spl c off v.cells) r else none
  | none => none
def fl1 (P : Program) (fs : List (TypeId × Nat)) (c : List AV) (v : AV) (r : List (Nat × AV)) (o : Option (TypeId × Nat)) : Option (List AV) :=
  match o with
  | some (t, off) => fl2 P fs c v r off (ti P t)
  | none => none
def elJ (P : Program) (T : Option TI) : Option TI := match T with | some ⟨.slice e, _, _, _⟩ => ti P e | _ => none
def bsO (T : Option TI) (n : Nat) (q : List Nat) (vs : List AV) : Option (Prop × Ef) :=
  match T with
  | some ⟨_, s, _, some zs⟩ => if zs.length = s ∧ n * s ≤ 2 ^ 24 ∧ q = List.range n ∧ vs.all (fun x => x.cells.length == s && !x.isTup) then some (True, .new (.row s vs) .rw) else none
  | _ => none
def msO (T : Option TI) (n c : Int) : Option (Prop × Ef) :=
  match T with
  | some ⟨k, s, b, some zs⟩ => if zs.length = s ∧ (k.isAgg = true ∨ s = 1) then some (0 ≤ n ∧ n ≤ c ∧ c ≤ 2 ^ 46 ∧ c * b ≤ 2 ^ 48, .new (.row s (List.replicate n.toNat (mkElem ⟨k, s, b, some zs⟩ zs))) .rw) else none
  | _ => none
def slO (sz : Option Nat) (l : List AV) (ob : Prop) (v : AV) : Option (Prop × Ef) := sz.map fun sz => (ob ∧ SzOk l sz, .val v)
theorem effA_slc' {P : Program} {t : TypeId} {x : Operand} {lo hi : Option Operand} {l : List AV} {vs : List AV} {os : List (Option AObj)} {ob : Prop} {v : AV}
    (h : (match sliceArgs lo hi (.sl l :: vs) with | some (.sl l', a, b) => (sliceA l' a b).map fun p => (l', p) | _ => none) = some (l, ob, v)) : effA P (.slice t x lo hi none) (.sl l :: vs) os = slO (elT P t) l ob v := by
  rcases h1 : sliceArgs lo hi (.sl l :: vs) with _ | ⟨y, a, b⟩
  · simp [h1] at h
  · rw [h1] at h
    cases y <;> try (simp at h; done)
    rename_i l'
    simp only [Option.map_eq_some_iff] at h
    obtain ⟨p, h2, h3⟩ := h
    cases h3
    rcases h0 : ti P t with _ | ⟨k, s, b', z⟩
    · simp [effA, h0, elT, slO]
    · cases k <;> try (simp [effA, h0, h1, elT, slO]; done)
      simp only [effA, h0, h1, elT, slO]
      rename_i e
      rcases h4 : ti P e with _ | T <;> try simp [h2]
def taO (T : Option TI) (t1 t : TypeId) (v : AV) : Option (Prop × Ef) := match T with | some ⟨.struct _, _, _, _⟩ => if t1 = t then some (True, .val v) else none | _ => none
/-- The type of the elements of a map with numbers as keys. -/
def mpT (P : Program) (t : TypeId) : Option TypeId :=
  match ti P t with
  | some ⟨.map kt et, _, _, _⟩ => match ti P kt with | some ⟨.int _, _, _, _⟩ => some et | _ => none
  | _ => none
def mpZ (P : Program) (t : TypeId) : Option AV := (mpT P t).bind (zv P)
def inO (et : Option TypeId) (id : Nat) (es : List (AV × AV)) (a v : AV) (r : Option (Option AV)) : Option (Prop × Ef) :=
  match et, r with
  | some _, some none => some (True, .set id (.map (es ++ [(a, v)])) (.tup []))
  | _, _ => none
theorem effA_ins' {P : Program} {t : TypeId} {x y w : Operand} {id : Nat} {k : IntKind} {n : Int} {v : AV} {es : List (AV × AV)} {o1 o2 : Option AObj} : effA P (.insert t x y w) [.mp id, .int k n, v] [some (.map es), o1, o2] = inO (mpT P t) id es (.int k n) v (findE k n es) := by
  rcases h0 : ti P t with _ | ⟨k0, s, b, z⟩
  · simp [effA, h0, mpT, inO]
  · cases k0 <;> simp [effA, h0, mpT, inO]
    rename_i kt et
    rcases h1 : ti P kt with _ | ⟨k1, s, b, z⟩ <;> try simp
    cases k1 <;> try simp
    rcases findE k n es with _ | _ | _ <;> simp
def lkO (ok : Bool) (z : Option AV) (r : Option (Option AV)) : Option (Prop × Ef) := z.bind fun z => r.map fun r => (True, .val (lkRes ok z r))
theorem effA_lk' {P : Program} {t : TypeId} {x y : Operand} {ok : Bool} {id : Nat} {k : IntKind} {n : Int} {es : List (AV × AV)} {o1 : Option AObj} : effA P (.lookup t x y ok) [.mp id, .int k n] [some (.map es), o1] = lkO ok (mpZ P t) (findE k n es) := by
  rcases h0 : ti P t with _ | ⟨k0, s, b, z⟩
  · simp [effA, h0, mpZ, mpT, lkO]
  · cases k0 <;> simp [effA, h0, mpZ, mpT, lkO]
    rename_i kt et
    rcases h1 : ti P kt with _ | ⟨k1, s, b, z⟩ <;> try simp
    cases k1 <;> try simp
    rcases zv P et with _ | z <;> simp
def lnO (T : Option TI) (v : AV) : Option (Prop × Ef) := match T with | some ⟨.slice _, _, _, _⟩ => some (True, .val v) | _ => none
def lsO (T : Option TI) (v : AV) : Option (Prop × Ef) := match T with | some ⟨.str, _, _, _⟩ => some (True, .val v) | _ => none
def sr0 (T U : Option TI) (w : AV) (o : Option AObj) : Option (Prop × List AV) := T.bind fun T => U.bind fun U => srcB T U.k w o
def ap0 (T : Option TI) (v : AV) (o : Option AObj) (r : Option (Prop × List AV)) : Option (Prop × Ef) :=
  match T, r with
  | some ⟨_, s, b, some zs⟩, some (ob, xs) =>
    if zs.length = s then
      (match v, o with
       | .nilsl, _ => some (ob ∧ Fits xs.length b, .new (.row s xs) .rw)
       | .rw id, some (.row sz l) => if sz = s then some (ob ∧ Fits (l.length + xs.length) b, .swap id (.row s (l ++ xs)) .rw) else none
       | _, _ => none)
    else none
  | _, _ => none
theorem effA_app' {P : Program} {ars : Array Operand} {t u : TypeId} {v w : AV} {o1 o2 : Option AObj} : effA P (.call ⟨.builtin .append, ars, #[t, u]⟩) [v, w] [o1, o2] = ap0 (elJ P (ti P t)) v o1 (sr0 (elJ P (ti P t)) (ti P u) w o2) := by
  show appA P t u v w o1 o2 = _
  unfold appA
  rcases h0 : ti P t with _ | ⟨k0, s, b, z⟩
  · simp [elJ, ap0]
  · cases k0 <;> simp [elJ, ap0]
    rename_i e
    rcases h1 : ti P e with _ | ⟨k1, s, b, z⟩ <;> simp [srcA, sr0]
    rcases h2 : ti P u with _ | U <;> simp [sr0]
    rcases srcB ⟨k1, s, b, z⟩ U.k w o2 with _ | ⟨ob, xs⟩ <;> cases z <;> simp <;> rfl
def cons2 : Option AV → Option (List AV) → Option (List AV)
  | some a, some l => some (a :: l)
  | _, _ => none
@[go_sem] theorem cons2_some {a : AV} {l : List AV} : cons2 (some a) (some l) = some (a :: l) := _root_.id rfl
@[go_sem] theorem mapM_evA_nil {σ : St} : ([] : List Operand).mapM (evA σ) = some [] := _root_.id rfl
@[go_sem] theorem mapM_evA_cons {σ : St} {x : Operand} {l : List Operand} : (x :: l).mapM (evA σ) = cons2 (evA σ x) (l.mapM (evA σ)) := by
  rw [List.mapM_cons]
  cases evA σ x <;> cases l.mapM (evA σ) <;> rfl
def rv2 (T : Option TI) (o : Option AObj) (off : Nat) : Option AV := match o with | some (.cells l) => ldT T l off | _ => none
def rv1 (P : Program) (hp : Nat → Option AObj) (T : Option TI) (v : Option AV) : Option AV := match T, v with | some T, some (.ptr id off) => rv2 (some T) (hp id) off | _, _ => none
def rsL (P : Program) (σ : St) : List ResultVar → Option (List AV)
  | [] => some []
  | r :: rs => cons2 (rvA P σ r) (rsL P σ rs)
def rs1 : Option (List AV) → Option AV
  | some [x] => some x
  | some l => some (.tup l)
  | none => none
theorem rsL_eq (P : Program) (σ : St) : ∀ rs : List ResultVar, rs.mapM (rvA P σ) = rsL P σ rs
  | [] => rfl
  | r :: rs => by
    rw [List.mapM_cons, rsL_eq P σ rs, rsL]
    cases rvA P σ r <;> cases rsL P σ rs <;> rfl
theorem resA_eq' {P : Program} {rs : List ResultVar} {σ : St} : resA P rs σ = rs1 (rsL P σ rs) := by
  unfold resA; rw [rsL_eq]; rcases rsL P σ rs with _ | _ | ⟨a, _ | _⟩ <;> rfl
/-- A guard decides. (The last argument keeps simp out of A and B.) -/
def onG (w : Bool) (c : Option (Option Bool)) (A B : Prop) (_ : Tg (A ∧ B)) : Prop := match c with | some (some b) => if b = w then A else B | some none => B | none => False
@[go_sem] theorem onG_tt {A B : Prop} {g : Tg (A ∧ B)} : onG true (some (some true)) A B g = A := _root_.id rfl
@[go_sem] theorem onG_tf {A B : Prop} {g : Tg (A ∧ B)} : onG true (some (some false)) A B g = B := _root_.id rfl
@[go_sem] theorem onG_ft {A B : Prop} {g : Tg (A ∧ B)} : onG false (some (some true)) A B g = B := _root_.id rfl
@[go_sem] theorem onG_ff {A B : Prop} {g : Tg (A ∧ B)} : onG false (some (some false)) A B g = A := _root_.id rfl
@[go_sem] theorem onG_n {w : Bool} {A B : Prop} {g : Tg (A ∧ B)} : onG w (some none) A B g = B := _root_.id rfl
def gdV : Option AV → Option (Option Bool)
  | some (.bool b) => some (some b)
  | some (.tup []) => some none
  | _ => none
@[go_sem] theorem gdV_b {b : Bool} : gdV (some (.bool b)) = some (some b) := _root_.id rfl
@[go_sem] theorem gdV_n : gdV (some (.tup [])) = some none := _root_.id rfl
def gdO (fr : Nat → Option AV) : Option (Option Nat) → Option (Option Bool)
  | some (some s) => gdV (fr s)
  | _ => none
@[go_sem] theorem gdO_s {fr : Nat → Option AV} {s : Nat} : gdO fr (some (some s)) = gdV (fr s) := _root_.id rfl
theorem gdA_gdO {ds : List (Option Nat)} {j : Nat} {b : Bool} {fr : Nat → Option AV} : gdA ds (some (j, b)) fr = (gdO fr ds[j]?).map fun x => match x with | some c => c == b | none => false := by
  show (match ds[j]? with
    | some (some s) => (match fr s with
      | some (.bool c) => some (c == b)
      | some (.tup []) => some false
      | _ => none)
    | _ => none) = _
  generalize ds[j]? = x
  rcases x with _ | _ | s
  · rfl
  · rfl
  · show (match fr s with
      | some (.bool c) => some (c == b)
      | some (.tup []) => some false
      | _ => none) = (gdV (fr s)).map _
    generalize fr s = y
    rcases y with _ | v
    · rfl
    · cases v <;> try rfl
      rename_i l; cases l <;> rfl
theorem onG_eq {w : Bool} {c : Option (Option Bool)} {A B : Prop} : (match c.map (fun x => match x with | some c => c == w | none => false) with | some true => A | some false => B | none => False) = onG w c A B ⟨⟩ := by
  rcases c with _ | _ | c
  · rfl
  · rfl
  · cases c <;> cases w <;> rfl
section
variable {P : Program} {bar : Bool} {bs : Option (List Nat)} {ds : List (Option Nat)} {k : Nat} {K : St → Prop} {Kp : AV → St → Prop} {d : Option Nat} {ty : TypeId} {pos : String} {aft : Array Edge} {fr : Nat → Option AV} {hp : Nat → Option AObj} {nx : Nat}
theorem goG_g {σ : St} {op : Op} {j : Nat} {b : Bool} : goG P bar none ds k ⟨d, op, ty, pos, aft, some (j, b)⟩ σ K Kp = onG b (gdO σ.fr ds[j]?) (goX P bar k ⟨d, op, ty, pos, aft, some (j, b)⟩ σ K Kp) (K (St.put σ d (.tup []))) ⟨⟩ := by
  rw [goG_some, gdA_gdO]; exact onG_eq
theorem goG_g' {σ : St} {op : Op} {j : Nat} {b : Bool} {bl : List Nat} : goG P bar (some bl) ds k ⟨d, op, ty, pos, aft, some (j, b)⟩ σ K Kp = onG b (gdO σ.fr ds[j]?) (idsChk (some bl) k op σ ∧ goX P bar k ⟨d, op, ty, pos, aft, some (j, b)⟩ σ K Kp) (K (St.put σ d (.tup []))) ⟨⟩ := by
  rw [goG_some', gdA_gdO]; exact onG_eq
attribute [go_sem ↓] goG_g goG_g'
end
@[go_sem] theorem put_frr {fr : Nat → Option AV} {hp : Nat → Option AObj} {nx d : Nat} {x : AV} : (St.put ⟨fr, hp, nx⟩ (some d) x).fr = upd fr d x := _root_.id rfl
section
variable {bl : List Nat} {k : Nat} {fr : Nat → Option AV} {hp : Nat → Option AObj} {nx : Nat}
theorem idsChk_1 {op : Op} {x : Operand} (h : op.operands = #[x]) (hn : ∀ m vs, ldOk m k op vs = True) : idsChk (some bl) k op ⟨fr, hp, nx⟩ = on1 (evA ⟨fr, hp, nx⟩ x) fun v => idO nx (bl.getD k 0) v.idl = true := by
  rw [idsChk_some, h]
  simp only [hn, and_true]
  show onL ([x].mapM (evA ⟨fr, hp, nx⟩)) _ = _
  rw [mapM_evA_cons, mapM_evA_nil]
  cases evA ⟨fr, hp, nx⟩ x with
  | none => rfl
  | some v => simp [cons2, onL, on1, idOk, idO]
theorem idsChk_2 {op : Op} {x y : Operand} (h : op.operands = #[x, y]) (hn : ∀ m vs, ldOk m k op vs = True) : idsChk (some bl) k op ⟨fr, hp, nx⟩ = on2 (evA ⟨fr, hp, nx⟩ x) (evA ⟨fr, hp, nx⟩ y) fun v u => idO nx (bl.getD k 0) v.idl = true ∧ idO nx (bl.getD k 0) u.idl = true := by
  rw [idsChk_some, h]
  simp only [hn, and_true]
  show onL ([x, y].mapM (evA ⟨fr, hp, nx⟩)) _ = _
  rw [mapM_evA_cons, mapM_evA_cons, mapM_evA_nil]
  cases evA ⟨fr, hp, nx⟩ x with
  | none => rfl
  | some v =>
    cases evA ⟨fr, hp, nx⟩ y with
    | none => rfl
    | some u => simp [cons2, onL, on2, idOk, idO]
theorem idsChk_l {op : Op} {l : List Operand} (h : op.operands.toList = l) (hn : ∀ m vs, ldOk m k op vs = True) : idsChk (some bl) k op ⟨fr, hp, nx⟩ = onL (l.mapM (evA ⟨fr, hp, nx⟩)) fun vs => idOk nx (bl.getD k 0) vs = true := by
  rw [idsChk_some, h]
  simp only [hn, and_true]
variable {t u : TypeId} {x y z : Operand} {f i : Nat} {ok : Bool}
@[go_sem] theorem ic_move : idsChk (some bl) k (.move x) ⟨fr, hp, nx⟩ = on1 (evA ⟨fr, hp, nx⟩ x) fun v => idO nx (bl.getD k 0) v.idl = true := idsChk_1 rfl (fun _ _ => rfl)
@[go_sem] theorem ic_assign : idsChk (some bl) k (.assign x) ⟨fr, hp, nx⟩ = on1 (evA ⟨fr, hp, nx⟩ x) fun v => idO nx (bl.getD k 0) v.idl = true := idsChk_1 rfl (fun _ _ => rfl)
@[go_sem] theorem ic_box : idsChk (some bl) k (.box t x) ⟨fr, hp, nx⟩ = on1 (evA ⟨fr, hp, nx⟩ x) fun v => idO nx (bl.getD k 0) v.idl = true := idsChk_1 rfl (fun _ _ => rfl)
@[go_sem] theorem rpOk_ptr {b : Bool} {i o : Nat} : rpOk b (.ptr i o) = True := _root_.id rfl
@[go_sem] theorem rpOk_eptr {b : Bool} {e : AV} {o : Nat} : rpOk b (.eptr e o) = True := _root_.id rfl
@[go_sem] theorem rpOk_rptr {b : Bool} {i s j o : Nat} : rpOk b (.rptr i s j o) = (b = false) := _root_.id rfl
@[go_sem] theorem ic_load : idsChk (some bl) k (.load t x) ⟨fr, hp, nx⟩ = on1 (evA ⟨fr, hp, nx⟩ x) fun v => idO nx (bl.getD k 0) v.idl = true ∧ rpOk ((bl.getD k 0).testBit k) v := by
  rw [idsChk_some]
  show onL ([x].mapM (evA ⟨fr, hp, nx⟩)) _ = _
  rw [mapM_evA_cons, mapM_evA_nil]
  cases evA ⟨fr, hp, nx⟩ x with
  | none => rfl
  | some v => simp [cons2, onL, on1, idOk, idO, ldOk]
@[go_sem] theorem ic_nc : idsChk (some bl) k (.nilCheck x) ⟨fr, hp, nx⟩ = on1 (evA ⟨fr, hp, nx⟩ x) fun v => idO nx (bl.getD k 0) v.idl = true := idsChk_1 rfl (fun _ _ => rfl)
@[go_sem] theorem ic_un {op : UnOp} : idsChk (some bl) k (.unOp op t x) ⟨fr, hp, nx⟩ = on1 (evA ⟨fr, hp, nx⟩ x) fun v => idO nx (bl.getD k 0) v.idl = true := idsChk_1 rfl (fun _ _ => rfl)
@[go_sem] theorem ic_conv : idsChk (some bl) k (.convert t u x) ⟨fr, hp, nx⟩ = on1 (evA ⟨fr, hp, nx⟩ x) fun v => idO nx (bl.getD k 0) v.idl = true := idsChk_1 rfl (fun _ _ => rfl)
@[go_sem] theorem ic_mki : idsChk (some bl) k (.makeInterface t x) ⟨fr, hp, nx⟩ = on1 (evA ⟨fr, hp, nx⟩ x) fun v => idO nx (bl.getD k 0) v.idl = true := idsChk_1 rfl (fun _ _ => rfl)
@[go_sem] theorem ic_fa : idsChk (some bl) k (.fieldAddr t x f) ⟨fr, hp, nx⟩ = on1 (evA ⟨fr, hp, nx⟩ x) fun v => idO nx (bl.getD k 0) v.idl = true := idsChk_1 rfl (fun _ _ => rfl)
@[go_sem] theorem ic_f : idsChk (some bl) k (.field t x f) ⟨fr, hp, nx⟩ = on1 (evA ⟨fr, hp, nx⟩ x) fun v => idO nx (bl.getD k 0) v.idl = true := idsChk_1 rfl (fun _ _ => rfl)
@[go_sem] theorem ic_ta : idsChk (some bl) k (.typeAssert x t u ok) ⟨fr, hp, nx⟩ = on1 (evA ⟨fr, hp, nx⟩ x) fun v => idO nx (bl.getD k 0) v.idl = true := idsChk_1 rfl (fun _ _ => rfl)
@[go_sem] theorem ic_ext : idsChk (some bl) k (.extract x i) ⟨fr, hp, nx⟩ = on1 (evA ⟨fr, hp, nx⟩ x) fun v => idO nx (bl.getD k 0) v.idl = true := idsChk_1 rfl (fun _ _ => rfl)
@[go_sem] theorem ic_st : idsChk (some bl) k (.store t x y) ⟨fr, hp, nx⟩ = on2 (evA ⟨fr, hp, nx⟩ x) (evA ⟨fr, hp, nx⟩ y) fun v u => idO nx (bl.getD k 0) v.idl = true ∧ idO nx (bl.getD k 0) u.idl = true := idsChk_2 rfl (fun _ _ => rfl)
@[go_sem] theorem ic_bin {op : BinOp} : idsChk (some bl) k (.binOp op t x y u) ⟨fr, hp, nx⟩ = on2 (evA ⟨fr, hp, nx⟩ x) (evA ⟨fr, hp, nx⟩ y) fun v u => idO nx (bl.getD k 0) v.idl = true ∧ idO nx (bl.getD k 0) u.idl = true := idsChk_2 rfl (fun _ _ => rfl)
@[go_sem] theorem ic_ms : idsChk (some bl) k (.makeSlice t x y) ⟨fr, hp, nx⟩ = on2 (evA ⟨fr, hp, nx⟩ x) (evA ⟨fr, hp, nx⟩ y) fun v u => idO nx (bl.getD k 0) v.idl = true ∧ idO nx (bl.getD k 0) u.idl = true := idsChk_2 rfl (fun _ _ => rfl)
@[go_sem] theorem ic_ia : idsChk (some bl) k (.indexAddr t x y) ⟨fr, hp, nx⟩ = on2 (evA ⟨fr, hp, nx⟩ x) (evA ⟨fr, hp, nx⟩ y) fun v u => idO nx (bl.getD k 0) v.idl = true ∧ idO nx (bl.getD k 0) u.idl = true := idsChk_2 rfl (fun _ _ => rfl)
@[go_sem] theorem ic_ix : idsChk (some bl) k (.index t x y) ⟨fr, hp, nx⟩ = on2 (evA ⟨fr, hp, nx⟩ x) (evA ⟨fr, hp, nx⟩ y) fun v u => idO nx (bl.getD k 0) v.idl = true ∧ idO nx (bl.getD k 0) u.idl = true := idsChk_2 rfl (fun _ _ => rfl)
@[go_sem] theorem ic_lk : idsChk (some bl) k (.lookup t x y ok) ⟨fr, hp, nx⟩ = on2 (evA ⟨fr, hp, nx⟩ x) (evA ⟨fr, hp, nx⟩ y) fun v u => idO nx (bl.getD k 0) v.idl = true ∧ idO nx (bl.getD k 0) u.idl = true := idsChk_2 rfl (fun _ _ => rfl)
@[go_sem] theorem ic_al : idsChk (some bl) k (.alloc t) ⟨fr, hp, nx⟩ = True := by rw [idsChk_l (l := []) rfl (fun _ _ => rfl)]; simp [onL, idOk]
@[go_sem] theorem ic_pick : idsChk (some bl) k (.pick x y z) ⟨fr, hp, nx⟩ = onL ([x, y, z].mapM (evA ⟨fr, hp, nx⟩)) fun vs => idOk nx (bl.getD k 0) vs = true := idsChk_l rfl (fun _ _ => rfl)
@[go_sem] theorem ic_ins : idsChk (some bl) k (.insert t x y z) ⟨fr, hp, nx⟩ = onL ([x, y, z].mapM (evA ⟨fr, hp, nx⟩)) fun vs => idOk nx (bl.getD k 0) vs = true := idsChk_l rfl (fun _ _ => rfl)
@[go_sem] theorem ic_mu : idsChk (some bl) k (.mapUpdate t x y z) ⟨fr, hp, nx⟩ = onL ([x, y, z].mapM (evA ⟨fr, hp, nx⟩)) fun vs => idOk nx (bl.getD k 0) vs = true := idsChk_l rfl (fun _ _ => rfl)
@[go_sem] theorem ic_bd {ps : Array (Nat × Operand)} : idsChk (some bl) k (.build t ps) ⟨fr, hp, nx⟩ = onL ((ps.toList.map (·.2)).mapM (evA ⟨fr, hp, nx⟩)) fun vs => idOk nx (bl.getD k 0) vs = true := idsChk_l (by simp [Op.operands]) (fun _ _ => rfl)
@[go_sem] theorem ic_bs {n : Nat} {ps : Array (Nat × Operand)} : idsChk (some bl) k (.buildSlice t n ps) ⟨fr, hp, nx⟩ = onL ((ps.toList.map (·.2)).mapM (evA ⟨fr, hp, nx⟩)) fun vs => idOk nx (bl.getD k 0) vs = true := idsChk_l (by simp [Op.operands]) (fun _ _ => rfl)
@[go_sem] theorem ic_call {ars : Array Operand} {ts : Array TypeId} : idsChk (some bl) k (.call ⟨.value x, ars, ts⟩) ⟨fr, hp, nx⟩ = onL ((x :: ars.toList).mapM (evA ⟨fr, hp, nx⟩)) fun vs => idOk nx (bl.getD k 0) vs = true := idsChk_l (by simp [Op.operands, Call.operands]) (fun _ _ => rfl)
@[go_sem] theorem ic_blt {b : Builtin} {ars : Array Operand} {ts : Array TypeId} : idsChk (some bl) k (.call ⟨.builtin b, ars, ts⟩) ⟨fr, hp, nx⟩ = onL (ars.toList.mapM (evA ⟨fr, hp, nx⟩)) fun vs => idOk nx (bl.getD k 0) vs = true := idsChk_l (by simp [Op.operands, Call.operands]) (fun _ _ => rfl)
@[go_sem] theorem ic_mkf {g : Fn} {ars cs : Array Operand} : idsChk (some bl) k (.makeFunc g ars cs) ⟨fr, hp, nx⟩ = onL ((ars.toList ++ cs.toList).mapM (evA ⟨fr, hp, nx⟩)) fun vs => idOk nx (bl.getD k 0) vs = true := idsChk_l (by simp [Op.operands]) (fun _ _ => rfl)
@[go_sem] theorem ic_slc {lo hi m : Option Operand} : idsChk (some bl) k (.slice t x lo hi m) ⟨fr, hp, nx⟩ = onL ((x :: (lo.toList ++ hi.toList ++ m.toList)).mapM (evA ⟨fr, hp, nx⟩)) fun vs => idOk nx (bl.getD k 0) vs = true := idsChk_l (by simp [Op.operands]) (fun _ _ => rfl)
end
@[go_sem] theorem cells_bool {b : Bool} : AV.cells (AV.bool b) = [(AV.bool b)] := _root_.id rfl
@[go_sem] theorem one_bool {b : Bool} : AV.one (AV.bool b) = true := _root_.id rfl
@[go_sem] theorem isTup_bool {b : Bool} : AV.isTup (AV.bool b) = false := _root_.id rfl
@[go_sem] theorem clo_bool {b : Bool} : AV.clo (AV.bool b) = true := by rw [AV.clo] <;> simp
@[go_sem] theorem idq_bool {b : Bool} : AV.id? (AV.bool b) = none := _root_.id rfl
@[go_sem] theorem ren_bool {b : Bool} {m : Nat → Nat} : AV.ren m (AV.bool b) = (AV.bool b) := by rw [AV.ren]
@[go_sem] theorem ids_bool {b : Bool} {p : Nat → Prop} : AV.ids p (AV.bool b) = True := by rw [AV.ids] <;> simp
@[go_sem] theorem idl_bool {b : Bool} : AV.idl (AV.bool b) = [] := by rw [AV.idl] <;> simp
@[go_sem] theorem flat_bool {b : Bool} : AV.flat (AV.bool b) = true := _root_.id rfl
@[go_sem] theorem flatR_bool {b : Bool} : AV.flatR (AV.bool b) = true := _root_.id rfl
@[go_sem] theorem notRw_bool {b : Bool} : notRw (AV.bool b) = true := _root_.id rfl
@[go_sem] theorem noRw_bool {b : Bool} : AV.noRw (AV.bool b) = true := _root_.id rfl
@[go_sem] theorem snap_bool {b : Bool} {h : Nat → Option AObj} : AV.snap h (AV.bool b) = (AV.bool b) := by rw [AV.snap] <;> simp
@[go_sem] theorem snapOk_bool {b : Bool} {h : Nat → Option AObj} : AV.snapOk h (AV.bool b) = True := by rw [AV.snapOk] <;> simp
@[go_sem] theorem reElem_bool {b : Bool} {c : List AV} : reElem (AV.bool b) c = c.getD 0 default := _root_.id rfl
@[go_sem] theorem cells_int {k : IntKind} {n : Int} : AV.cells (AV.int k n) = [(AV.int k n)] := _root_.id rfl
@[go_sem] theorem one_int {k : IntKind} {n : Int} : AV.one (AV.int k n) = true := _root_.id rfl
@[go_sem] theorem isTup_int {k : IntKind} {n : Int} : AV.isTup (AV.int k n) = false := _root_.id rfl
@[go_sem] theorem clo_int {k : IntKind} {n : Int} : AV.clo (AV.int k n) = true := by rw [AV.clo] <;> simp
@[go_sem] theorem idq_int {k : IntKind} {n : Int} : AV.id? (AV.int k n) = none := _root_.id rfl
@[go_sem] theorem ren_int {k : IntKind} {n : Int} {m : Nat → Nat} : AV.ren m (AV.int k n) = (AV.int k n) := by rw [AV.ren]
@[go_sem] theorem ids_int {k : IntKind} {n : Int} {p : Nat → Prop} : AV.ids p (AV.int k n) = True := by rw [AV.ids] <;> simp
@[go_sem] theorem idl_int {k : IntKind} {n : Int} : AV.idl (AV.int k n) = [] := by rw [AV.idl] <;> simp
@[go_sem] theorem flat_int {k : IntKind} {n : Int} : AV.flat (AV.int k n) = true := _root_.id rfl
@[go_sem] theorem flatR_int {k : IntKind} {n : Int} : AV.flatR (AV.int k n) = true := _root_.id rfl
@[go_sem] theorem notRw_int {k : IntKind} {n : Int} : notRw (AV.int k n) = true := _root_.id rfl
@[go_sem] theorem noRw_int {k : IntKind} {n : Int} : AV.noRw (AV.int k n) = true := _root_.id rfl
@[go_sem] theorem snap_int {k : IntKind} {n : Int} {h : Nat → Option AObj} : AV.snap h (AV.int k n) = (AV.int k n) := by rw [AV.snap] <;> simp
@[go_sem] theorem snapOk_int {k : IntKind} {n : Int} {h : Nat → Option AObj} : AV.snapOk h (AV.int k n) = True := by rw [AV.snapOk] <;> simp
@[go_sem] theorem reElem_int {k : IntKind} {n : Int} {c : List AV} : reElem (AV.int k n) c = c.getD 0 default := _root_.id rfl
@[go_sem] theorem cells_str {s : ByteArray} : AV.cells (AV.str s) = [(AV.str s)] := _root_.id rfl
@[go_sem] theorem one_str {s : ByteArray} : AV.one (AV.str s) = true := _root_.id rfl
@[go_sem] theorem isTup_str {s : ByteArray} : AV.isTup (AV.str s) = false := _root_.id rfl
@[go_sem] theorem clo_str {s : ByteArray} : AV.clo (AV.str s) = true := by rw [AV.clo] <;> simp
@[go_sem] theorem idq_str {s : ByteArray} : AV.id? (AV.str s) = none := _root_.id rfl
@[go_sem] theorem ren_str {s : ByteArray} {m : Nat → Nat} : AV.ren m (AV.str s) = (AV.str s) := by rw [AV.ren]
@[go_sem] theorem ids_str {s : ByteArray} {p : Nat → Prop} : AV.ids p (AV.str s) = True := by rw [AV.ids] <;> simp
@[go_sem] theorem idl_str {s : ByteArray} : AV.idl (AV.str s) = [] := by rw [AV.idl] <;> simp
@[go_sem] theorem flat_str {s : ByteArray} : AV.flat (AV.str s) = true := _root_.id rfl
@[go_sem] theorem flatR_str {s : ByteArray} : AV.flatR (AV.str s) = true := _root_.id rfl
@[go_sem] theorem notRw_str {s : ByteArray} : notRw (AV.str s) = true := _root_.id rfl
@[go_sem] theorem noRw_str {s : ByteArray} : AV.noRw (AV.str s) = true := _root_.id rfl
@[go_sem] theorem snap_str {s : ByteArray} {h : Nat → Option AObj} : AV.snap h (AV.str s) = (AV.str s) := by rw [AV.snap] <;> simp
@[go_sem] theorem snapOk_str {s : ByteArray} {h : Nat → Option AObj} : AV.snapOk h (AV.str s) = True := by rw [AV.snapOk] <;> simp
@[go_sem] theorem reElem_str {s : ByteArray} {c : List AV} : reElem (AV.str s) c = c.getD 0 default := _root_.id rfl
@[go_sem] theorem cells_nilp  : AV.cells (AV.nilp) = [(AV.nilp)] := _root_.id rfl
@[go_sem] theorem one_nilp  : AV.one (AV.nilp) = true := _root_.id rfl
@[go_sem] theorem isTup_nilp  : AV.isTup (AV.nilp) = false := _root_.id rfl
@[go_sem] theorem clo_nilp  : AV.clo (AV.nilp) = true := by rw [AV.clo] <;> simp
@[go_sem] theorem idq_nilp  : AV.id? (AV.nilp) = none := _root_.id rfl
@[go_sem] theorem ren_nilp {m : Nat → Nat} : AV.ren m (AV.nilp) = (AV.nilp) := by rw [AV.ren]
@[go_sem] theorem ids_nilp {p : Nat → Prop} : AV.ids p (AV.nilp) = True := by rw [AV.ids] <;> simp
@[go_sem] theorem idl_nilp  : AV.idl (AV.nilp) = [] := by rw [AV.idl] <;> simp
@[go_sem] theorem flat_nilp  : AV.flat (AV.nilp) = true := _root_.id rfl
@[go_sem] theorem flatR_nilp  : AV.flatR (AV.nilp) = true := _root_.id rfl
@[go_sem] theorem notRw_nilp  : notRw (AV.nilp) = true := _root_.id rfl
@[go_sem] theorem noRw_nilp  : AV.noRw (AV.nilp) = true := _root_.id rfl
@[go_sem] theorem snap_nilp {h : Nat → Option AObj} : AV.snap h (AV.nilp) = (AV.nilp) := by rw [AV.snap] <;> simp
@[go_sem] theorem snapOk_nilp {h : Nat → Option AObj} : AV.snapOk h (AV.nilp) = True := by rw [AV.snapOk] <;> simp
@[go_sem] theorem reElem_nilp {c : List AV} : reElem (AV.nilp) c = c.getD 0 default := _root_.id rfl
@[go_sem] theorem cells_ptr {id o : Nat} : AV.cells (AV.ptr id o) = [(AV.ptr id o)] := _root_.id rfl
@[go_sem] theorem one_ptr {id o : Nat} : AV.one (AV.ptr id o) = true := _root_.id rfl
@[go_sem] theorem isTup_ptr {id o : Nat} : AV.isTup (AV.ptr id o) = false := _root_.id rfl
@[go_sem] theorem clo_ptr {id o : Nat} : AV.clo (AV.ptr id o) = false := by rw [AV.clo]
@[go_sem] theorem idq_ptr {id o : Nat} : AV.id? (AV.ptr id o) = some id := _root_.id rfl
@[go_sem] theorem ren_ptr {id o : Nat} {m : Nat → Nat} : AV.ren m (AV.ptr id o) = .ptr (m id) o := by rw [AV.ren]
@[go_sem] theorem ids_ptr {id o : Nat} {p : Nat → Prop} : AV.ids p (AV.ptr id o) = p id := by rw [AV.ids]
@[go_sem] theorem idl_ptr {id o : Nat} : AV.idl (AV.ptr id o) = [id] := by rw [AV.idl]
@[go_sem] theorem flat_ptr {id o : Nat} : AV.flat (AV.ptr id o) = false := _root_.id rfl
@[go_sem] theorem flatR_ptr {id o : Nat} : AV.flatR (AV.ptr id o) = false := _root_.id rfl
@[go_sem] theorem notRw_ptr {id o : Nat} : notRw (AV.ptr id o) = true := _root_.id rfl
@[go_sem] theorem noRw_ptr {id o : Nat} : AV.noRw (AV.ptr id o) = true := _root_.id rfl
@[go_sem] theorem snap_ptr {id o : Nat} {h : Nat → Option AObj} : AV.snap h (AV.ptr id o) = (AV.ptr id o) := by rw [AV.snap] <;> simp
@[go_sem] theorem snapOk_ptr {id o : Nat} {h : Nat → Option AObj} : AV.snapOk h (AV.ptr id o) = True := by rw [AV.snapOk] <;> simp
@[go_sem] theorem reElem_ptr {id o : Nat} {c : List AV} : reElem (AV.ptr id o) c = c.getD 0 default := _root_.id rfl
@[go_sem] theorem cells_eptr {e : AV} {o : Nat} : AV.cells (AV.eptr e o) = [(AV.eptr e o)] := _root_.id rfl
@[go_sem] theorem one_eptr {e : AV} {o : Nat} : AV.one (AV.eptr e o) = true := _root_.id rfl
@[go_sem] theorem isTup_eptr {e : AV} {o : Nat} : AV.isTup (AV.eptr e o) = false := _root_.id rfl
@[go_sem] theorem clo_eptr {e : AV} {o : Nat} : AV.clo (AV.eptr e o) = true := by rw [AV.clo] <;> simp
@[go_sem] theorem idq_eptr {e : AV} {o : Nat} : AV.id? (AV.eptr e o) = none := _root_.id rfl
@[go_sem] theorem ren_eptr {e : AV} {o : Nat} {m : Nat → Nat} : AV.ren m (AV.eptr e o) = (AV.eptr e o) := by rw [AV.ren]
@[go_sem] theorem ids_eptr {e : AV} {o : Nat} {p : Nat → Prop} : AV.ids p (AV.eptr e o) = True := by rw [AV.ids] <;> simp
@[go_sem] theorem idl_eptr {e : AV} {o : Nat} : AV.idl (AV.eptr e o) = [] := by rw [AV.idl] <;> simp
@[go_sem] theorem flat_eptr {e : AV} {o : Nat} : AV.flat (AV.eptr e o) = false := _root_.id rfl
@[go_sem] theorem flatR_eptr {e : AV} {o : Nat} : AV.flatR (AV.eptr e o) = false := _root_.id rfl
@[go_sem] theorem notRw_eptr {e : AV} {o : Nat} : notRw (AV.eptr e o) = true := _root_.id rfl
@[go_sem] theorem noRw_eptr {e : AV} {o : Nat} : AV.noRw (AV.eptr e o) = true := _root_.id rfl
@[go_sem] theorem snap_eptr {e : AV} {o : Nat} {h : Nat → Option AObj} : AV.snap h (AV.eptr e o) = (AV.eptr e o) := by rw [AV.snap] <;> simp
@[go_sem] theorem snapOk_eptr {e : AV} {o : Nat} {h : Nat → Option AObj} : AV.snapOk h (AV.eptr e o) = True := by rw [AV.snapOk] <;> simp
@[go_sem] theorem reElem_eptr {e : AV} {o : Nat} {c : List AV} : reElem (AV.eptr e o) c = c.getD 0 default := _root_.id rfl
@[go_sem] theorem cells_rptr {id sz i o : Nat} : AV.cells (AV.rptr id sz i o) = [(AV.rptr id sz i o)] := _root_.id rfl
@[go_sem] theorem one_rptr {id sz i o : Nat} : AV.one (AV.rptr id sz i o) = true := _root_.id rfl
@[go_sem] theorem isTup_rptr {id sz i o : Nat} : AV.isTup (AV.rptr id sz i o) = false := _root_.id rfl
@[go_sem] theorem clo_rptr {id sz i o : Nat} : AV.clo (AV.rptr id sz i o) = false := by rw [AV.clo]
@[go_sem] theorem idq_rptr {id sz i o : Nat} : AV.id? (AV.rptr id sz i o) = some id := _root_.id rfl
@[go_sem] theorem ren_rptr {id sz i o : Nat} {m : Nat → Nat} : AV.ren m (AV.rptr id sz i o) = .rptr (m id) sz i o := by rw [AV.ren]
@[go_sem] theorem ids_rptr {id sz i o : Nat} {p : Nat → Prop} : AV.ids p (AV.rptr id sz i o) = p id := by rw [AV.ids]
@[go_sem] theorem idl_rptr {id sz i o : Nat} : AV.idl (AV.rptr id sz i o) = [id] := by rw [AV.idl]
@[go_sem] theorem flat_rptr {id sz i o : Nat} : AV.flat (AV.rptr id sz i o) = false := _root_.id rfl
@[go_sem] theorem flatR_rptr {id sz i o : Nat} : AV.flatR (AV.rptr id sz i o) = false := _root_.id rfl
@[go_sem] theorem notRw_rptr {id sz i o : Nat} : notRw (AV.rptr id sz i o) = true := _root_.id rfl
@[go_sem] theorem noRw_rptr {id sz i o : Nat} : AV.noRw (AV.rptr id sz i o) = true := _root_.id rfl
@[go_sem] theorem snap_rptr {id sz i o : Nat} {h : Nat → Option AObj} : AV.snap h (AV.rptr id sz i o) = (AV.rptr id sz i o) := by rw [AV.snap] <;> simp
@[go_sem] theorem snapOk_rptr {id sz i o : Nat} {h : Nat → Option AObj} : AV.snapOk h (AV.rptr id sz i o) = True := by rw [AV.snapOk] <;> simp
@[go_sem] theorem reElem_rptr {id sz i o : Nat} {c : List AV} : reElem (AV.rptr id sz i o) c = c.getD 0 default := _root_.id rfl
@[go_sem] theorem cells_nilsl  : AV.cells (AV.nilsl) = [(AV.nilsl)] := _root_.id rfl
@[go_sem] theorem one_nilsl  : AV.one (AV.nilsl) = true := _root_.id rfl
@[go_sem] theorem isTup_nilsl  : AV.isTup (AV.nilsl) = false := _root_.id rfl
@[go_sem] theorem clo_nilsl  : AV.clo (AV.nilsl) = true := by rw [AV.clo] <;> simp
@[go_sem] theorem idq_nilsl  : AV.id? (AV.nilsl) = none := _root_.id rfl
@[go_sem] theorem ren_nilsl {m : Nat → Nat} : AV.ren m (AV.nilsl) = (AV.nilsl) := by rw [AV.ren]
@[go_sem] theorem ids_nilsl {p : Nat → Prop} : AV.ids p (AV.nilsl) = True := by rw [AV.ids] <;> simp
@[go_sem] theorem idl_nilsl  : AV.idl (AV.nilsl) = [] := by rw [AV.idl] <;> simp
@[go_sem] theorem flat_nilsl  : AV.flat (AV.nilsl) = true := _root_.id rfl
@[go_sem] theorem flatR_nilsl  : AV.flatR (AV.nilsl) = true := _root_.id rfl
@[go_sem] theorem notRw_nilsl  : notRw (AV.nilsl) = true := _root_.id rfl
@[go_sem] theorem noRw_nilsl  : AV.noRw (AV.nilsl) = true := _root_.id rfl
@[go_sem] theorem snap_nilsl {h : Nat → Option AObj} : AV.snap h (AV.nilsl) = .sl [] := by rw [AV.snap]
@[go_sem] theorem snapOk_nilsl {h : Nat → Option AObj} : AV.snapOk h (AV.nilsl) = True := by rw [AV.snapOk] <;> simp
@[go_sem] theorem reElem_nilsl {c : List AV} : reElem (AV.nilsl) c = c.getD 0 default := _root_.id rfl
@[go_sem] theorem cells_sl {l : List AV} : AV.cells (AV.sl l) = [(AV.sl l)] := _root_.id rfl
@[go_sem] theorem one_sl {l : List AV} : AV.one (AV.sl l) = true := _root_.id rfl
@[go_sem] theorem isTup_sl {l : List AV} : AV.isTup (AV.sl l) = false := _root_.id rfl
@[go_sem] theorem clo_sl {l : List AV} : AV.clo (AV.sl l) = true := by rw [AV.clo] <;> simp
@[go_sem] theorem idq_sl {l : List AV} : AV.id? (AV.sl l) = none := _root_.id rfl
@[go_sem] theorem ren_sl {l : List AV} {m : Nat → Nat} : AV.ren m (AV.sl l) = (AV.sl l) := by rw [AV.ren]
@[go_sem] theorem ids_sl {l : List AV} {p : Nat → Prop} : AV.ids p (AV.sl l) = True := by rw [AV.ids] <;> simp
@[go_sem] theorem idl_sl {l : List AV} : AV.idl (AV.sl l) = [] := by rw [AV.idl] <;> simp
@[go_sem] theorem flat_sl {l : List AV} : AV.flat (AV.sl l) = false := _root_.id rfl
@[go_sem] theorem flatR_sl {l : List AV} : AV.flatR (AV.sl l) = false := _root_.id rfl
@[go_sem] theorem notRw_sl {l : List AV} : notRw (AV.sl l) = true := _root_.id rfl
@[go_sem] theorem noRw_sl {l : List AV} : AV.noRw (AV.sl l) = true := _root_.id rfl
@[go_sem] theorem snap_sl {l : List AV} {h : Nat → Option AObj} : AV.snap h (AV.sl l) = (AV.sl l) := by rw [AV.snap] <;> simp
@[go_sem] theorem snapOk_sl {l : List AV} {h : Nat → Option AObj} : AV.snapOk h (AV.sl l) = True := by rw [AV.snapOk] <;> simp
@[go_sem] theorem reElem_sl {l : List AV} {c : List AV} : reElem (AV.sl l) c = c.getD 0 default := _root_.id rfl
@[go_sem] theorem cells_rw {id : Nat} : AV.cells (AV.rw id) = [(AV.rw id)] := _root_.id rfl
@[go_sem] theorem one_rw {id : Nat} : AV.one (AV.rw id) = true := _root_.id rfl
@[go_sem] theorem isTup_rw {id : Nat} : AV.isTup (AV.rw id) = false := _root_.id rfl
@[go_sem] theorem clo_rw {id : Nat} : AV.clo (AV.rw id) = false := by rw [AV.clo]
@[go_sem] theorem idq_rw {id : Nat} : AV.id? (AV.rw id) = some id := _root_.id rfl
@[go_sem] theorem ren_rw {id : Nat} {m : Nat → Nat} : AV.ren m (AV.rw id) = .rw (m id) := by rw [AV.ren]
@[go_sem] theorem ids_rw {id : Nat} {p : Nat → Prop} : AV.ids p (AV.rw id) = p id := by rw [AV.ids]
@[go_sem] theorem idl_rw {id : Nat} : AV.idl (AV.rw id) = [id] := by rw [AV.idl]
@[go_sem] theorem flat_rw {id : Nat} : AV.flat (AV.rw id) = false := _root_.id rfl
@[go_sem] theorem flatR_rw {id : Nat} : AV.flatR (AV.rw id) = false := _root_.id rfl
@[go_sem] theorem notRw_rw {id : Nat} : notRw (AV.rw id) = false := _root_.id rfl
@[go_sem] theorem noRw_rw {id : Nat} : AV.noRw (AV.rw id) = false := _root_.id rfl
@[go_sem] theorem snap_rw {id : Nat} {h : Nat → Option AObj} : AV.snap h (AV.rw id) = snapR (h id) id := by rw [AV.snap]; rfl
@[go_sem] theorem snapOk_rw {id : Nat} {h : Nat → Option AObj} : AV.snapOk h (AV.rw id) = snapOkR (h id) := by rw [AV.snapOk]; rfl
@[go_sem] theorem reElem_rw {id : Nat} {c : List AV} : reElem (AV.rw id) c = c.getD 0 default := _root_.id rfl
@[go_sem] theorem cells_nilmap  : AV.cells (AV.nilmap) = [(AV.nilmap)] := _root_.id rfl
@[go_sem] theorem one_nilmap  : AV.one (AV.nilmap) = true := _root_.id rfl
@[go_sem] theorem isTup_nilmap  : AV.isTup (AV.nilmap) = false := _root_.id rfl
@[go_sem] theorem clo_nilmap  : AV.clo (AV.nilmap) = true := by rw [AV.clo] <;> simp
@[go_sem] theorem idq_nilmap  : AV.id? (AV.nilmap) = none := _root_.id rfl
@[go_sem] theorem ren_nilmap {m : Nat → Nat} : AV.ren m (AV.nilmap) = (AV.nilmap) := by rw [AV.ren]
@[go_sem] theorem ids_nilmap {p : Nat → Prop} : AV.ids p (AV.nilmap) = True := by rw [AV.ids] <;> simp
@[go_sem] theorem idl_nilmap  : AV.idl (AV.nilmap) = [] := by rw [AV.idl] <;> simp
@[go_sem] theorem flat_nilmap  : AV.flat (AV.nilmap) = true := _root_.id rfl
@[go_sem] theorem flatR_nilmap  : AV.flatR (AV.nilmap) = true := _root_.id rfl
@[go_sem] theorem notRw_nilmap  : notRw (AV.nilmap) = true := _root_.id rfl
@[go_sem] theorem noRw_nilmap  : AV.noRw (AV.nilmap) = true := _root_.id rfl
@[go_sem] theorem snap_nilmap {h : Nat → Option AObj} : AV.snap h (AV.nilmap) = (AV.nilmap) := by rw [AV.snap] <;> simp
@[go_sem] theorem snapOk_nilmap {h : Nat → Option AObj} : AV.snapOk h (AV.nilmap) = True := by rw [AV.snapOk] <;> simp
@[go_sem] theorem reElem_nilmap {c : List AV} : reElem (AV.nilmap) c = c.getD 0 default := _root_.id rfl
@[go_sem] theorem cells_mp {id : Nat} : AV.cells (AV.mp id) = [(AV.mp id)] := _root_.id rfl
@[go_sem] theorem one_mp {id : Nat} : AV.one (AV.mp id) = true := _root_.id rfl
@[go_sem] theorem isTup_mp {id : Nat} : AV.isTup (AV.mp id) = false := _root_.id rfl
@[go_sem] theorem clo_mp {id : Nat} : AV.clo (AV.mp id) = false := by rw [AV.clo]
@[go_sem] theorem idq_mp {id : Nat} : AV.id? (AV.mp id) = some id := _root_.id rfl
@[go_sem] theorem ren_mp {id : Nat} {m : Nat → Nat} : AV.ren m (AV.mp id) = .mp (m id) := by rw [AV.ren]
@[go_sem] theorem ids_mp {id : Nat} {p : Nat → Prop} : AV.ids p (AV.mp id) = p id := by rw [AV.ids]
@[go_sem] theorem idl_mp {id : Nat} : AV.idl (AV.mp id) = [id] := by rw [AV.idl]
@[go_sem] theorem flat_mp {id : Nat} : AV.flat (AV.mp id) = false := _root_.id rfl
@[go_sem] theorem flatR_mp {id : Nat} : AV.flatR (AV.mp id) = false := _root_.id rfl
@[go_sem] theorem notRw_mp {id : Nat} : notRw (AV.mp id) = true := _root_.id rfl
@[go_sem] theorem noRw_mp {id : Nat} : AV.noRw (AV.mp id) = true := _root_.id rfl
@[go_sem] theorem snap_mp {id : Nat} {h : Nat → Option AObj} : AV.snap h (AV.mp id) = (AV.mp id) := by rw [AV.snap] <;> simp
@[go_sem] theorem snapOk_mp {id : Nat} {h : Nat → Option AObj} : AV.snapOk h (AV.mp id) = True := by rw [AV.snapOk] <;> simp
@[go_sem] theorem reElem_mp {id : Nat} {c : List AV} : reElem (AV.mp id) c = c.getD 0 default := _root_.id rfl
@[go_sem] theorem cells_nilfn  : AV.cells (AV.nilfn) = [(AV.nilfn)] := _root_.id rfl
@[go_sem] theorem one_nilfn  : AV.one (AV.nilfn) = true := _root_.id rfl
@[go_sem] theorem isTup_nilfn  : AV.isTup (AV.nilfn) = false := _root_.id rfl
@[go_sem] theorem clo_nilfn  : AV.clo (AV.nilfn) = true := by rw [AV.clo] <;> simp
@[go_sem] theorem idq_nilfn  : AV.id? (AV.nilfn) = none := _root_.id rfl
@[go_sem] theorem ren_nilfn {m : Nat → Nat} : AV.ren m (AV.nilfn) = (AV.nilfn) := by rw [AV.ren]
@[go_sem] theorem ids_nilfn {p : Nat → Prop} : AV.ids p (AV.nilfn) = True := by rw [AV.ids] <;> simp
@[go_sem] theorem idl_nilfn  : AV.idl (AV.nilfn) = [] := by rw [AV.idl] <;> simp
@[go_sem] theorem flat_nilfn  : AV.flat (AV.nilfn) = true := _root_.id rfl
@[go_sem] theorem flatR_nilfn  : AV.flatR (AV.nilfn) = true := _root_.id rfl
@[go_sem] theorem notRw_nilfn  : notRw (AV.nilfn) = true := _root_.id rfl
@[go_sem] theorem noRw_nilfn  : AV.noRw (AV.nilfn) = true := _root_.id rfl
@[go_sem] theorem snap_nilfn {h : Nat → Option AObj} : AV.snap h (AV.nilfn) = (AV.nilfn) := by rw [AV.snap] <;> simp
@[go_sem] theorem snapOk_nilfn {h : Nat → Option AObj} : AV.snapOk h (AV.nilfn) = True := by rw [AV.snapOk] <;> simp
@[go_sem] theorem reElem_nilfn {c : List AV} : reElem (AV.nilfn) c = c.getD 0 default := _root_.id rfl
@[go_sem] theorem cells_fn {f : Fn} {a b : List AV} : AV.cells (AV.fn f a b) = [(AV.fn f a b)] := _root_.id rfl
@[go_sem] theorem one_fn {f : Fn} {a b : List AV} : AV.one (AV.fn f a b) = true := _root_.id rfl
@[go_sem] theorem isTup_fn {f : Fn} {a b : List AV} : AV.isTup (AV.fn f a b) = false := _root_.id rfl
@[go_sem] theorem clo_fn {f : Fn} {a b : List AV} : AV.clo (AV.fn f a b) = (AV.cloL a && AV.cloL b) := by rw [AV.clo]
@[go_sem] theorem idq_fn {f : Fn} {a b : List AV} : AV.id? (AV.fn f a b) = none := _root_.id rfl
@[go_sem] theorem ren_fn {f : Fn} {a b : List AV} {m : Nat → Nat} : AV.ren m (AV.fn f a b) = .fn f (AV.renL m a) (AV.renL m b) := by rw [AV.ren]
@[go_sem] theorem ids_fn {f : Fn} {a b : List AV} {p : Nat → Prop} : AV.ids p (AV.fn f a b) = (AV.idsL p a ∧ AV.idsL p b) := by rw [AV.ids]
@[go_sem] theorem idl_fn {f : Fn} {a b : List AV} : AV.idl (AV.fn f a b) = AV.idlL a ++ AV.idlL b := by rw [AV.idl]
@[go_sem] theorem notRw_fn {f : Fn} {a b : List AV} : notRw (AV.fn f a b) = true := _root_.id rfl
@[go_sem] theorem noRw_fn {f : Fn} {a b : List AV} : AV.noRw (AV.fn f a b) = true := _root_.id rfl
@[go_sem] theorem snap_fn {f : Fn} {a b : List AV} {h : Nat → Option AObj} : AV.snap h (AV.fn f a b) = (AV.fn f a b) := by rw [AV.snap] <;> simp
@[go_sem] theorem snapOk_fn {f : Fn} {a b : List AV} {h : Nat → Option AObj} : AV.snapOk h (AV.fn f a b) = True := by rw [AV.snapOk] <;> simp
@[go_sem] theorem reElem_fn {f : Fn} {a b : List AV} {c : List AV} : reElem (AV.fn f a b) c = c.getD 0 default := _root_.id rfl
@[go_sem] theorem cells_nilif  : AV.cells (AV.nilif) = [(AV.nilif)] := _root_.id rfl
@[go_sem] theorem one_nilif  : AV.one (AV.nilif) = true := _root_.id rfl
@[go_sem] theorem isTup_nilif  : AV.isTup (AV.nilif) = false := _root_.id rfl
@[go_sem] theorem clo_nilif  : AV.clo (AV.nilif) = true := by rw [AV.clo] <;> simp
@[go_sem] theorem idq_nilif  : AV.id? (AV.nilif) = none := _root_.id rfl
@[go_sem] theorem ren_nilif {m : Nat → Nat} : AV.ren m (AV.nilif) = (AV.nilif) := by rw [AV.ren]
@[go_sem] theorem ids_nilif {p : Nat → Prop} : AV.ids p (AV.nilif) = True := by rw [AV.ids] <;> simp
@[go_sem] theorem idl_nilif  : AV.idl (AV.nilif) = [] := by rw [AV.idl] <;> simp
@[go_sem] theorem flat_nilif  : AV.flat (AV.nilif) = true := _root_.id rfl
@[go_sem] theorem flatR_nilif  : AV.flatR (AV.nilif) = true := _root_.id rfl
@[go_sem] theorem notRw_nilif  : notRw (AV.nilif) = true := _root_.id rfl
@[go_sem] theorem noRw_nilif  : AV.noRw (AV.nilif) = true := _root_.id rfl
@[go_sem] theorem snap_nilif {h : Nat → Option AObj} : AV.snap h (AV.nilif) = (AV.nilif) := by rw [AV.snap] <;> simp
@[go_sem] theorem snapOk_nilif {h : Nat → Option AObj} : AV.snapOk h (AV.nilif) = True := by rw [AV.snapOk] <;> simp
@[go_sem] theorem reElem_nilif {c : List AV} : reElem (AV.nilif) c = c.getD 0 default := _root_.id rfl
@[go_sem] theorem cells_iface {t : TypeId} {v : AV} : AV.cells (AV.iface t v) = [(AV.iface t v)] := _root_.id rfl
@[go_sem] theorem one_iface {t : TypeId} {v : AV} : AV.one (AV.iface t v) = true := _root_.id rfl
@[go_sem] theorem isTup_iface {t : TypeId} {v : AV} : AV.isTup (AV.iface t v) = false := _root_.id rfl
@[go_sem] theorem clo_iface {t : TypeId} {v : AV} : AV.clo (AV.iface t v) = AV.clo v := by rw [AV.clo]
@[go_sem] theorem idq_iface {t : TypeId} {v : AV} : AV.id? (AV.iface t v) = none := _root_.id rfl
@[go_sem] theorem ren_iface {t : TypeId} {v : AV} {m : Nat → Nat} : AV.ren m (AV.iface t v) = .iface t (AV.ren m v) := by rw [AV.ren]
@[go_sem] theorem ids_iface {t : TypeId} {v : AV} {p : Nat → Prop} : AV.ids p (AV.iface t v) = AV.ids p v := by rw [AV.ids]
@[go_sem] theorem idl_iface {t : TypeId} {v : AV} : AV.idl (AV.iface t v) = AV.idl v := by rw [AV.idl]
@[go_sem] theorem flat_iface {t : TypeId} {v : AV} : AV.flat (AV.iface t v) = false := _root_.id rfl
@[go_sem] theorem flatR_iface {t : TypeId} {v : AV} : AV.flatR (AV.iface t v) = false := _root_.id rfl
@[go_sem] theorem notRw_iface {t : TypeId} {v : AV} : notRw (AV.iface t v) = true := _root_.id rfl
@[go_sem] theorem noRw_iface {t : TypeId} {v : AV} : AV.noRw (AV.iface t v) = true := _root_.id rfl
@[go_sem] theorem snap_iface {t : TypeId} {v : AV} {h : Nat → Option AObj} : AV.snap h (AV.iface t v) = (AV.iface t v) := by rw [AV.snap] <;> simp
@[go_sem] theorem snapOk_iface {t : TypeId} {v : AV} {h : Nat → Option AObj} : AV.snapOk h (AV.iface t v) = True := by rw [AV.snapOk] <;> simp
@[go_sem] theorem reElem_iface {t : TypeId} {v : AV} {c : List AV} : reElem (AV.iface t v) c = c.getD 0 default := _root_.id rfl
@[go_sem] theorem cells_agg {l : List AV} : AV.cells (AV.agg l) = l := _root_.id rfl
@[go_sem] theorem one_agg {l : List AV} : AV.one (AV.agg l) = false := _root_.id rfl
@[go_sem] theorem isTup_agg {l : List AV} : AV.isTup (AV.agg l) = false := _root_.id rfl
@[go_sem] theorem clo_agg {l : List AV} : AV.clo (AV.agg l) = AV.cloL l := by rw [AV.clo]
@[go_sem] theorem idq_agg {l : List AV} : AV.id? (AV.agg l) = none := _root_.id rfl
@[go_sem] theorem ren_agg {l : List AV} {m : Nat → Nat} : AV.ren m (AV.agg l) = .agg (AV.renL m l) := by rw [AV.ren]
@[go_sem] theorem ids_agg {l : List AV} {p : Nat → Prop} : AV.ids p (AV.agg l) = AV.idsL p l := by rw [AV.ids]
@[go_sem] theorem idl_agg {l : List AV} : AV.idl (AV.agg l) = AV.idlL l := by rw [AV.idl]
@[go_sem] theorem flat_agg {l : List AV} : AV.flat (AV.agg l) = false := _root_.id rfl
@[go_sem] theorem flatR_agg {l : List AV} : AV.flatR (AV.agg l) = l.all AV.flat := _root_.id rfl
@[go_sem] theorem notRw_agg {l : List AV} : notRw (AV.agg l) = true := _root_.id rfl
@[go_sem] theorem noRw_agg {l : List AV} : AV.noRw (AV.agg l) = l.all notRw := _root_.id rfl
@[go_sem] theorem snap_agg {l : List AV} {h : Nat → Option AObj} : AV.snap h (AV.agg l) = .agg (AV.snapL h l) := by rw [AV.snap]
@[go_sem] theorem snapOk_agg {l : List AV} {h : Nat → Option AObj} : AV.snapOk h (AV.agg l) = AV.snapOkL h l := by rw [AV.snapOk]
@[go_sem] theorem cells_tup {l : List AV} : AV.cells (AV.tup l) = [(AV.tup l)] := _root_.id rfl
@[go_sem] theorem one_tup {l : List AV} : AV.one (AV.tup l) = false := _root_.id rfl
@[go_sem] theorem isTup_tup {l : List AV} : AV.isTup (AV.tup l) = true := _root_.id rfl
@[go_sem] theorem clo_tup {l : List AV} : AV.clo (AV.tup l) = AV.cloL l := by rw [AV.clo]
@[go_sem] theorem idq_tup {l : List AV} : AV.id? (AV.tup l) = none := _root_.id rfl
@[go_sem] theorem ren_tup {l : List AV} {m : Nat → Nat} : AV.ren m (AV.tup l) = .tup (AV.renL m l) := by rw [AV.ren]
@[go_sem] theorem ids_tup {l : List AV} {p : Nat → Prop} : AV.ids p (AV.tup l) = AV.idsL p l := by rw [AV.ids]
@[go_sem] theorem idl_tup {l : List AV} : AV.idl (AV.tup l) = AV.idlL l := by rw [AV.idl]
@[go_sem] theorem flat_tup {l : List AV} : AV.flat (AV.tup l) = false := _root_.id rfl
@[go_sem] theorem flatR_tup {l : List AV} : AV.flatR (AV.tup l) = l.all AV.flat := _root_.id rfl
@[go_sem] theorem notRw_tup {l : List AV} : notRw (AV.tup l) = true := _root_.id rfl
@[go_sem] theorem noRw_tup {l : List AV} : AV.noRw (AV.tup l) = false := _root_.id rfl
@[go_sem] theorem snap_tup {l : List AV} {h : Nat → Option AObj} : AV.snap h (AV.tup l) = .tup (AV.snapL h l) := by rw [AV.snap]
@[go_sem] theorem snapOk_tup {l : List AV} {h : Nat → Option AObj} : AV.snapOk h (AV.tup l) = AV.snapOkL h l := by rw [AV.snapOk]
@[go_sem] theorem reElem_tup {l : List AV} {c : List AV} : reElem (AV.tup l) c = c.getD 0 default := _root_.id rfl
@[go_sem] theorem reElem_agg {l c : List AV} : reElem (AV.agg l) c = AV.agg c := _root_.id rfl
@[go_sem] theorem flat_fn {f : Fn} : AV.flat (AV.fn f [] []) = true := _root_.id rfl
@[go_sem] theorem flatR_fn {f : Fn} : AV.flatR (AV.fn f [] []) = true := _root_.id rfl
@[go_sem] theorem cloL_nil  : AV.cloL [] = true := by rw [AV.cloL]
@[go_sem] theorem cloL_cons {a : AV} {l : List AV} : AV.cloL (a :: l) = (AV.clo a && AV.cloL l) := by rw [AV.cloL]
@[go_sem] theorem idlL_nil  : AV.idlL [] = [] := by rw [AV.idlL]
@[go_sem] theorem idlL_cons {a : AV} {l : List AV} : AV.idlL (a :: l) = AV.idl a ++ AV.idlL l := by rw [AV.idlL]
@[go_sem] theorem renL_nil {m : Nat → Nat} : AV.renL m [] = [] := by rw [AV.renL]
@[go_sem] theorem renL_cons {m : Nat → Nat} {a : AV} {l : List AV} : AV.renL m (a :: l) = AV.ren m a :: AV.renL m l := by rw [AV.renL]
@[go_sem] theorem idsL_nil {p : Nat → Prop} : AV.idsL p [] = True := by rw [AV.idsL]
@[go_sem] theorem idsL_cons {p : Nat → Prop} {a : AV} {l : List AV} : AV.idsL p (a :: l) = (AV.ids p a ∧ AV.idsL p l) := by rw [AV.idsL]
@[go_sem] theorem snapL_nil {h : Nat → Option AObj} : AV.snapL h [] = [] := by rw [AV.snapL]
@[go_sem] theorem snapL_cons {h : Nat → Option AObj} {a : AV} {l : List AV} : AV.snapL h (a :: l) = AV.snap h a :: AV.snapL h l := by rw [AV.snapL]
@[go_sem] theorem snapOkL_nil {h : Nat → Option AObj} : AV.snapOkL h [] = True := by rw [AV.snapOkL]
@[go_sem] theorem snapOkL_cons {h : Nat → Option AObj} {a : AV} {l : List AV} : AV.snapOkL h (a :: l) = (AV.snapOk h a ∧ AV.snapOkL h l) := by rw [AV.snapOkL]
@[go_sem] theorem snapR_row {sz id : Nat} {l : List AV} : snapR (some (.row sz l)) id = .sl l := _root_.id rfl
@[go_sem] theorem snapOkR_row {sz : Nat} {l : List AV} : snapOkR (some (.row sz l)) = CloRow l := _root_.id rfl
@[go_sem] theorem idOk_nil {nx m : Nat} : idOk nx m [] = true := _root_.id rfl
@[go_sem] theorem idOk_cons {nx m : Nat} {v : AV} {vs : List AV} : idOk nx m (v :: vs) = (idO nx m (AV.idl v) && idOk nx m vs) := _root_.id rfl
@[go_sem] theorem idO_nil {nx m : Nat} : idO nx m [] = true := _root_.id rfl
@[go_sem] theorem idO_cons {nx m i : Nat} {l : List Nat} : idO nx m (i :: l) = ((decide (i < nx) || m.testBit ((i - nx) / 1048576)) && idO nx m l) := _root_.id rfl
@[go_sem] theorem ldT_int {k : IntKind} {s b : Nat} {z : Option (List AV)} {l : List AV} {off : Nat} : ldT (some ⟨.int k, s, b, z⟩) l off = l[off]? := _root_.id rfl
@[go_sem] theorem ldT_bool {s b : Nat} {z : Option (List AV)} {l : List AV} {off : Nat} : ldT (some ⟨.bool, s, b, z⟩) l off = l[off]? := _root_.id rfl
@[go_sem] theorem ldT_str {s b : Nat} {z : Option (List AV)} {l : List AV} {off : Nat} : ldT (some ⟨.str, s, b, z⟩) l off = l[off]? := _root_.id rfl
@[go_sem] theorem ldT_ptr {s b : Nat} {z : Option (List AV)} {l : List AV} {off : Nat} : ldT (some ⟨.ptr, s, b, z⟩) l off = l[off]? := _root_.id rfl
@[go_sem] theorem ldT_slice {e : TypeId} {s b : Nat} {z : Option (List AV)} {l : List AV} {off : Nat} : ldT (some ⟨.slice e, s, b, z⟩) l off = l[off]? := _root_.id rfl
@[go_sem] theorem ldT_map {k e : TypeId} {s b : Nat} {z : Option (List AV)} {l : List AV} {off : Nat} : ldT (some ⟨.map k e, s, b, z⟩) l off = l[off]? := _root_.id rfl
@[go_sem] theorem ldT_iface {s b : Nat} {z : Option (List AV)} {l : List AV} {off : Nat} : ldT (some ⟨.iface, s, b, z⟩) l off = l[off]? := _root_.id rfl
@[go_sem] theorem ldT_func {s b : Nat} {z : Option (List AV)} {l : List AV} {off : Nat} : ldT (some ⟨.func, s, b, z⟩) l off = l[off]? := _root_.id rfl
@[go_sem] theorem ldT_other {s b : Nat} {z : Option (List AV)} {l : List AV} {off : Nat} : ldT (some ⟨.other, s, b, z⟩) l off = l[off]? := _root_.id rfl
@[go_sem] theorem ldT_struct {fs : List (TypeId × Nat)} {s b : Nat} {z : Option (List AV)} {l : List AV} {off : Nat} : ldT (some ⟨.struct fs, s, b, z⟩) l off = if off + s ≤ l.length then some (.agg ((l.drop off).take s)) else none := _root_.id rfl
@[go_sem] theorem ldT_array {n : Nat} {e : TypeId} {s b : Nat} {z : Option (List AV)} {l : List AV} {off : Nat} : ldT (some ⟨.array n e, s, b, z⟩) l off = if off + s ≤ l.length then some (.agg ((l.drop off).take s)) else none := _root_.id rfl
@[go_sem] theorem valO_some {x : AV} : valO (some x) = some (True, .val x) := _root_.id rfl
@[go_sem] theorem ldE_some {T : Option TI} {e : AV} {off : Nat} : ldE T (some e) off = ldT T e.cells off := _root_.id rfl
@[go_sem] theorem effA_load_ptr {P : Program} {t : TypeId} {x : Operand} {id off : Nat} {l : List AV} : effA P (.load t x) [.ptr id off] [some (.cells l)] = valO (ldT (ti P t) l off) := by cases h0 : ti P t <;> simp [effA, h0, valO, ldT]
@[go_sem] theorem effA_load_eptr {P : Program} {t : TypeId} {x : Operand} {e : AV} {off : Nat} {os : List (Option AObj)} : effA P (.load t x) [.eptr e off] os = valO (ldT (ti P t) e.cells off) := by cases h0 : ti P t <;> simp [effA, h0, valO, ldT]
@[go_sem] theorem effA_load_rptr {P : Program} {t : TypeId} {x : Operand} {id sz i off : Nat} {l : List AV} : effA P (.load t x) [.rptr id sz i off] [some (.row sz l)] = valO (ldE (ti P t) l[i]? off) := by cases h0 : ti P t <;> cases h1 : l[i]? <;> simp [effA, h0, h1, valO, ldT, ldE]
@[go_sem] theorem setO_some {id : Nat} {l : List AV} : setO id (some l) = some (True, .set id (.cells l) (.tup [])) := _root_.id rfl
@[go_sem] theorem stT_some {T : TI} {l : List AV} {off : Nat} {x : AV} : stT (some T) l off x = stA T l off x := _root_.id rfl
@[go_sem] theorem setR_some {T : Option TI} {id sz i off : Nat} {l : List AV} {e x : AV} : setR T id sz i l (some e) off x = setR2 id sz i l e (stT T e.cells off x) := _root_.id rfl
@[go_sem] theorem setR2_some {id sz i : Nat} {l c : List AV} {e : AV} : setR2 id sz i l e (some c) = some (True, .set id (.row sz (l.set i (reElem e c))) (.tup [])) := _root_.id rfl
@[go_sem] theorem effA_store_ptr {P : Program} {t : TypeId} {x y : Operand} {id off : Nat} {v : AV} {l : List AV} {o : Option AObj} : effA P (.store t x y) [.ptr id off, v] [some (.cells l), o] = setO id (stT (ti P t) l off v) := by cases h0 : ti P t <;> simp [effA, h0, setO, stT]
@[go_sem] theorem effA_store_rptr {P : Program} {t : TypeId} {x y : Operand} {id sz i off : Nat} {v : AV} {l : List AV} {o : Option AObj} : effA P (.store t x y) [.rptr id sz i off, v] [some (.row sz l), o] = setR (ti P t) id sz i l l[i]? off v := by cases h0 : ti P t <;> cases h1 : l[i]? <;> simp [effA, h0, h1, setR, setR2, stT]
@[go_sem] theorem idxO_some {sz : Nat} {n : Int} {y : AV} : idxO (some sz) n (some y) = if y.cells.length = sz then some (0 ≤ n, .val (.eptr y 0)) else none := _root_.id rfl
@[go_sem] theorem idxR_some {sz sz1 id len : Nat} {n : Int} : idxR (some sz1) sz id n len = if sz = sz1 then some (0 ≤ n ∧ n.toNat < len, .val (.rptr id sz n.toNat 0)) else none := _root_.id rfl
@[go_sem] theorem effA_idx_sl {P : Program} {t : TypeId} {x y : Operand} {l : List AV} {k : IntKind} {n : Int} {os : List (Option AObj)} : effA P (.indexAddr t x y) [.sl l, .int k n] os = idxO (elT P t) n l[n.toNat]? := effA_idx_sl'
@[go_sem] theorem effA_idx_rw {P : Program} {t : TypeId} {x y : Operand} {id sz : Nat} {l : List AV} {k : IntKind} {n : Int} {o : Option AObj} : effA P (.indexAddr t x y) [.rw id, .int k n] [some (.row sz l), o] = idxR (elT P t) sz id n l.length := effA_idx_rw'
@[go_sem] theorem addO_ptr {off : Nat} {id o : Nat} : addO (some off) (.ptr id o) = some (True, .val (.ptr id (o + off))) := _root_.id rfl
@[go_sem] theorem addO_eptr {off : Nat} {e : AV} {o : Nat} : addO (some off) (.eptr e o) = some (True, .val (.eptr e (o + off))) := _root_.id rfl
@[go_sem] theorem addO_rptr {off : Nat} {id sz i o : Nat} : addO (some off) (.rptr id sz i o) = some (True, .val (.rptr id sz i (o + off))) := _root_.id rfl
@[go_sem] theorem effA_fld {P : Program} {t : TypeId} {x : Operand} {f : Nat} {v : AV} {os : List (Option AObj)} : effA P (.fieldAddr t x f) [v] os = addO (flT P t f) v := effA_fld'
@[go_sem] theorem effA_field {P : Program} {t : TypeId} {x : Operand} {f : Nat} {l : List AV} {os : List (Option AObj)} : effA P (.field t x f) [.agg l] os = valO (fd1 P (ti P t) f l) := effA_field'
@[go_sem] theorem fd1_struct {P : Program} {fs : List (TypeId × Nat)} {s b : Nat} {z : Option (List AV)} {f : Nat} {l : List AV} : fd1 P (some ⟨.struct fs, s, b, z⟩) f l = fd2 P fs[f]? l := _root_.id rfl
@[go_sem] theorem fd2_some {P : Program} {t : TypeId} {off : Nat} {l : List AV} : fd2 P (some (t, off)) l = ldT (ti P t) l off := _root_.id rfl
@[go_sem] theorem effA_add_int {P : Program} {t u : TypeId} {x y : Operand} {k : IntKind} {a c : Int} {os : List (Option AObj)} : effA P (.binOp .add t x y u) [.int k a, .int k c] os = some (True, .val (.int k (k.wrap (a + c)))) := by simp [effA, binA, binInt]
@[go_sem] theorem effA_sub_int {P : Program} {t u : TypeId} {x y : Operand} {k : IntKind} {a c : Int} {os : List (Option AObj)} : effA P (.binOp .sub t x y u) [.int k a, .int k c] os = some (True, .val (.int k (k.wrap (a - c)))) := by simp [effA, binA, binInt]
@[go_sem] theorem effA_mul_int {P : Program} {t u : TypeId} {x y : Operand} {k : IntKind} {a c : Int} {os : List (Option AObj)} : effA P (.binOp .mul t x y u) [.int k a, .int k c] os = some (True, .val (.int k (k.wrap (a * c)))) := by simp [effA, binA, binInt]
@[go_sem] theorem effA_eql_int {P : Program} {t u : TypeId} {x y : Operand} {k : IntKind} {a c : Int} {os : List (Option AObj)} : effA P (.binOp .eql t x y u) [.int k a, .int k c] os = some (True, .val (.bool (a == c))) := by simp [effA, binA, binInt]
@[go_sem] theorem effA_neq_int {P : Program} {t u : TypeId} {x y : Operand} {k : IntKind} {a c : Int} {os : List (Option AObj)} : effA P (.binOp .neq t x y u) [.int k a, .int k c] os = some (True, .val (.bool (a != c))) := by simp [effA, binA, binInt]
@[go_sem] theorem effA_lss_int {P : Program} {t u : TypeId} {x y : Operand} {k : IntKind} {a c : Int} {os : List (Option AObj)} : effA P (.binOp .lss t x y u) [.int k a, .int k c] os = some (True, .val (.bool (decide (a < c)))) := by simp [effA, binA, binInt]
@[go_sem] theorem effA_leq_int {P : Program} {t u : TypeId} {x y : Operand} {k : IntKind} {a c : Int} {os : List (Option AObj)} : effA P (.binOp .leq t x y u) [.int k a, .int k c] os = some (True, .val (.bool (decide (a ≤ c)))) := by simp [effA, binA, binInt]
@[go_sem] theorem effA_gtr_int {P : Program} {t u : TypeId} {x y : Operand} {k : IntKind} {a c : Int} {os : List (Option AObj)} : effA P (.binOp .gtr t x y u) [.int k a, .int k c] os = some (True, .val (.bool (decide (a > c)))) := by simp [effA, binA, binInt]
@[go_sem] theorem effA_geq_int {P : Program} {t u : TypeId} {x y : Operand} {k : IntKind} {a c : Int} {os : List (Option AObj)} : effA P (.binOp .geq t x y u) [.int k a, .int k c] os = some (True, .val (.bool (decide (a ≥ c)))) := by simp [effA, binA, binInt]
@[go_sem] theorem effA_and_int {P : Program} {t u : TypeId} {x y : Operand} {k : IntKind} {a c : Int} {os : List (Option AObj)} : effA P (.binOp .and t x y u) [.int k a, .int k c] os = some (True, .val (.int k (k.wrap (BitVec.ofInt k.bits a &&& BitVec.ofInt k.bits c).toNat))) := by simp [effA, binA, binInt]
@[go_sem] theorem effA_or_int {P : Program} {t u : TypeId} {x y : Operand} {k : IntKind} {a c : Int} {os : List (Option AObj)} : effA P (.binOp .or t x y u) [.int k a, .int k c] os = some (True, .val (.int k (k.wrap (BitVec.ofInt k.bits a ||| BitVec.ofInt k.bits c).toNat))) := by simp [effA, binA, binInt]
@[go_sem] theorem effA_xor_int {P : Program} {t u : TypeId} {x y : Operand} {k : IntKind} {a c : Int} {os : List (Option AObj)} : effA P (.binOp .xor t x y u) [.int k a, .int k c] os = some (True, .val (.int k (k.wrap (BitVec.ofInt k.bits a ^^^ BitVec.ofInt k.bits c).toNat))) := by simp [effA, binA, binInt]
@[go_sem] theorem effA_andNot_int {P : Program} {t u : TypeId} {x y : Operand} {k : IntKind} {a c : Int} {os : List (Option AObj)} : effA P (.binOp .andNot t x y u) [.int k a, .int k c] os = some (True, .val (.int k (k.wrap (BitVec.ofInt k.bits a &&& ~~~BitVec.ofInt k.bits c).toNat))) := by simp [effA, binA, binInt]
@[go_sem] theorem effA_quo_int {P : Program} {t u : TypeId} {x y : Operand} {k : IntKind} {a c : Int} {os : List (Option AObj)} : effA P (.binOp .quo t x y u) [.int k a, .int k c] os = some (c ≠ 0, .val (.int k (k.wrap (a.tdiv c)))) := by simp [effA, binA, binInt, binDiv]
@[go_sem] theorem effA_rem_int {P : Program} {t u : TypeId} {x y : Operand} {k : IntKind} {a c : Int} {os : List (Option AObj)} : effA P (.binOp .rem t x y u) [.int k a, .int k c] os = some (c ≠ 0, .val (.int k (a.tmod c))) := by simp [effA, binA, binInt, binDiv]
@[go_sem] theorem effA_eql_bool {P : Program} {t u : TypeId} {x y : Operand} {a c : Bool} {os : List (Option AObj)} : effA P (.binOp .eql t x y u) [.bool a, .bool c] os = blO (ti P t) (a == c) := by rcases h0 : ti P t with _ | ⟨k, s, b, z⟩ <;> simp [effA, binA, h0, blO, nilifA] <;> cases k <;> simp [blO]
@[go_sem] theorem effA_neq_bool {P : Program} {t u : TypeId} {x y : Operand} {a c : Bool} {os : List (Option AObj)} : effA P (.binOp .neq t x y u) [.bool a, .bool c] os = blO (ti P t) (!(a == c)) := by rcases h0 : ti P t with _ | ⟨k, s, b, z⟩ <;> simp [effA, binA, h0, blO, nilifA] <;> cases k <;> simp [blO]
@[go_sem] theorem blO_bool {s b : Nat} {z : Option (List AV)} {r : Bool} : blO (some ⟨.bool, s, b, z⟩) r = some (True, .val (.bool r)) := _root_.id rfl
@[go_sem] theorem effA_add_str {P : Program} {t u : TypeId} {x y : Operand} {a c : ByteArray} {os : List (Option AObj)} : effA P (.binOp .add t x y u) [.str a, .str c] os = some ((a.size + c.size : Nat) ≤ 2 ^ 62, .val (.str (a ++ c))) := by simp [effA, binA]
@[go_sem] theorem effA_eql_str {P : Program} {t u : TypeId} {x y : Operand} {a c : ByteArray} {os : List (Option AObj)} : effA P (.binOp .eql t x y u) [.str a, .str c] os = some (True, .val (.bool (a.toList == c.toList))) := by simp [effA, binA]
@[go_sem] theorem effA_neq_str {P : Program} {t u : TypeId} {x y : Operand} {a c : ByteArray} {os : List (Option AObj)} : effA P (.binOp .neq t x y u) [.str a, .str c] os = some (True, .val (.bool (!(a.toList == c.toList)))) := by simp [effA, binA]
@[go_sem] theorem effA_lss_str {P : Program} {t u : TypeId} {x y : Operand} {a c : ByteArray} {os : List (Option AObj)} : effA P (.binOp .lss t x y u) [.str a, .str c] os = some (True, .val (.bool (Op.bytesLess a.toList c.toList))) := by simp [effA, binA]
@[go_sem] theorem effA_eql_nil0 {P : Program} {t u : TypeId} {x y : Operand} {os : List (Option AObj)} : effA P (.binOp .eql t x y u) [.nilp, .nilp] os = nlO (ti P t) (.nilp) (.nilp) true := by rcases h0 : ti P t with _ | ⟨k, s, b, z⟩ <;> simp [effA, binA, h0, nlO, nilEq, nilifA] <;> try (cases k <;> simp [nilTK])
@[go_sem] theorem effA_neq_nil0 {P : Program} {t u : TypeId} {x y : Operand} {os : List (Option AObj)} : effA P (.binOp .neq t x y u) [.nilp, .nilp] os = nlO (ti P t) (.nilp) (.nilp) false := by rcases h0 : ti P t with _ | ⟨k, s, b, z⟩ <;> simp [effA, binA, h0, nlO, nilEq, nilifA] <;> try (cases k <;> simp [nilTK])
@[go_sem] theorem nlO_0 {s b : Nat} {z : Option (List AV)} {r : Bool} : nlO (some ⟨.ptr, s, b, z⟩) (.nilp) (.nilp) r = some (True, .val (.bool r)) := by simp [nlO, nilTK]
@[go_sem] theorem effA_eql_nil1 {P : Program} {t u : TypeId} {x y : Operand} {id o : Nat} {os : List (Option AObj)} : effA P (.binOp .eql t x y u) [.nilp, .ptr id o] os = nlO (ti P t) (.nilp) (.ptr id o) false := by rcases h0 : ti P t with _ | ⟨k, s, b, z⟩ <;> simp [effA, binA, h0, nlO, nilEq, nilifA] <;> try (cases k <;> simp [nilTK])
@[go_sem] theorem effA_neq_nil1 {P : Program} {t u : TypeId} {x y : Operand} {id o : Nat} {os : List (Option AObj)} : effA P (.binOp .neq t x y u) [.nilp, .ptr id o] os = nlO (ti P t) (.nilp) (.ptr id o) true := by rcases h0 : ti P t with _ | ⟨k, s, b, z⟩ <;> simp [effA, binA, h0, nlO, nilEq, nilifA] <;> try (cases k <;> simp [nilTK])
@[go_sem] theorem nlO_1 {s b : Nat} {z : Option (List AV)} {id o : Nat} {r : Bool} : nlO (some ⟨.ptr, s, b, z⟩) (.nilp) (.ptr id o) r = some (True, .val (.bool r)) := by simp [nlO, nilTK]
@[go_sem] theorem effA_eql_nil2 {P : Program} {t u : TypeId} {x y : Operand} {id o : Nat} {os : List (Option AObj)} : effA P (.binOp .eql t x y u) [.ptr id o, .nilp] os = nlO (ti P t) (.ptr id o) (.nilp) false := by rcases h0 : ti P t with _ | ⟨k, s, b, z⟩ <;> simp [effA, binA, h0, nlO, nilEq, nilifA] <;> try (cases k <;> simp [nilTK])
@[go_sem] theorem effA_neq_nil2 {P : Program} {t u : TypeId} {x y : Operand} {id o : Nat} {os : List (Option AObj)} : effA P (.binOp .neq t x y u) [.ptr id o, .nilp] os = nlO (ti P t) (.ptr id o) (.nilp) true := by rcases h0 : ti P t with _ | ⟨k, s, b, z⟩ <;> simp [effA, binA, h0, nlO, nilEq, nilifA] <;> try (cases k <;> simp [nilTK])
@[go_sem] theorem nlO_2 {s b : Nat} {z : Option (List AV)} {id o : Nat} {r : Bool} : nlO (some ⟨.ptr, s, b, z⟩) (.ptr id o) (.nilp) r = some (True, .val (.bool r)) := by simp [nlO, nilTK]
@[go_sem] theorem effA_eql_nil3 {P : Program} {t u : TypeId} {x y : Operand} {e : AV} {o : Nat} {os : List (Option AObj)} : effA P (.binOp .eql t x y u) [.eptr e o, .nilp] os = nlO (ti P t) (.eptr e o) (.nilp) false := by rcases h0 : ti P t with _ | ⟨k, s, b, z⟩ <;> simp [effA, binA, h0, nlO, nilEq, nilifA] <;> try (cases k <;> simp [nilTK])
@[go_sem] theorem effA_neq_nil3 {P : Program} {t u : TypeId} {x y : Operand} {e : AV} {o : Nat} {os : List (Option AObj)} : effA P (.binOp .neq t x y u) [.eptr e o, .nilp] os = nlO (ti P t) (.eptr e o) (.nilp) true := by rcases h0 : ti P t with _ | ⟨k, s, b, z⟩ <;> simp [effA, binA, h0, nlO, nilEq, nilifA] <;> try (cases k <;> simp [nilTK])
@[go_sem] theorem nlO_3 {s b : Nat} {z : Option (List AV)} {e : AV} {o : Nat} {r : Bool} : nlO (some ⟨.ptr, s, b, z⟩) (.eptr e o) (.nilp) r = some (True, .val (.bool r)) := by simp [nlO, nilTK]
@[go_sem] theorem effA_eql_nil4 {P : Program} {t u : TypeId} {x y : Operand} {id sz i o : Nat} {os : List (Option AObj)} : effA P (.binOp .eql t x y u) [.rptr id sz i o, .nilp] os = nlO (ti P t) (.rptr id sz i o) (.nilp) false := by rcases h0 : ti P t with _ | ⟨k, s, b, z⟩ <;> simp [effA, binA, h0, nlO, nilEq, nilifA] <;> try (cases k <;> simp [nilTK])
@[go_sem] theorem effA_neq_nil4 {P : Program} {t u : TypeId} {x y : Operand} {id sz i o : Nat} {os : List (Option AObj)} : effA P (.binOp .neq t x y u) [.rptr id sz i o, .nilp] os = nlO (ti P t) (.rptr id sz i o) (.nilp) true := by rcases h0 : ti P t with _ | ⟨k, s, b, z⟩ <;> simp [effA, binA, h0, nlO, nilEq, nilifA] <;> try (cases k <;> simp [nilTK])
@[go_sem] theorem nlO_4 {s b : Nat} {z : Option (List AV)} {id sz i o : Nat} {r : Bool} : nlO (some ⟨.ptr, s, b, z⟩) (.rptr id sz i o) (.nilp) r = some (True, .val (.bool r)) := by simp [nlO, nilTK]
@[go_sem] theorem effA_eql_nil5 {P : Program} {t u : TypeId} {x y : Operand} {os : List (Option AObj)} : effA P (.binOp .eql t x y u) [.nilmap, .nilmap] os = nlO (ti P t) (.nilmap) (.nilmap) true := by rcases h0 : ti P t with _ | ⟨k, s, b, z⟩ <;> simp [effA, binA, h0, nlO, nilEq, nilifA] <;> try (cases k <;> simp [nilTK])
@[go_sem] theorem effA_neq_nil5 {P : Program} {t u : TypeId} {x y : Operand} {os : List (Option AObj)} : effA P (.binOp .neq t x y u) [.nilmap, .nilmap] os = nlO (ti P t) (.nilmap) (.nilmap) false := by rcases h0 : ti P t with _ | ⟨k, s, b, z⟩ <;> simp [effA, binA, h0, nlO, nilEq, nilifA] <;> try (cases k <;> simp [nilTK])
@[go_sem] theorem nlO_5 {k1 e1 : TypeId} {s b : Nat} {z : Option (List AV)} {r : Bool} : nlO (some ⟨.map k1 e1, s, b, z⟩) (.nilmap) (.nilmap) r = some (True, .val (.bool r)) := by simp [nlO, nilTK]
@[go_sem] theorem effA_eql_nil6 {P : Program} {t u : TypeId} {x y : Operand} {id : Nat} {os : List (Option AObj)} : effA P (.binOp .eql t x y u) [.mp id, .nilmap] os = nlO (ti P t) (.mp id) (.nilmap) false := by rcases h0 : ti P t with _ | ⟨k, s, b, z⟩ <;> simp [effA, binA, h0, nlO, nilEq, nilifA] <;> try (cases k <;> simp [nilTK])
@[go_sem] theorem effA_neq_nil6 {P : Program} {t u : TypeId} {x y : Operand} {id : Nat} {os : List (Option AObj)} : effA P (.binOp .neq t x y u) [.mp id, .nilmap] os = nlO (ti P t) (.mp id) (.nilmap) true := by rcases h0 : ti P t with _ | ⟨k, s, b, z⟩ <;> simp [effA, binA, h0, nlO, nilEq, nilifA] <;> try (cases k <;> simp [nilTK])
@[go_sem] theorem nlO_6 {k1 e1 : TypeId} {s b : Nat} {z : Option (List AV)} {id : Nat} {r : Bool} : nlO (some ⟨.map k1 e1, s, b, z⟩) (.mp id) (.nilmap) r = some (True, .val (.bool r)) := by simp [nlO, nilTK]
@[go_sem] theorem effA_eql_nil7 {P : Program} {t u : TypeId} {x y : Operand} {os : List (Option AObj)} : effA P (.binOp .eql t x y u) [.nilfn, .nilfn] os = nlO (ti P t) (.nilfn) (.nilfn) true := by rcases h0 : ti P t with _ | ⟨k, s, b, z⟩ <;> simp [effA, binA, h0, nlO, nilEq, nilifA] <;> try (cases k <;> simp [nilTK])
@[go_sem] theorem effA_neq_nil7 {P : Program} {t u : TypeId} {x y : Operand} {os : List (Option AObj)} : effA P (.binOp .neq t x y u) [.nilfn, .nilfn] os = nlO (ti P t) (.nilfn) (.nilfn) false := by rcases h0 : ti P t with _ | ⟨k, s, b, z⟩ <;> simp [effA, binA, h0, nlO, nilEq, nilifA] <;> try (cases k <;> simp [nilTK])
@[go_sem] theorem nlO_7 {s b : Nat} {z : Option (List AV)} {r : Bool} : nlO (some ⟨.func, s, b, z⟩) (.nilfn) (.nilfn) r = some (True, .val (.bool r)) := by simp [nlO, nilTK]
@[go_sem] theorem effA_eql_nil8 {P : Program} {t u : TypeId} {x y : Operand} {f : Fn} {p q : List AV} {os : List (Option AObj)} : effA P (.binOp .eql t x y u) [.fn f p q, .nilfn] os = nlO (ti P t) (.fn f p q) (.nilfn) false := by rcases h0 : ti P t with _ | ⟨k, s, b, z⟩ <;> simp [effA, binA, h0, nlO, nilEq, nilifA] <;> try (cases k <;> simp [nilTK])
@[go_sem] theorem effA_neq_nil8 {P : Program} {t u : TypeId} {x y : Operand} {f : Fn} {p q : List AV} {os : List (Option AObj)} : effA P (.binOp .neq t x y u) [.fn f p q, .nilfn] os = nlO (ti P t) (.fn f p q) (.nilfn) true := by rcases h0 : ti P t with _ | ⟨k, s, b, z⟩ <;> simp [effA, binA, h0, nlO, nilEq, nilifA] <;> try (cases k <;> simp [nilTK])
@[go_sem] theorem nlO_8 {s b : Nat} {z : Option (List AV)} {f : Fn} {p q : List AV} {r : Bool} : nlO (some ⟨.func, s, b, z⟩) (.fn f p q) (.nilfn) r = some (True, .val (.bool r)) := by simp [nlO, nilTK]
@[go_sem] theorem effA_eql_nil9 {P : Program} {t u : TypeId} {x y : Operand} {os : List (Option AObj)} : effA P (.binOp .eql t x y u) [.nilsl, .nilsl] os = nlO (ti P t) (.nilsl) (.nilsl) true := by rcases h0 : ti P t with _ | ⟨k, s, b, z⟩ <;> simp [effA, binA, h0, nlO, nilEq, nilifA] <;> try (cases k <;> simp [nilTK])
@[go_sem] theorem effA_neq_nil9 {P : Program} {t u : TypeId} {x y : Operand} {os : List (Option AObj)} : effA P (.binOp .neq t x y u) [.nilsl, .nilsl] os = nlO (ti P t) (.nilsl) (.nilsl) false := by rcases h0 : ti P t with _ | ⟨k, s, b, z⟩ <;> simp [effA, binA, h0, nlO, nilEq, nilifA] <;> try (cases k <;> simp [nilTK])
@[go_sem] theorem nlO_9 {e1 : TypeId} {s b : Nat} {z : Option (List AV)} {r : Bool} : nlO (some ⟨.slice e1, s, b, z⟩) (.nilsl) (.nilsl) r = some (True, .val (.bool r)) := by simp [nlO, nilTK]
@[go_sem] theorem effA_eql_nil10 {P : Program} {t u : TypeId} {x y : Operand} {c : AV} {l : List AV} {os : List (Option AObj)} : effA P (.binOp .eql t x y u) [.sl (c :: l), .nilsl] os = nlO (ti P t) (.sl (c :: l)) (.nilsl) false := by rcases h0 : ti P t with _ | ⟨k, s, b, z⟩ <;> simp [effA, binA, h0, nlO, nilEq, nilifA] <;> try (cases k <;> simp [nilTK])
@[go_sem] theorem effA_neq_nil10 {P : Program} {t u : TypeId} {x y : Operand} {c : AV} {l : List AV} {os : List (Option AObj)} : effA P (.binOp .neq t x y u) [.sl (c :: l), .nilsl] os = nlO (ti P t) (.sl (c :: l)) (.nilsl) true := by rcases h0 : ti P t with _ | ⟨k, s, b, z⟩ <;> simp [effA, binA, h0, nlO, nilEq, nilifA] <;> try (cases k <;> simp [nilTK])
@[go_sem] theorem nlO_10 {e1 : TypeId} {s b : Nat} {z : Option (List AV)} {c : AV} {l : List AV} {r : Bool} : nlO (some ⟨.slice e1, s, b, z⟩) (.sl (c :: l)) (.nilsl) r = some (True, .val (.bool r)) := by simp [nlO, nilTK]
@[go_sem] theorem effA_eql_nil11 {P : Program} {t u : TypeId} {x y : Operand} {u1 : TypeId} {v : AV} {os : List (Option AObj)} : effA P (.binOp .eql t x y u) [.iface u1 v, .nilif] os = nlO (ti P t) (.iface u1 v) (.nilif) false := by rcases h0 : ti P t with _ | ⟨k, s, b, z⟩ <;> simp [effA, binA, h0, nlO, nilEq, nilifA] <;> try (cases k <;> simp [nilTK])
@[go_sem] theorem effA_neq_nil11 {P : Program} {t u : TypeId} {x y : Operand} {u1 : TypeId} {v : AV} {os : List (Option AObj)} : effA P (.binOp .neq t x y u) [.iface u1 v, .nilif] os = nlO (ti P t) (.iface u1 v) (.nilif) true := by rcases h0 : ti P t with _ | ⟨k, s, b, z⟩ <;> simp [effA, binA, h0, nlO, nilEq, nilifA] <;> try (cases k <;> simp [nilTK])
@[go_sem] theorem nlO_11 {s b : Nat} {z : Option (List AV)} {u1 : TypeId} {v : AV} {r : Bool} : nlO (some ⟨.iface, s, b, z⟩) (.iface u1 v) (.nilif) r = some (True, .val (.bool r)) := by simp [nlO, nilTK]
@[go_sem] theorem effA_eql_nif {P : Program} {t u : TypeId} {x : Operand} {v : Value} {os : List (Option AObj)} : effA P (.binOp .eql t x (.const v) u) [.nilif, .nilif] os = niO (ti P t) true := by rcases h0 : ti P t with _ | ⟨k, s, b, z⟩ <;> simp [effA, binA, h0, nilEq, nilifA, isC, niO] <;> cases k <;> simp [nilTK, niO]
@[go_sem] theorem effA_neq_nif {P : Program} {t u : TypeId} {x : Operand} {v : Value} {os : List (Option AObj)} : effA P (.binOp .neq t x (.const v) u) [.nilif, .nilif] os = niO (ti P t) false := by rcases h0 : ti P t with _ | ⟨k, s, b, z⟩ <;> simp [effA, binA, h0, nilEq, nilifA, isC, niO] <;> cases k <;> simp [nilTK, niO]
@[go_sem] theorem niO_iface {s b : Nat} {z : Option (List AV)} {r : Bool} : niO (some ⟨.iface, s, b, z⟩) r = some (True, .val (.bool r)) := by rfl
@[go_sem] theorem effA_not {P : Program} {t : TypeId} {x : Operand} {c : Bool} {os : List (Option AObj)} : effA P (.unOp .not t x) [.bool c] os = some (True, .val (.bool !c)) := by simp [effA, unA]
@[go_sem] theorem effA_neg {P : Program} {t : TypeId} {x : Operand} {k : IntKind} {n : Int} {os : List (Option AObj)} : effA P (.unOp .neg t x) [.int k n] os = some (True, .val (.int k (k.wrap (0 - n)))) := by simp [effA, unA]
@[go_sem] theorem effA_conv_int {P : Program} {t u : TypeId} {x : Operand} {k : IntKind} {n : Int} {os : List (Option AObj)} : effA P (.convert t u x) [.int k n] os = cvI (ti P t) (ti P u) n := by rcases h0 : ti P t with _ | ⟨k1, s, b, z⟩ <;> rcases h1 : ti P u with _ | ⟨k2, s2, b2, z2⟩ <;> simp [effA, convA, h0, h1, cvI] <;> cases k2 <;> simp [cvI]
@[go_sem] theorem cvI_int {T : TI} {k : IntKind} {s b : Nat} {z : Option (List AV)} {n : Int} : cvI (some T) (some ⟨.int k, s, b, z⟩) n = some (True, .val (.int k (k.wrap n))) := _root_.id rfl
@[go_sem] theorem effA_conv_str {P : Program} {t u : TypeId} {x : Operand} {c : ByteArray} {os : List (Option AObj)} : effA P (.convert t u x) [.str c] os = cvS (ti P t) (ti P u) c := by rcases h0 : ti P t with _ | ⟨k1, s, b, z⟩ <;> rcases h1 : ti P u with _ | ⟨k2, s2, b2, z2⟩ <;> simp [effA, convA, h0, h1, cvS] <;> cases k2 <;> simp [cvS]
@[go_sem] theorem cvS_str {T : TI} {s b : Nat} {z : Option (List AV)} {c : ByteArray} : cvS (some T) (some ⟨.str, s, b, z⟩) c = some (True, .val (.str c)) := _root_.id rfl
@[go_sem] theorem effA_mkI {P : Program} {t : TypeId} {x : Operand} {v : AV} {os : List (Option AObj)} : effA P (.makeInterface t x) [v] os = mkI (ti P t) t v := by rcases h0 : ti P t with _ | ⟨k, s, b, z⟩ <;> simp [effA, h0, mkI] <;> cases k <;> simp [mkI]
@[go_sem] theorem mkI_int {k : IntKind} {s b : Nat} {z : Option (List AV)} {t : TypeId} {v : AV} : mkI (some ⟨.int k, s, b, z⟩) t v = some (True, .val (.iface t v)) := _root_.id rfl
@[go_sem] theorem mkI_bool {s b : Nat} {z : Option (List AV)} {t : TypeId} {v : AV} : mkI (some ⟨.bool, s, b, z⟩) t v = some (True, .val (.iface t v)) := _root_.id rfl
@[go_sem] theorem mkI_str {s b : Nat} {z : Option (List AV)} {t : TypeId} {v : AV} : mkI (some ⟨.str, s, b, z⟩) t v = some (True, .val (.iface t v)) := _root_.id rfl
@[go_sem] theorem mkI_ptr {s b : Nat} {z : Option (List AV)} {t : TypeId} {v : AV} : mkI (some ⟨.ptr, s, b, z⟩) t v = some (True, .val (.iface t v)) := _root_.id rfl
@[go_sem] theorem mkI_slice {e : TypeId} {s b : Nat} {z : Option (List AV)} {t : TypeId} {v : AV} : mkI (some ⟨.slice e, s, b, z⟩) t v = some (True, .val (.iface t v)) := _root_.id rfl
@[go_sem] theorem mkI_struct {fs : List (TypeId × Nat)} {s b : Nat} {z : Option (List AV)} {t : TypeId} {v : AV} : mkI (some ⟨.struct fs, s, b, z⟩) t v = some (True, .val (.iface t v)) := _root_.id rfl
@[go_sem] theorem mkI_func {s b : Nat} {z : Option (List AV)} {t : TypeId} {v : AV} : mkI (some ⟨.func, s, b, z⟩) t v = some (True, .val (.iface t v)) := _root_.id rfl
@[go_sem] theorem effA_mkF {P : Program} {fn : Fn} {f c : Array Operand} {vs : List AV} {os : List (Option AObj)} : effA P (.makeFunc fn f c) vs os = if vs.length = f.size + c.size then some (True, .val (.fn fn (vs.take f.size) (vs.drop f.size))) else none := by rfl
@[go_sem] theorem effA_pick {P : Program} {x y w : Operand} {c : Bool} {v u : AV} {os : List (Option AObj)} : effA P (.pick x y w) [.bool c, v, u] os = some (True, .val (if c then v else u)) := _root_.id rfl
@[go_sem] theorem effA_alloc {P : Program} {t : TypeId} {os : List (Option AObj)} : effA P (.alloc t) [] os = alO (ti P t) := by rcases h0 : ti P t with _ | ⟨k, s, b, _ | z⟩ <;> simp [effA, h0, alO]
@[go_sem] theorem alO_some {k : TK} {s b : Nat} {zs : List AV} : alO (some ⟨k, s, b, some zs⟩) = some (True, .new (.cells zs) (.ptr · 0)) := _root_.id rfl
@[go_sem] theorem effA_box {P : Program} {t : TypeId} {x : Operand} {v : AV} {os : List (Option AObj)} : effA P (.box t x) [v] os = if v.isTup = true then none else some (True, .new (.cells v.cells) (.ptr · 0)) := by simp [effA]
@[go_sem] theorem effA_build {P : Program} {t : TypeId} {ps : Array (Nat × Operand)} {vs : List AV} {os : List (Option AObj)} : effA P (.build t ps) vs os = bdO P (ti P t) ((ps.toList.map (·.1)).zip vs) := by rcases h0 : ti P t with _ | ⟨k, s, b, _ | z⟩ <;> simp [effA, h0, bdO] <;> cases k <;> simp [bdO, agO]
@[go_sem] theorem bdO_struct {P : Program} {fs : List (TypeId × Nat)} {s b : Nat} {zs : List AV} {q : List (Nat × AV)} : bdO P (some ⟨.struct fs, s, b, some zs⟩) q = if fs.all (fun f => (ti P f.1).isSome) then agO (fillA P fs zs q) else none := _root_.id rfl
@[go_sem] theorem agO_some {l : List AV} : agO (some l) = some (True, .val (.agg l)) := _root_.id rfl
@[go_sem] theorem fillA_nil {P : Program} {fs : List (TypeId × Nat)} {c : List AV} : fillA P fs c [] = some c := by rw [fillA]
@[go_sem] theorem fillA_cons {P : Program} {fs : List (TypeId × Nat)} {c : List AV} {i : Nat} {v : AV} {r : List (Nat × AV)} : fillA P fs c ((i, v) :: r) = fl1 P fs c v r fs[i]? := by rw [fillA]; rcases fs[i]? with _ | ⟨t, off⟩ <;> simp [fl1]; rcases ti P t with _ | T <;> simp [fl2]
@[go_sem] theorem fl1_some {P : Program} {fs : List (TypeId × Nat)} {c : List AV} {v : AV} {r : List (Nat × AV)} {t : TypeId} {off : Nat} : fl1 P fs c v r (some (t, off)) = fl2 P fs c v r off (ti P t) := _root_.id rfl
@[go_sem] theorem fl2_some {P : Program} {fs : List (TypeId × Nat)} {c : List AV} {v : AV} {r : List (Nat × AV)} {off : Nat} {k : TK} {s b : Nat} {z : Option (List AV)} : fl2 P fs c v r off (some ⟨k, s, b, z⟩) = if v.cells.length = s ∧ off + s ≤ c.length ∧ v.isTup = false then fillA P fs (spl c off v.cells) r else none := _root_.id rfl
@[go_sem] theorem elJ_slice {P : Program} {e : TypeId} {s b : Nat} {z : Option (List AV)} : elJ P (some ⟨.slice e, s, b, z⟩) = ti P e := _root_.id rfl
@[go_sem] theorem effA_bs {P : Program} {t : TypeId} {n : Nat} {ps : Array (Nat × Operand)} {vs : List AV} {os : List (Option AObj)} : effA P (.buildSlice t n ps) vs os = bsO (elJ P (ti P t)) n (ps.toList.map (·.1)) vs := by rcases h0 : ti P t with _ | ⟨k, s, b, z⟩ <;> simp [effA, h0, elJ, bsO] <;> cases k <;> simp [elJ, bsO]; rename_i e; rcases h1 : ti P e with _ | ⟨k, s, b, _ | z⟩ <;> simp [bsO]
@[go_sem] theorem bsO_some {k : TK} {s b n : Nat} {zs : List AV} {q : List Nat} {vs : List AV} : bsO (some ⟨k, s, b, some zs⟩) n q vs = if zs.length = s ∧ n * s ≤ 2 ^ 24 ∧ q = List.range n ∧ vs.all (fun x => x.cells.length == s && !x.isTup) then some (True, .new (.row s vs) .rw) else none := _root_.id rfl
@[go_sem] theorem effA_ms {P : Program} {t : TypeId} {x y : Operand} {k k1 : IntKind} {n c : Int} {os : List (Option AObj)} : effA P (.makeSlice t x y) [.int k n, .int k1 c] os = msO (elJ P (ti P t)) n c := by rcases h0 : ti P t with _ | ⟨k, s, b, z⟩ <;> simp [effA, h0, elJ, msO] <;> cases k <;> simp [elJ, msO]; rename_i e; rcases h1 : ti P e with _ | ⟨k, s, b, _ | z⟩ <;> simp [msO]
@[go_sem] theorem msO_some {k : TK} {s b : Nat} {zs : List AV} {n c : Int} : msO (some ⟨k, s, b, some zs⟩) n c = if zs.length = s ∧ (k.isAgg = true ∨ s = 1) then some (0 ≤ n ∧ n ≤ c ∧ c ≤ 2 ^ 46 ∧ c * b ≤ 2 ^ 48, .new (.row s (List.replicate n.toNat (mkElem ⟨k, s, b, some zs⟩ zs))) .rw) else none := _root_.id rfl
@[go_sem] theorem effA_slc {P : Program} {t : TypeId} {x : Operand} {l : List AV} {os : List (Option AObj)} : effA P (.slice t x (none) (none) none) [.sl l] os = slO (elT P t) l (True) (.sl l) := effA_slc' rfl
@[go_sem] theorem effA_slca {P : Program} {t : TypeId} {x : Operand} {u : Operand} {l : List AV} {k : IntKind} {a : Int} {os : List (Option AObj)} : effA P (.slice t x (some u) (none) none) [.sl l, .int k a] os = slO (elT P t) l (0 ≤ a ∧ a.toNat ≤ l.length) (.sl (l.drop a.toNat)) := effA_slc' rfl
@[go_sem] theorem effA_slcb {P : Program} {t : TypeId} {x : Operand} {u : Operand} {l : List AV} {k : IntKind} {a : Int} {os : List (Option AObj)} : effA P (.slice t x (none) (some u) none) [.sl l, .int k a] os = slO (elT P t) l (0 ≤ a ∧ a.toNat ≤ l.length) (.sl (l.take a.toNat)) := effA_slc' rfl
@[go_sem] theorem effA_slcab {P : Program} {t : TypeId} {x : Operand} {u w : Operand} {l : List AV} {k k1 : IntKind} {a c : Int} {os : List (Option AObj)} : effA P (.slice t x (some u) (some w) none) [.sl l, .int k a, .int k1 c] os = slO (elT P t) l (0 ≤ a ∧ a ≤ c ∧ c.toNat ≤ l.length) (.sl (cutA l a.toNat c.toNat)) := effA_slc' rfl
@[go_sem] theorem slO_some {sz : Nat} {l : List AV} {ob : Prop} {v : AV} : slO (some sz) l ob v = some (ob ∧ SzOk l sz, .val v) := _root_.id rfl
@[go_sem] theorem effA_ext {P : Program} {x : Operand} {i : Nat} {l : List AV} {os : List (Option AObj)} : effA P (.extract x i) [.tup l] os = valO l[i]? := by cases h0 : l[i]? <;> simp [effA, h0, valO]
@[go_sem] theorem effA_ta {P : Program} {x : Operand} {u : TypeId} {t t1 : TypeId} {v : AV} {os : List (Option AObj)} : effA P (.typeAssert x u t true) [.iface t1 v] os = taO (ti P t) t1 t (.tup [v, .bool true]) := by rcases h0 : ti P t with _ | ⟨k, s, b, z⟩ <;> simp [effA, h0, taO] <;> cases k <;> simp [taO]
@[go_sem] theorem effA_ta0 {P : Program} {x : Operand} {u : TypeId} {t t1 : TypeId} {v : AV} {os : List (Option AObj)} : effA P (.typeAssert x u t false) [.iface t1 v] os = taO (ti P t) t1 t v := by rcases h0 : ti P t with _ | ⟨k, s, b, z⟩ <;> simp [effA, h0, taO] <;> cases k <;> simp [taO]
@[go_sem] theorem taO_struct {fs : List (TypeId × Nat)} {s b : Nat} {z : Option (List AV)} {t1 t : TypeId} {v : AV} : taO (some ⟨.struct fs, s, b, z⟩) t1 t v = if t1 = t then some (True, .val v) else none := _root_.id rfl
@[go_sem] theorem effA_mm {P : Program} {t : TypeId} {os : List (Option AObj)} : effA P (.makeMap t none) [] os = some (True, .new (.map []) .mp) := _root_.id rfl
@[go_sem] theorem effA_nc_ptr {P : Program} {x : Operand} {id o : Nat} {os : List (Option AObj)} : effA P (.nilCheck x) [.ptr id o] os = some (True, .val (.ptr id o)) := _root_.id rfl
@[go_sem] theorem effA_nc_eptr {P : Program} {x : Operand} {e : AV} {o : Nat} {os : List (Option AObj)} : effA P (.nilCheck x) [.eptr e o] os = some (True, .val (.eptr e o)) := _root_.id rfl
@[go_sem] theorem effA_nc_rptr {P : Program} {x : Operand} {id sz i o : Nat} {os : List (Option AObj)} : effA P (.nilCheck x) [.rptr id sz i o] os = some (True, .val (.rptr id sz i o)) := _root_.id rfl
@[go_sem] theorem effA_nc_fn {P : Program} {x : Operand} {g : FuncId} {a b : List AV} {os : List (Option AObj)} : effA P (.nilCheck x) [.fn (.func g) a b] os = some (True, .val (.fn (.func g) a b)) := _root_.id rfl
@[go_sem] theorem findE_nil {k : IntKind} {n : Int} : findE k n [] = some none := by rw [findE]
@[go_sem] theorem findE_cons {k : IntKind} {n n1 : Int} {v : AV} {es : List (AV × AV)} : findE k n ((.int k n1, v) :: es) = if n = n1 then some (some v) else findE k n es := by rw [findE]; simp
@[go_sem] theorem lkRes_t {z x : AV} : lkRes true z (some x) = .tup [x, .bool true] := _root_.id rfl
@[go_sem] theorem lkRes_tn {z : AV} : lkRes true z none = .tup [z, .bool false] := _root_.id rfl
@[go_sem] theorem lkRes_f {z x : AV} : lkRes false z (some x) = x := _root_.id rfl
@[go_sem] theorem lkRes_fn {z : AV} : lkRes false z none = z := _root_.id rfl
@[go_sem] theorem effA_ins {P : Program} {t : TypeId} {x y w : Operand} {id : Nat} {k : IntKind} {n : Int} {v : AV} {es : List (AV × AV)} {o1 o2 : Option AObj} : effA P (.insert t x y w) [.mp id, .int k n, v] [some (.map es), o1, o2] = inO (mpT P t) id es (.int k n) v (findE k n es) := effA_ins'
@[go_sem] theorem inO_some {et : TypeId} {id : Nat} {es : List (AV × AV)} {a v : AV} : inO (some et) id es a v (some none) = some (True, .set id (.map (es ++ [(a, v)])) (.tup [])) := _root_.id rfl
@[go_sem] theorem effA_lk {P : Program} {t : TypeId} {x y : Operand} {ok : Bool} {id : Nat} {k : IntKind} {n : Int} {es : List (AV × AV)} {o1 : Option AObj} : effA P (.lookup t x y ok) [.mp id, .int k n] [some (.map es), o1] = lkO ok (mpZ P t) (findE k n es) := effA_lk'
@[go_sem] theorem lkO_some {ok : Bool} {z : AV} {r : Option AV} : lkO ok (some z) (some r) = some (True, .val (lkRes ok z r)) := _root_.id rfl
@[go_sem] theorem effA_len_sl {P : Program} {ars : Array Operand} {t : TypeId} {l : List AV} {os : List (Option AObj)} : effA P (.call ⟨.builtin .len, ars, #[t]⟩) [.sl l] os = lnO (ti P t) (.i l.length) := by rcases h0 : ti P t with _ | ⟨k, s, b, z⟩ <;> simp [effA, lenE, lenA, h0, lnO] <;> cases k <;> simp [lnO]
@[go_sem] theorem effA_len_nilsl {P : Program} {ars : Array Operand} {t : TypeId} {os : List (Option AObj)} : effA P (.call ⟨.builtin .len, ars, #[t]⟩) [.nilsl] os = lnO (ti P t) (.i 0) := by rcases h0 : ti P t with _ | ⟨k, s, b, z⟩ <;> simp [effA, lenE, lenA, h0, lnO] <;> cases k <;> simp [lnO]
@[go_sem] theorem effA_len_rw {P : Program} {ars : Array Operand} {t : TypeId} {id sz : Nat} {l : List AV} : effA P (.call ⟨.builtin .len, ars, #[t]⟩) [.rw id] [some (.row sz l)] = lnO (ti P t) (.i l.length) := by rcases h0 : ti P t with _ | ⟨k, s, b, z⟩ <;> simp [effA, lenE, lenA, h0, lnO] <;> cases k <;> simp [lnO]
@[go_sem] theorem lnO_slice {e : TypeId} {s b : Nat} {z : Option (List AV)} {v : AV} : lnO (some ⟨.slice e, s, b, z⟩) v = some (True, .val v) := _root_.id rfl
@[go_sem] theorem effA_len_str {P : Program} {ars : Array Operand} {t : TypeId} {c : ByteArray} {os : List (Option AObj)} : effA P (.call ⟨.builtin .len, ars, #[t]⟩) [.str c] os = lsO (ti P t) (.i c.size) := by rcases h0 : ti P t with _ | ⟨k, s, b, z⟩ <;> simp [effA, lenE, lenA, h0, lsO] <;> cases k <;> simp [lsO]
@[go_sem] theorem lsO_str {s b : Nat} {z : Option (List AV)} {v : AV} : lsO (some ⟨.str, s, b, z⟩) v = some (True, .val v) := _root_.id rfl
@[go_sem] theorem effA_app {P : Program} {ars : Array Operand} {t u : TypeId} {v w : AV} {o1 o2 : Option AObj} : effA P (.call ⟨.builtin .append, ars, #[t, u]⟩) [v, w] [o1, o2] = ap0 (elJ P (ti P t)) v o1 (sr0 (elJ P (ti P t)) (ti P u) w o2) := effA_app'
@[go_sem] theorem ap0_nil {k : TK} {s b : Nat} {zs xs : List AV} {ob : Prop} {o : Option AObj} : ap0 (some ⟨k, s, b, some zs⟩) .nilsl o (some (ob, xs)) = if zs.length = s then some (ob ∧ Fits xs.length b, .new (.row s xs) .rw) else none := _root_.id rfl
@[go_sem] theorem ap0_rw {k : TK} {s b id sz : Nat} {zs xs l : List AV} {ob : Prop} : ap0 (some ⟨k, s, b, some zs⟩) (.rw id) (some (.row sz l)) (some (ob, xs)) = if zs.length = s then (if sz = s then some (ob ∧ Fits (l.length + xs.length) b, .swap id (.row s (l ++ xs)) .rw) else none) else none := _root_.id rfl
@[go_sem] theorem sr0_nilsl {T : TI} {e : TypeId} {s b : Nat} {z : Option (List AV)} {o : Option AObj} : sr0 (some T) (some ⟨.slice e, s, b, z⟩) .nilsl o = some (True, []) := _root_.id rfl
@[go_sem] theorem sr0_sl {T : TI} {e : TypeId} {s b : Nat} {z : Option (List AV)} {o : Option AObj} {xs : List AV} : sr0 (some T) (some ⟨.slice e, s, b, z⟩) (.sl xs) o = some (SzOk xs T.size, xs) := _root_.id rfl
@[go_sem] theorem sr0_rw {T : TI} {e : TypeId} {s b : Nat} {z : Option (List AV)} {id sz : Nat} {xs : List AV} : sr0 (some T) (some ⟨.slice e, s, b, z⟩) (.rw id) (some (.row sz xs)) = if sz = T.size then some (True, xs) else none := _root_.id rfl
@[go_sem] theorem sr0_int {k : TK} {s1 b1 : Nat} {zs : List AV} {k1 k2 : IntKind} {s b : Nat} {z : Option (List AV)} {n : Int} {o : Option AObj} : sr0 (some ⟨k, s1, b1, some zs⟩) (some ⟨.int k1, s, b, z⟩) (.int k2 n) o = if zs.length = s1 ∧ (k.isAgg = true ∨ s1 = 1) then some (0 ≤ n ∧ n ≤ 2 ^ 46, List.replicate n.toNat (mkElem ⟨k, s1, b1, some zs⟩ zs)) else none := _root_.id rfl
@[go_sem] theorem rvA_tmp {P : Program} {fr : Nat → Option AV} {hp : Nat → Option AObj} {nx t : Nat} : rvA P ⟨fr, hp, nx⟩ (.tmp t) = fr t := _root_.id rfl
@[go_sem] theorem rvA_cell {P : Program} {fr : Nat → Option AV} {hp : Nat → Option AObj} {nx t : Nat} {ty : TypeId} : rvA P ⟨fr, hp, nx⟩ (.cell t ty) = rv1 P hp (ti P ty) (fr t) := by show (match fr t, ti P ty with | some (.ptr id off), some T => (match hp id with | some (.cells l) => ldA T l off | _ => none) | _, _ => none) = _; generalize fr t = a; generalize ti P ty = b; rcases a with _ | v <;> rcases b with _ | T <;> (try cases v) <;> rfl
@[go_sem] theorem rv1_ptr {P : Program} {hp : Nat → Option AObj} {T : TI} {id off : Nat} : rv1 P hp (some T) (some (.ptr id off)) = rv2 (some T) (hp id) off := _root_.id rfl
@[go_sem] theorem rv2_cells {T : Option TI} {l : List AV} {off : Nat} : rv2 T (some (.cells l)) off = ldT T l off := _root_.id rfl
@[go_sem] theorem resA_eq {P : Program} {rs : List ResultVar} {σ : St} : resA P rs σ = rs1 (rsL P σ rs) := resA_eq'
@[go_sem] theorem rsL_nil {P : Program} {σ : St} : rsL P σ [] = some [] := _root_.id rfl
@[go_sem] theorem rsL_cons {P : Program} {σ : St} {r : ResultVar} {rs : List ResultVar} : rsL P σ (r :: rs) = cons2 (rvA P σ r) (rsL P σ rs) := _root_.id rfl
@[go_sem] theorem rs1_one {v : AV} : rs1 (some [v]) = some v := _root_.id rfl
@[go_sem] theorem rs1_nil  : rs1 (some []) = some (.tup []) := _root_.id rfl
@[go_sem] theorem rs1_two {v w : AV} {l : List AV} : rs1 (some (v :: w :: l)) = some (.tup (v :: w :: l)) := _root_.id rfl

end Go.Am
