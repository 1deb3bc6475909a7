/- A part of the proof: an abstract machine for the walks, and what the walked functions compute. -/
import Derived.Test.YtlhhahocjfgmdaaPa
import Derived.Test.YtlhhahocjfgmdaaMq
import Derived.Test.YtlhhahocjfgmdaaMr
set_option linter.unusedVariables false
set_option linter.unusedSimpArgs false
set_option linter.unusedVariables false
namespace Go.Mv
open Go Go.Am Go.Hv
namespace Ty
mutual
def av : Ty → AV
 | .mk k i a => .agg [.i k, .i i, .sl (avL a)]
def avL : List Ty → List AV
 | [] => []
 | x :: l => x.av :: avL l
end
def cs (x : Ty) : List AV := [.i x.kind, .i x.id, .sl (avL x.args)]
theorem av_cs (x : Ty) : x.av = .agg x.cs := by cases x; rw [av]; rfl
theorem av_eq (x : Ty) : x.av = .agg [.i x.kind, .i x.id, .sl (avL x.args)] := av_cs x
theorem avL_eq : ∀ l : List Ty, avL l = l.map av
 | [] => by rw [avL]; rfl
 | x :: l => by rw [avL, avL_eq l]; rfl
theorem av_clo (x : Ty) : x.av.clo = true := by rw [av_cs]; rfl
theorem cs_clo (x : Ty) : AV.cloL x.cs = true := rfl
theorem avL_clo (l : List Ty) : AV.cloL (avL l) = true := cloLeq _ fun x hx => by rw [avL_eq] at hx; obtain ⟨p, _, rfl⟩ := List.mem_map.1 hx; exact av_clo p
theorem ext {a b : Ty} (h1 : a.kind = b.kind) (h2 : a.id = b.id) (h3 : a.args = b.args) : a = b := by
 cases a; cases b; simp_all [kind, id, args]
theorem ext_iff {a b : Ty} : a = b ↔ a.kind = b.kind ∧ a.id = b.id ∧ a.args = b.args := ⟨by rintro rfl; simp, fun ⟨h1, h2, h3⟩ => ext h1 h2 h3⟩
theorem sz_eq (x : Ty) : x.sz = 1 + szL x.args := by cases x; rw [sz]; rfl
theorem szL_eq : ∀ l : List Ty, szL l = (l.map sz).sum
 | [] => by rw [szL]; rfl
 | t :: l => by rw [szL, szL_eq l]; rfl
theorem sz_mem {t : Ty} : ∀ {l : List Ty}, t ∈ l → t.sz ≤ szL l
 | x :: l, h => by
  rw [szL]
  rcases List.mem_cons.1 h with e | e
  ·subst e; omega
  ·have := sz_mem e; omega
theorem len_le : ∀ l : List Ty, l.length ≤ szL l
 | [] => Nat.zero_le _
 | t :: l => by rw [szL, sz_eq]; have := len_le l; simp only [List.length_cons]; omega
@[go_sem] theorem avL_len (l : List Ty) : (avL l).length = l.length := by rw [avL_eq, List.length_map]
@[go_sem] theorem avL_get (l : List Ty) (i : Nat) : (avL l)[i]? = l[i]?.map av := by rw [avL_eq, List.getElem?_map]
@[go_sem] theorem avL_ren (m : Nat → Nat) (l : List Ty) : AV.renL m (avL l) = avL l := cloL_renL (avL_clo l)
@[go_sem] theorem avL_ids (p : Nat → Prop) (l : List Ty) : AV.idsL p (avL l) = True := eq_true (cloL_idsL (avL_clo l))
@[go_sem] theorem cs_ren (m : Nat → Nat) (x : Ty) : AV.renL m x.cs = x.cs := cloL_renL x.cs_clo
@[go_sem] theorem cs_ids (p : Nat → Prop) (x : Ty) : AV.idsL p x.cs = True := eq_true (cloL_idsL x.cs_clo)
@[go_sem] theorem av_ren (m : Nat → Nat) (x : Ty) : x.av.ren m = x.av := clo_ren x.av_clo
@[go_sem] theorem av_ids (p : Nat → Prop) (x : Ty) : x.av.ids p = True := eq_true (clo_ids x.av_clo)
@[go_sem] theorem cs_len (x : Ty) : x.cs.length = 3 := rfl
theorem avL_app (l : List Ty) (x : Ty) : avL l ++ [x.av] = avL (l ++ [x]) := by simp [avL_eq]
theorem clo_avL (l : List Ty) : CloRow (avL l) := by
 intro x hx c hc
 rw [avL_eq] at hx
 obtain ⟨p, _, rfl⟩ := List.mem_map.1 hx
 rw [av_cs] at hc
 simp only [AV.cells, cs, List.mem_cons, List.not_mem_nil, or_false] at hc
 rcases hc with rfl | rfl | rfl <;> rfl
@[go_sem] theorem clo_avLT (l : List Ty) : CloRow (avL l) = True := eq_true (clo_avL l)
end Ty
namespace Dv
def cs (x : Dv) : List AV := [.str x.nm, .sl (Ty.avL x.fs)]
def av (x : Dv) : AV := .agg x.cs
theorem av_eq (x : Dv) : x.av = .agg [.str x.nm, .sl (Ty.avL x.fs)] := rfl
theorem cs_eq (x : Dv) : x.cs = [.str x.nm, .sl (Ty.avL x.fs)] := rfl
theorem av_clo (x : Dv) : x.av.clo = true := rfl
def sz (x : Dv) : Nat := 1 + Ty.szL x.fs
end Dv
def dvl (l : List Dv) : List AV := l.map Dv.av
namespace Dd
def cs (x : Dd) : List AV := [.str x.nm, .i x.md, .i x.pr, .sl (dvl x.vs), .i x.dr]
def av (x : Dd) : AV := .agg x.cs
theorem av_eq (x : Dd) : x.av = .agg [.str x.nm, .i x.md, .i x.pr, .sl (dvl x.vs), .i x.dr] := rfl
theorem cs_eq (x : Dd) : x.cs = [.str x.nm, .i x.md, .i x.pr, .sl (dvl x.vs), .i x.dr] := rfl
theorem av_clo (x : Dd) : x.av.clo = true := rfl
end Dd
def ddl (l : List Dd) : List AV := l.map Dd.av
namespace Mg
def cs (x : Mg) : List AV := [.i x.data, .sl (il x.vars), .sl (ill x.fss)]
def av (x : Mg) : AV := .agg x.cs
theorem av_eq (x : Mg) : x.av = .agg [.i x.data, .sl (il x.vars), .sl (ill x.fss)] := rfl
theorem cs_eq (x : Mg) : x.cs = [.i x.data, .sl (il x.vars), .sl (ill x.fss)] := rfl
theorem av_clo (x : Mg) : x.av.clo = true := rfl
end Mg
def mgl (l : List Mg) : List AV := l.map Mg.av
@[go_sem] theorem dvl_len (l : List Dv) : (dvl l).length = l.length := List.length_map ..
@[go_sem] theorem dvl_get (l : List Dv) (i : Nat) : (dvl l)[i]? = (l[i]?).map Dv.av := List.getElem?_map ..
theorem dvl_clo (l : List Dv) : AV.cloL (dvl l) = true := cloLeq _ fun x hx => by obtain ⟨c, _, rfl⟩ := List.mem_map.1 hx; exact c.av_clo
@[go_sem] theorem dvl_ren (m : Nat → Nat) (l : List Dv) : AV.renL m (dvl l) = dvl l := cloL_renL (dvl_clo l)
@[go_sem] theorem dvl_ids (p : Nat → Prop) (l : List Dv) : AV.idsL p (dvl l) = True := eq_true (cloL_idsL (dvl_clo l))
theorem dvl_app (l : List Dv) (x : Dv) : dvl l ++ [x.av] = dvl (l ++ [x]) := by simp [dvl]
theorem clo_dvl (l : List Dv) : CloRow (dvl l) := by
 intro x hx c hc
 obtain ⟨p, _, rfl⟩ := List.mem_map.1 hx
 simp only [AV.cells, Dv.av, Dv.cs_eq, List.mem_cons, List.not_mem_nil, or_false] at hc
 rcases hc with rfl | rfl <;> rfl
@[go_sem] theorem clo_dvlT (l : List Dv) : CloRow (dvl l) = True := eq_true (clo_dvl l)
@[go_sem] theorem Dv_av_ren (m : Nat → Nat) (x : Dv) : x.av.ren m = x.av := clo_ren x.av_clo
@[go_sem] theorem Dv_av_ids (p : Nat → Prop) (x : Dv) : x.av.ids p = True := eq_true (clo_ids x.av_clo)
@[go_sem] theorem ddl_len (l : List Dd) : (ddl l).length = l.length := List.length_map ..
@[go_sem] theorem ddl_get (l : List Dd) (i : Nat) : (ddl l)[i]? = (l[i]?).map Dd.av := List.getElem?_map ..
theorem ddl_clo (l : List Dd) : AV.cloL (ddl l) = true := cloLeq _ fun x hx => by obtain ⟨c, _, rfl⟩ := List.mem_map.1 hx; exact c.av_clo
@[go_sem] theorem ddl_ren (m : Nat → Nat) (l : List Dd) : AV.renL m (ddl l) = ddl l := cloL_renL (ddl_clo l)
@[go_sem] theorem ddl_ids (p : Nat → Prop) (l : List Dd) : AV.idsL p (ddl l) = True := eq_true (cloL_idsL (ddl_clo l))
theorem ddl_app (l : List Dd) (x : Dd) : ddl l ++ [x.av] = ddl (l ++ [x]) := by simp [ddl]
theorem clo_ddl (l : List Dd) : CloRow (ddl l) := by
 intro x hx c hc
 obtain ⟨p, _, rfl⟩ := List.mem_map.1 hx
 simp only [AV.cells, Dd.av, Dd.cs_eq, List.mem_cons, List.not_mem_nil, or_false] at hc
 rcases hc with rfl | rfl | rfl | rfl | rfl <;> rfl
@[go_sem] theorem clo_ddlT (l : List Dd) : CloRow (ddl l) = True := eq_true (clo_ddl l)
@[go_sem] theorem Dd_av_ren (m : Nat → Nat) (x : Dd) : x.av.ren m = x.av := clo_ren x.av_clo
@[go_sem] theorem Dd_av_ids (p : Nat → Prop) (x : Dd) : x.av.ids p = True := eq_true (clo_ids x.av_clo)
@[go_sem] theorem mgl_len (l : List Mg) : (mgl l).length = l.length := List.length_map ..
@[go_sem] theorem mgl_get (l : List Mg) (i : Nat) : (mgl l)[i]? = (l[i]?).map Mg.av := List.getElem?_map ..
theorem mgl_clo (l : List Mg) : AV.cloL (mgl l) = true := cloLeq _ fun x hx => by obtain ⟨c, _, rfl⟩ := List.mem_map.1 hx; exact c.av_clo
@[go_sem] theorem mgl_ren (m : Nat → Nat) (l : List Mg) : AV.renL m (mgl l) = mgl l := cloL_renL (mgl_clo l)
@[go_sem] theorem mgl_ids (p : Nat → Prop) (l : List Mg) : AV.idsL p (mgl l) = True := eq_true (cloL_idsL (mgl_clo l))
theorem mgl_app (l : List Mg) (x : Mg) : mgl l ++ [x.av] = mgl (l ++ [x]) := by simp [mgl]
theorem clo_mgl (l : List Mg) : CloRow (mgl l) := by
 intro x hx c hc
 obtain ⟨p, _, rfl⟩ := List.mem_map.1 hx
 simp only [AV.cells, Mg.av, Mg.cs_eq, List.mem_cons, List.not_mem_nil, or_false] at hc
 rcases hc with rfl | rfl | rfl <;> rfl
@[go_sem] theorem clo_mglT (l : List Mg) : CloRow (mgl l) = True := eq_true (clo_mgl l)
@[go_sem] theorem Mg_av_ren (m : Nat → Nat) (x : Mg) : x.av.ren m = x.av := clo_ren x.av_clo
@[go_sem] theorem Mg_av_ids (p : Nat → Prop) (x : Mg) : x.av.ids p = True := eq_true (clo_ids x.av_clo)
end Go.Mv
