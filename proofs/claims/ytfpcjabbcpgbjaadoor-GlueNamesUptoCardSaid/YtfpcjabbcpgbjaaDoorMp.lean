/- A part of the proof: an abstract machine for the walks, and what the walked functions compute. -/
import Derived.Maps.RangeRun
import Derived.Test.YtfpcjabbcpgbjaaDoorMo
set_option linter.unusedVariables false
set_option linter.unusedSimpArgs false
namespace Go.Am
open Go
open Go.ChangeMaps (setBlock)
variable {P:Program} {E:En} {ρ:Nat→Ref} {V:Nat→Prop} {Z:Nat→Nat→Prop} {σ:St} {a:Act} {w:World}
structure ItR (ents:Array MapEntry) (seen:Array Nat) (n:Nat) (done:List Nat):Prop where
 sz:ents.size=n
 nd:done.Nodup
 lt:∀ j,j∈done→j<n
 iff:∀ j e,ents[j]? =some e→(seen.contains e.born=true↔j∈done)
theorem ItR.step {ents:Array MapEntry} {seen:Array Nat} {n:Nat} {done:List Nat} (h:ItR ents seen n done) (hst:(ents.toList.map (·.born)).Nodup) {j:Nat} {e:MapEntry} (he:ents[j]? =some e) (hj:j∉done):ItR ents (seen.push e.born) n (done++[j]):=by
 refine⟨h.sz,?_,fun i hi=>?_,fun i e' he'=>?_⟩
 ·rw[List.nodup_append]
  exact⟨h.nd,by simp,fun x hx y hy=>by simp only[List.mem_singleton] at hy;subst hy;exact fun e=>hj (e▸hx)⟩
 ·rcases List.mem_append.1 hi with hi|hi
  ·exact h.lt i hi
  ·simp only[List.mem_singleton] at hi
   subst hi
   rw[← h.sz]
   exact(Array.getElem?_eq_some_iff.1 he).1
 ·rw[contains_push,Bool.or_eq_true,h.iff i e' he',List.mem_append,List.mem_singleton]
  refine or_congr Iff.rfl ?_
  rw[beq_iff_eq]
  constructor
  ·intro hb
   have h1:(ents.toList.map (·.born))[i]? =some e'.born:=by rw[List.getElem?_map,Array.getElem?_toList,he'];rfl
   have h2:(ents.toList.map (·.born))[j]? =some e.born:=by rw[List.getElem?_map,Array.getElem?_toList,he];rfl
   have hi:i<(ents.toList.map (·.born)).length:=(List.getElem?_eq_some_iff.1 h1).1
   exact(List.getElem?_inj hi hst).1 (by rw[h1,h2,hb])
  ·rintro rfl
   rw[he] at he'
   cases he'
   rfl
theorem AW_frzC {fr : Nat → Option AV} {hp : Nat → Option AObj} {nx : Nat} {c : Code} {Q : AEx → St → Prop} (X j id : Nat) {sz : Nat} {l xs : List AV} (hX : hp X = some (.cells l)) (hj : l[j]? = some (.rw id)) (hid : hp id = some (.row sz xs)) (hne : X ≠ id) (hc : CloRow xs)
    (h:AW P E c Q ⟨fr,updo (updo hp id none) X (some (.cells (l.set j (.sl xs)))),nx⟩):AW P E c Q ⟨fr,hp,nx⟩:=by
  refine AW.frz (σ':=⟨fr,updo (updo hp id none) X (some (.cells (l.set j (.sl xs)))),nx⟩) (fun i=>if i=id then some (.row sz xs) else none) (fun i o h'=>?_) (fun t x' h'=>⟨x',h',.inl rfl⟩) (fun i o' h'=>?_) rfl h
  · split at h'
    · rename_i e;subst e;cases h';exact hid
    · cases h'
  · simp only[updo] at h'
    split at h'
    · rename_i e
      subst e
      cases h'
      refine⟨by simp[hne],_,hX,by simp,fun i hi=>?_⟩
      by_cases hij:j=i
      · subst hij
        have hl:j<l.length:=(List.getElem?_eq_some_iff.1 hj).1
        refine .inr ⟨?_,?_⟩
        · simp[List.getD_eq_getElem?_getD,hj,AV.snapOk,hc]
        · simp[List.getD_eq_getElem?_getD,hj,hl,(List.getElem?_eq_some_iff.1 hj).2,AV.snap]
      · refine .inl ?_
        simp[List.getD_eq_getElem?_getD,List.getElem?_set_ne hij]
    · split at h'
      · cases h'
      · rename_i e1 e2
        exact⟨if_neg e2,o',h',SnpO.refl _⟩
end Go.Am
