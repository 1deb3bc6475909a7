/- A part of the proof: an abstract machine for the walks, and what the walked functions compute. -/
import Derived.Test.YtffmphmiicnaeaaDoorMk
set_option linter.unusedVariables false
set_option linter.unusedSimpArgs false
namespace Go.Am
open Go
variable {P:Program}
structure Fam {X:Type} (ob:X→Nat→Option AObj) (n:Nat):Prop where
 lt:∀ x id o,ob x id=some o→id<n∧o.ids (· <n)
 all:∀ x id,id<n→ob x id≠none
def MCall {X:Type} (P:Program) (f:FuncId) (vs:List AV) (ob:X→Nat→Option AObj) (n np:Nat) (x:X) (G:X→Prop):Prop:=
 ACall P f vs (ob x) n np (fun r hp'=>r= .tup []∧∃ x',hp'=ob x'∧G x') (fun _ _=>False)
theorem MCall.useG {X : Type} {ob : X → Nat → Option AObj} {n np : Nat} (F : Fam ob n) (hnp : np ≤ n) (hn : n ≤ np + 1048576) {f : FuncId} {vs : List AV} {x : X} {G : X → Prop} (hA : MCall P f vs ob n np x G)
    {fr:Nat→Option AV} {hp0:Nat→Option AObj} {n0 k:Nat} {d:Option Nat} {K:St→Prop} {Kp:AV→St→Prop} (hvs:AV.idsL (· <n) vs) (hob:∀ id o,ob x id=some o→hp0 id=some o)
    (hK:∀ x' hpn,G x'→(∀ j o,ob x' j=some o→hpn (backM (fun i=>i) np (n0+1048576*k) j)=some (o.ren (backM (fun i=>i) np (n0+1048576*k))))→(∀ id o,n≤id→hp0 id=some o→hpn id=some o)→K ⟨putf fr d (.tup []),hpn,n0⟩):
    CallB P f vs ⟨fr,hp0,n0⟩ k d K Kp:=by
  refine CallB.use hA (fun i=>i) (by rw[renL_id]) hvs (fun id o ho=>⟨by rw[oren_id];exact hob id o ho,F.lt x id o ho⟩) (fun _ _ _ _ _ _ e=>e) (fun id hid=>⟨by omega,F.all x id (by omega)⟩) ?_ (fun _ _ h=>h.elim) ?_ (fun _ _ _ h=>h.elim)
  · rintro r hp' ⟨rfl,x',rfl,_⟩
    exact⟨trivial,fun id o ho=>⟨by have:=(F.lt x' id o ho).1;omega,objids_mono _ (fun j hj=>by omega) (F.lt x' id o ho).2⟩⟩
  · rintro r hp' fr' hpn ⟨rfl,x',rfl,hG⟩ hfr hobj hold
    have e:fr'=putf fr d (.tup []):=by subst hfr;cases d<;>rfl
    subst e
    refine hK x' hpn hG hobj (fun id o hid ho=>hold id o ho fun j hj e=>?_)
    obtain⟨o',ho'⟩:=Option.ne_none_iff_exists'.1 hj
    have:=(F.lt x j o' ho').1
    omega
theorem backM_all {n base:Nat} {o:AObj} (h:o.ids (· <n)):o.ren (backM (fun i=>i) n base)=o:=
 (oren_congr (p:=(· <n)) (m':=fun i=>i) (fun i hi=>backM_lt hi) h).trans (oren_id o)
theorem MCall.use {X : Type} {ob : X → Nat → Option AObj} {n : Nat} (F : Fam ob n) {f : FuncId} {vs : List AV} {x : X} {G : X → Prop} (hA : MCall P f vs ob n n x G)
    {fr:Nat→Option AV} {hp0:Nat→Option AObj} {n0 k:Nat} {d:Option Nat} {K:St→Prop} {Kp:AV→St→Prop} (hvs:AV.idsL (· <n) vs) (hob:∀ id o,ob x id=some o→hp0 id=some o)
    (hK:∀ x' hpn,G x'→(∀ j o,ob x' j=some o→hpn j=some o)→(∀ id o,n≤id→hp0 id=some o→hpn id=some o)→K ⟨putf fr d (.tup []),hpn,n0⟩):
    CallB P f vs ⟨fr,hp0,n0⟩ k d K Kp:=
  MCall.useG F (Nat.le_refl _) (by omega) hA hvs hob fun x' hpn hG hobj hold=>hK x' hpn hG (fun j o ho=>by
    have:=hobj j o ho
    rw[backM_lt (F.lt x' j o ho).1,backM_all (F.lt x' j o ho).2] at this
    exact this) hold
theorem MCall.fin {X : Type} {ob : X → Nat → Option AObj} {n np : Nat} (F : Fam ob n) (hnp : np ≤ n) {x' : X} {G : X → Prop} {σ : St} (hG : G x') (ho : ∀ id o, ob x' id = some o → σ.hp id = some o) :
    ∃ r m hc nc,resA P [] σ=some (AV.ren m r)∧r.ids (· <nc)∧Ent np m σ ⟨fun _=>none,hc,nc⟩∧(r= .tup []∧∃ x',hc=ob x'∧G x'):=
  ⟨.tup [],fun i=>i,ob x',n,rfl,trivial,ent_idG (fr:=[]) (by simp) (fun id o h=>⟨ho id o h,F.lt x' id o h⟩) hnp,rfl,x',rfl,hG⟩
theorem MCall.intro {X : Type} {ob : X → Nat → Option AObj} {n np : Nat} {f : FuncId} {fn : Func} {c : Code} {vs : List AV} {x : X} {G : X → Prop} (hf : P.funcs[f]? = some fn) (hfn : isFn P f = true) (hb : fn.body = some c) (hn : vs.length ≤ fn.ntmps) (hr : fn.results.toList = [])
    (h:∀ (E:En) (Q:AEx→St→Prop),E.nt=fn.ntmps→E.np=np→(∀ σ,(∃ r m hc nc,resA P [] σ=some (AV.ren m r)∧r.ids (· <nc)∧Ent np m σ ⟨fun _=>none,hc,nc⟩∧(r= .tup []∧∃ x',hc=ob x'∧G x'))→Q .ret σ∧Q .norm σ)→AW P E c Q ⟨mkPar 0 vs,ob x,n⟩):MCall P f vs ob n np x G:=
  ACall.of_bodyR hf hfn hb hn fun E Q hE hN hQ hQp=>h E Q hE hN fun σ hσ=>hQ σ (by rw[hr];exact hσ)
def Wk (E:En) (σ σ':St):Prop:=σ'.nx=σ.nx∧∀ ρ V Z a w,Sat E ρ V Z σ a w→∃ Z',Sat E ρ V Z' σ' a w
theorem Wk.refl {E:En} (σ:St):Wk E σ σ:=⟨rfl,fun _ _ Z _ _ h=>⟨Z,h⟩⟩
theorem Wk.trans {E:En} {a b c:St} (h1:Wk E a b) (h2:Wk E b c):Wk E a c:=
 ⟨h2.1.trans h1.1,fun ρ V Z x w h=>by obtain⟨Z',h'⟩:=h1.2 ρ V Z x w h;exact h2.2 ρ V Z' x w h'⟩
theorem Wk.frz {E : En} {σ σ' : St} (F : Nat → Option AObj) (hF : ∀ id o, F id = some o → σ.hp id = some o)
    (hfr:∀ t x',σ'.fr t=some x'→∃ x,σ.fr t=some x∧Snp F x x') (hhp:∀ id o',σ'.hp id=some o'→F id=none∧∃ o,σ.hp id=some o∧SnpO F o o') (hnx:σ'.nx=σ.nx):Wk E σ σ':=
  ⟨hnx,fun ρ V Z a w h=>⟨_,h.frz hF hfr hhp⟩⟩
end Go.Am
