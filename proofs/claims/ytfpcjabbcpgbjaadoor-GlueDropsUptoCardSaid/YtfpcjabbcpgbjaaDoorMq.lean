/- A part of the proof: an abstract machine for the walks, and what the walked functions compute. -/
import Derived.Test.YtfpcjabbcpgbjaaDoorMk
set_option linter.unusedVariables false
set_option linter.unusedSimpArgs false
namespace Go.Am
open Go
variable {P:Program}
structure Fam {X:Type} (ob:X->Nat->Option AObj) (n:Nat):Prop where
 lt:∀ x id o,ob x id=some o->id<n/\o.ids (· <n)
 all:∀ x id,id<n->ob x id≠none
def MCall {X:Type} (P:Program) (f:FuncId) (vs:List AV) (ob:X->Nat->Option AObj) (n np:Nat) (x:X) (G:X->Prop):Prop:=
 ACall P f vs (ob x) n np (fun r hp'=>r= .tup []/\∃ x',hp'=ob x'/\G x') (fun _ _=>False)
theorem MCall.useG {X : Type} {ob : X -> Nat -> Option AObj} {n np : Nat} (F : Fam ob n) (hnp : np <= n) (hn : n <= np + 1048576) {f : FuncId} {vs : List AV} {x : X} {G : X -> Prop} (hA : MCall P f vs ob n np x G)
    {fr:Nat->Option AV} {hp0:Nat->Option AObj} {n0 k:Nat} {d:Option Nat} {K:St->Prop} {Kp:AV->St->Prop} (hvs:AV.idsL (· <n) vs) (hob:∀ id o,ob x id=some o->hp0 id=some o)
    (hK:∀ x' hpn,G x'->(∀ j o,ob x' j=some o->hpn (jn (fun i=>i) np (n0+1048576*k) j)=some (o.ren (jn (fun i=>i) np (n0+1048576*k))))->(∀ id o,n<=id->hp0 id=some o->hpn id=some o)->K ⟨Jg fr d (.tup []),hpn,n0⟩):
    CallB P f vs ⟨fr,hp0,n0⟩ k d K Kp:=by
  refine CallB.use hA (fun i=>i) (by rw[jv]) hvs (fun id o ho=>⟨by rw[jw];exact hob id o ho,F.lt x id o ho⟩) (fun _ _ _ _ _ _ e=>e) (fun id hid=>⟨by omega,F.all x id (by omega)⟩) ?_ (fun _ _ h=>h.elim) ?_ (fun _ _ _ h=>h.elim)
  · rintro r hp' ⟨rfl,x',rfl,_⟩
    exact⟨trivial,fun id o ho=>⟨by have:=(F.lt x' id o ho).1;omega,jf _ (fun j hj=>by omega) (F.lt x' id o ho).2⟩⟩
  · rintro r hp' fr' hpn ⟨rfl,x',rfl,hG⟩ hfr hobj hold
    have e:fr'=Jg fr d (.tup []):=by subst hfr;cases d<;>rfl
    subst e
    refine hK x' hpn hG hobj (fun id o hid ho=>hold id o ho fun j hj e=>?_)
    obtain⟨o',ho'⟩:=Option.ne_none_iff_exists'.1 hj
    have:=(F.lt x j o' ho').1
    omega
theorem jaF {n base:Nat} {o:AObj} (h:o.ids (· <n)):o.ren (jn (fun i=>i) n base)=o:=
 (GH (p:=(· <n)) (m':=fun i=>i) (fun i hi=>jz hi) h).trans (jw o)
theorem MCall.use {X : Type} {ob : X -> Nat -> Option AObj} {n : Nat} (F : Fam ob n) {f : FuncId} {vs : List AV} {x : X} {G : X -> Prop} (hA : MCall P f vs ob n n x G)
    {fr:Nat->Option AV} {hp0:Nat->Option AObj} {n0 k:Nat} {d:Option Nat} {K:St->Prop} {Kp:AV->St->Prop} (hvs:AV.idsL (· <n) vs) (hob:∀ id o,ob x id=some o->hp0 id=some o)
    (hK:∀ x' hpn,G x'->(∀ j o,ob x' j=some o->hpn j=some o)->(∀ id o,n<=id->hp0 id=some o->hpn id=some o)->K ⟨Jg fr d (.tup []),hpn,n0⟩):
    CallB P f vs ⟨fr,hp0,n0⟩ k d K Kp:=
  MCall.useG F (Nat.le_refl _) (by omega) hA hvs hob fun x' hpn hG hobj hold=>hK x' hpn hG (fun j o ho=>by
    have:=hobj j o ho
    rw[jz (F.lt x' j o ho).1,jaF (F.lt x' j o ho).2] at this
    exact this) hold
theorem MCall.fin {X : Type} {ob : X -> Nat -> Option AObj} {n np : Nat} (F : Fam ob n) (hnp : np <= n) {x' : X} {G : X -> Prop} {O : St} (hG : G x') (ho : ∀ id o, ob x' id = some o -> O.hp id = some o) :
    ∃ r m hc nc,Jy P [] O=some (AV.ren m r)/\r.ids (· <nc)/\Ent np m O ⟨fun _=>none,hc,nc⟩/\(r= .tup []/\∃ x',hc=ob x'/\G x'):=
  ⟨.tup [],fun i=>i,ob x',n,rfl,trivial,j6 (fr:=[]) (by simp) (fun id o h=>⟨ho id o h,F.lt x' id o h⟩) hnp,rfl,x',rfl,hG⟩
theorem MCall.intro {X : Type} {ob : X -> Nat -> Option AObj} {n np : Nat} {f : FuncId} {fn : Func} {c : Code} {vs : List AV} {x : X} {G : X -> Prop} (hf : P.funcs[f]? = some fn) (hfn : jJ P f = true) (hb : fn.body = some c) (hn : vs.length <= fn.ntmps) (hr : fn.results.toList = [])
    (h:∀ (E:En) (Q:AEx->St->Prop),E.nt=fn.ntmps->E.np=np->(∀ O,(∃ r m hc nc,Jy P [] O=some (AV.ren m r)/\r.ids (· <nc)/\Ent np m O ⟨fun _=>none,hc,nc⟩/\(r= .tup []/\∃ x',hc=ob x'/\G x'))->Q .ret O/\Q .norm O)->AW P E c Q ⟨JV 0 vs,ob x,n⟩):MCall P f vs ob n np x G:=
  ACall.of_bodyR hf hfn hb hn fun E Q hE hN hQ hQp=>h E Q hE hN fun O hO=>hQ O (by rw[hr];exact hO)
def jgw (P:Program) (E:En) {X:Type} (R:X->Prop) (mk:X->St) (fs:List Fm) (Q:AEx->St->Prop) (e:AEx) (O:St):Prop:=
 (e= .norm/\∃ x,R x/\∃ m,Ent E.np m O (mk x))\/(e≠ .norm/\Kq P E fs Q e O)
theorem jgj {E:En} {X:Type} (R:X->Prop) (mk:X->St) {c c1 c':Code} {fs:List Fm} {Q:AEx->St->Prop} {O:St} (h1:AW P E c (Kq P E [.code c1] (jgw P E R mk (.code c'::fs) Q)) O) (h2:∀ x,R x->AW P E c' (Kq P E fs Q) (mk x)):AW P E c (Kq P E (.code c1:: .code c'::fs) Q) O:=by
 have hc:∀ e O',jgw P E R mk (.code c'::fs) Q e O'->Kq P E (.code c'::fs) Q e O':=by
  rintro e O' (⟨rfl,x,hx,m,he⟩|⟨_,h⟩)
  ·exact jk (AW.ent m he (h2 x hx))
  ·exact h
 refine h1.mono fun e O' he=>?_
 rw[Kq] at he ⊢
 cases e with
 |norm=>
  refine AW.mono he fun e O' he=>?_
  rw[xq] at he
  exact hc e O' he
 |_=>
  simp only[Gx] at he ⊢
  rw[xq] at he
  exact hc _ O' he
theorem QU {E:En} {X:Type} {R:X->Prop} {mk:X->St} {fs:List Fm} {Q:AEx->St->Prop} {O:St} (x:X) (hx:R x) (m:Nat->Nat) (he:Ent E.np m O (mk x)):Kq P E [] (jgw P E R mk fs Q) .norm O:=by
 rw[xq];exact .inl ⟨rfl,x,hx,m,he⟩
def Wk (E:En) (O O':St):Prop:=O'.nx=O.nx/\∀ ρ V Z a w,Sat E ρ V Z O a w->∃ Z',Sat E ρ V Z' O' a w
theorem Wk.refl {E:En} (O:St):Wk E O O:=⟨rfl,fun _ _ Z _ _ h=>⟨Z,h⟩⟩
theorem Wk.trans {E:En} {a b c:St} (h1:Wk E a b) (h2:Wk E b c):Wk E a c:=
 ⟨h2.1.trans h1.1,fun ρ V Z x w h=>by obtain⟨Z',h'⟩:=h1.2 ρ V Z x w h;exact h2.2 ρ V Z' x w h'⟩
theorem AW.wk {E:En} {c:Code} {Q:AEx->St->Prop} {O O':St} (hw:Wk E O O') (h:AW P E c Q O'):AW P E c Q O:=by
 intro ρ V Z a w h0 hV
 obtain⟨Z',h1⟩:=hw.2 ρ V Z a w h0
 exact h ρ V Z' a w h1 (by rw[hw.1];exact hV)
theorem Wk.frz {E : En} {O O' : St} (F : Nat -> Option AObj) (hF : ∀ id o, F id = some o -> O.hp id = some o)
    (hfr:∀ t x',O'.fr t=some x'->∃ x,O.fr t=some x/\Snp F x x') (hhp:∀ id o',O'.hp id=some o'->F id=none/\∃ o,O.hp id=some o/\SnpO F o o') (hnx:O'.nx=O.nx):Wk E O O':=
  ⟨hnx,fun ρ V Z a w h=>⟨_,h.frz hF hfr hhp⟩⟩
theorem Wk.snpRow {E : En} {fr : Nat -> Option AV} {hp : Nat -> Option AObj} {nx : Nat} (X : Nat) {sz : Nat} {l : List AV} (l' : List AV) (hX : hp X = some (.row sz l)) (hl : l'.length = l.length) (hs : ∀ i, i < l.length -> Snp (fun _ => none) (l.getD i default) (l'.getD i default)) :
    Wk E ⟨fr,hp,nx⟩ ⟨fr,jb hp X (some (.row sz l')),nx⟩:=by
  refine Wk.frz (fun _=>none) (fun id o ho=>by cases ho) (fun t x' hx=>⟨x',hx,.inl rfl⟩) (fun id o' ho=>⟨rfl,?_⟩) rfl
  simp only[jb] at ho
  split at ho
  · rename_i e
    subst e
    cases ho
    exact⟨_,hX,rfl,hl,hs⟩
  · exact⟨o',ho,SnpO.refl _⟩
end Go.Am
