/- A part of the proof: an abstract machine for the walks, and what the walked functions compute. -/
import Derived.Test.YtfpcjabbcpgbjaaDoorProg
import Derived.KernelRfl
import Derived.Shelf.Strconv.Itoa3
import Derived.Shelf.LaysM
import Derived.Lib.AppendIntMem
import Derived.Lib.ItoaLen
import Derived.Test.YtfpcjabbcpgbjaaDoorMe
import Derived.Test.YtfpcjabbcpgbjaaDoorMr
import Derived.Test.YtfpcjabbcpgbjaaDoorHv
import Derived.Test.YtfpcjabbcpgbjaaDoorMq
set_option linter.unusedVariables false
set_option linter.unusedSimpArgs false
set_option maxRecDepth 100000
namespace Go.Proofs.YtfpcjabbcpgbjaaDoor
open Go.Am
theorem ti3:ti Tryd.prog 3=some ⟨TK.int IntKind.i64,1,8,some [AV.int IntKind.i64 (0)]⟩:=by kernel_rfl
theorem ti4:ti Tryd.prog 4=some ⟨TK.bool,1,1,some [AV.bool false]⟩:=by kernel_rfl
theorem ti9:ti Tryd.prog 9=some ⟨TK.str,1,16,some [AV.str ⟨#[]⟩]⟩:=by kernel_rfl
theorem joA:ti Tryd.prog 20=some ⟨TK.iface,1,16,some [AV.nilif]⟩:=by kernel_rfl
theorem joB:ti Tryd.prog 22=some ⟨TK.slice 36,1,24,some [AV.nilsl]⟩:=by kernel_rfl
theorem joC:ti Tryd.prog 23=some ⟨TK.slice 25,1,24,some [AV.nilsl]⟩:=by kernel_rfl
theorem jfz:ti Tryd.prog 25=some ⟨TK.struct [(3,0),(3,1),(23,2)],3,40,some [AV.int IntKind.i64 (0),AV.int IntKind.i64 (0),AV.nilsl]⟩:=by kernel_rfl
theorem joD:ti Tryd.prog 28=some ⟨TK.slice 3,1,24,some [AV.nilsl]⟩:=by kernel_rfl
theorem joE:ti Tryd.prog 34=some ⟨TK.slice 38,1,24,some [AV.nilsl]⟩:=by kernel_rfl
theorem jmg:ti Tryd.prog 36=some ⟨TK.struct [(9,0),(3,1),(3,2),(34,3),(3,4)],5,64,some [AV.str ⟨#[]⟩,AV.int IntKind.i64 (0),AV.int IntKind.i64 (0),AV.nilsl,AV.int IntKind.i64 (0)]⟩:=by kernel_rfl
theorem joF:ti Tryd.prog 38=some ⟨TK.struct [(9,0),(23,1)],2,40,some [AV.str ⟨#[]⟩,AV.nilsl]⟩:=by kernel_rfl
theorem joG:ti Tryd.prog 41=some ⟨TK.slice 59,1,24,some [AV.nilsl]⟩:=by kernel_rfl
theorem joH:ti Tryd.prog 42=some ⟨TK.slice 4,1,24,some [AV.nilsl]⟩:=by kernel_rfl
theorem joI:ti Tryd.prog 44=some ⟨TK.struct [(41,0),(42,1)],2,48,some [AV.nilsl,AV.nilsl]⟩:=by kernel_rfl
theorem joJ:ti Tryd.prog 45=some ⟨TK.slice 47,1,24,some [AV.nilsl]⟩:=by kernel_rfl
theorem gy:ti Tryd.prog 47=some ⟨TK.struct [(3,0),(3,1),(3,2),(3,3),(45,4),(4,5),(28,6),(28,7)],8,112,some [AV.int IntKind.i64 (0),AV.int IntKind.i64 (0),AV.int IntKind.i64 (0),AV.int IntKind.i64 (0),AV.nilsl,AV.bool false,AV.nilsl,AV.nilsl]⟩:=by kernel_rfl
theorem joK:ti Tryd.prog 53=some ⟨TK.struct [(22,0),(44,1),(4,3)],4,80,some [AV.nilsl,AV.nilsl,AV.nilsl,AV.bool false]⟩:=by kernel_rfl
theorem joL:ti Tryd.prog 59=some ⟨TK.struct [(4,0),(3,1),(47,2)],10,128,some [AV.bool false,AV.int IntKind.i64 (0),AV.int IntKind.i64 (0),AV.int IntKind.i64 (0),AV.int IntKind.i64 (0),AV.int IntKind.i64 (0),AV.nilsl,AV.bool false,AV.nilsl,AV.nilsl]⟩:=by kernel_rfl
theorem joM:ti Tryd.prog 65=some ⟨TK.slice 183,1,24,some [AV.nilsl]⟩:=by kernel_rfl
theorem joN:ti Tryd.prog 66=some ⟨TK.slice 119,1,24,some [AV.nilsl]⟩:=by kernel_rfl
theorem joO:ti Tryd.prog 68=some ⟨TK.struct [(9,0),(3,1),(3,2),(65,3),(3,4),(25,5),(23,8),(66,9),(28,10)],11,176,some [AV.str ⟨#[]⟩,AV.int IntKind.i64 (0),AV.int IntKind.i64 (0),AV.nilsl,AV.int IntKind.i64 (0),AV.int IntKind.i64 (0),AV.int IntKind.i64 (0),AV.nilsl,AV.nilsl,AV.nilsl,AV.nilsl]⟩:=by kernel_rfl
theorem joP:ti Tryd.prog 69=some ⟨TK.slice 68,1,24,some [AV.nilsl]⟩:=by kernel_rfl
theorem joQ:ti Tryd.prog 70=some ⟨TK.slice 9,1,24,some [AV.nilsl]⟩:=by kernel_rfl
theorem joR:ti Tryd.prog 71=some ⟨TK.slice 28,1,24,some [AV.nilsl]⟩:=by kernel_rfl
theorem joS:ti Tryd.prog 72=some ⟨TK.slice 185,1,24,some [AV.nilsl]⟩:=by kernel_rfl
theorem joT:ti Tryd.prog 74=some ⟨TK.struct [(70,0),(71,1),(22,2),(70,3),(28,4),(72,5),(69,6),(3,7)],8,176,some [AV.nilsl,AV.nilsl,AV.nilsl,AV.nilsl,AV.nilsl,AV.nilsl,AV.nilsl,AV.int IntKind.i64 (0)]⟩:=by kernel_rfl
theorem joU:ti Tryd.prog 76=some ⟨TK.func,1,8,some [AV.nilfn]⟩:=by kernel_rfl
theorem joV:ti Tryd.prog 81=some ⟨TK.ptr,1,8,some [AV.nilp]⟩:=by kernel_rfl
theorem joW:ti Tryd.prog 84=some ⟨TK.map 3 3,1,8,some [AV.nilmap]⟩:=by kernel_rfl
theorem joX:ti Tryd.prog 85=some ⟨TK.slice 91,1,24,some [AV.nilsl]⟩:=by kernel_rfl
theorem joY:ti Tryd.prog 86=some ⟨TK.map 9 3,1,8,some [AV.nilmap]⟩:=by kernel_rfl
theorem joZ:ti Tryd.prog 88=some ⟨TK.struct [(22,0),(85,1),(86,2)],3,56,some [AV.nilsl,AV.nilsl,AV.nilmap]⟩:=by kernel_rfl
theorem jo0:ti Tryd.prog 91=some ⟨TK.struct [(25,0),(9,3),(28,4),(3,5)],6,88,some [AV.int IntKind.i64 (0),AV.int IntKind.i64 (0),AV.nilsl,AV.str ⟨#[]⟩,AV.nilsl,AV.int IntKind.i64 (0)]⟩:=by kernel_rfl
theorem jo1:ti Tryd.prog 96=some ⟨TK.struct [(44,0),(42,2),(42,3),(3,4),(3,5),(4,6)],7,120,some [AV.nilsl,AV.nilsl,AV.nilsl,AV.nilsl,AV.int IntKind.i64 (0),AV.int IntKind.i64 (0),AV.bool false]⟩:=by kernel_rfl
theorem jo2:ti Tryd.prog 99=some ⟨TK.map 3 4,1,8,some [AV.nilmap]⟩:=by kernel_rfl
theorem jmb:ti Tryd.prog 101=some ⟨TK.struct [(99,0),(99,1),(28,2)],3,40,some [AV.nilmap,AV.nilmap,AV.nilsl]⟩:=by kernel_rfl
theorem jmc:ti Tryd.prog 106=some ⟨TK.func,1,8,some [AV.nilfn]⟩:=by kernel_rfl
theorem jmd:ti Tryd.prog 112=some ⟨TK.func,1,8,some [AV.nilfn]⟩:=by kernel_rfl
theorem jme:ti Tryd.prog 132=some ⟨TK.struct [],0,0,some []⟩:=by kernel_rfl
theorem jmf:ti Tryd.prog 135=some ⟨TK.func,1,8,some [AV.nilfn]⟩:=by kernel_rfl
theorem jnF:elT Tryd.prog 22=some 5:=by kernel_rfl
theorem jnG:elT Tryd.prog 23=some 3:=by kernel_rfl
theorem jgR:flT Tryd.prog 25 0=some 0:=by kernel_rfl
theorem jgS:flT Tryd.prog 25 1=some 1:=by kernel_rfl
theorem jgT:flT Tryd.prog 25 2=some 2:=by kernel_rfl
theorem jnH:elT Tryd.prog 28=some 1:=by kernel_rfl
theorem jnI:elT Tryd.prog 34=some 2:=by kernel_rfl
theorem jgU:flT Tryd.prog 36 2=some 2:=by kernel_rfl
theorem jgV:flT Tryd.prog 36 3=some 3:=by kernel_rfl
theorem jgW:flT Tryd.prog 36 4=some 4:=by kernel_rfl
theorem jgX:flT Tryd.prog 38 1=some 1:=by kernel_rfl
theorem jnJ:elT Tryd.prog 41=some 10:=by kernel_rfl
theorem jnK:elT Tryd.prog 42=some 1:=by kernel_rfl
theorem jgY:flT Tryd.prog 44 0=some 0:=by kernel_rfl
theorem jgZ:flT Tryd.prog 44 1=some 1:=by kernel_rfl
theorem jnL:elT Tryd.prog 45=some 8:=by kernel_rfl
theorem jg0:flT Tryd.prog 47 0=some 0:=by kernel_rfl
theorem jg1:flT Tryd.prog 47 1=some 1:=by kernel_rfl
theorem jg2:flT Tryd.prog 47 2=some 2:=by kernel_rfl
theorem jg3:flT Tryd.prog 47 3=some 3:=by kernel_rfl
theorem jg4:flT Tryd.prog 47 4=some 4:=by kernel_rfl
theorem jg5:flT Tryd.prog 53 0=some 0:=by kernel_rfl
theorem jg6:flT Tryd.prog 53 1=some 1:=by kernel_rfl
theorem jg7:flT Tryd.prog 53 2=some 3:=by kernel_rfl
theorem jg8:flT Tryd.prog 59 0=some 0:=by kernel_rfl
theorem jg9:flT Tryd.prog 59 1=some 1:=by kernel_rfl
theorem jha:flT Tryd.prog 59 2=some 2:=by kernel_rfl
theorem jhb:flT Tryd.prog 68 2=some 2:=by kernel_rfl
theorem jhc:flT Tryd.prog 68 4=some 4:=by kernel_rfl
theorem jhd:flT Tryd.prog 68 5=some 5:=by kernel_rfl
theorem jhe:flT Tryd.prog 68 6=some 8:=by kernel_rfl
theorem jhf:flT Tryd.prog 68 7=some 9:=by kernel_rfl
theorem jhg:flT Tryd.prog 68 8=some 10:=by kernel_rfl
theorem jnM:elT Tryd.prog 69=some 11:=by kernel_rfl
theorem jhh:flT Tryd.prog 74 2=some 2:=by kernel_rfl
theorem jhi:flT Tryd.prog 74 6=some 6:=by kernel_rfl
theorem jog:mpT Tryd.prog 84=some 3:=by kernel_rfl
theorem joj:mpZ Tryd.prog 84=some (AV.int IntKind.i64 (0)):=by kernel_rfl
theorem jnN:elT Tryd.prog 85=some 6:=by kernel_rfl
theorem joh:UM Tryd.prog 86=some 3:=by kernel_rfl
theorem jok:jc5 Tryd.prog 86=some (AV.int IntKind.i64 (0)):=by kernel_rfl
theorem jhj:flT Tryd.prog 88 0=some 0:=by kernel_rfl
theorem jhk:flT Tryd.prog 88 1=some 1:=by kernel_rfl
theorem jhl:flT Tryd.prog 88 2=some 2:=by kernel_rfl
theorem jhm:flT Tryd.prog 91 0=some 0:=by kernel_rfl
theorem jhn:flT Tryd.prog 91 1=some 3:=by kernel_rfl
theorem jho:flT Tryd.prog 91 2=some 4:=by kernel_rfl
theorem jhp:flT Tryd.prog 91 3=some 5:=by kernel_rfl
theorem jhq:flT Tryd.prog 96 0=some 0:=by kernel_rfl
theorem jhr:flT Tryd.prog 96 1=some 2:=by kernel_rfl
theorem jhs:flT Tryd.prog 96 2=some 3:=by kernel_rfl
theorem jht:flT Tryd.prog 96 3=some 4:=by kernel_rfl
theorem jhu:flT Tryd.prog 96 4=some 5:=by kernel_rfl
theorem jhv:flT Tryd.prog 96 5=some 6:=by kernel_rfl
theorem joi:mpT Tryd.prog 99=some 4:=by kernel_rfl
theorem jol:mpZ Tryd.prog 99=some (AV.bool false):=by kernel_rfl
theorem je2:flT Tryd.prog 101 0=some 0:=by kernel_rfl
theorem je3:flT Tryd.prog 101 1=some 1:=by kernel_rfl
theorem je4:flT Tryd.prog 101 2=some 2:=by kernel_rfl
theorem jcU:jJ Tryd.prog 6=true:=by kernel_rfl
theorem joe:jJ Tryd.prog 7=true:=by kernel_rfl
theorem jof:jJ Tryd.prog 8=true:=by kernel_rfl
theorem jhH:jJ Tryd.prog 9=true:=by kernel_rfl
theorem XZ:jJ Tryd.prog 10=true:=by kernel_rfl
theorem jkZ:jJ Tryd.prog 11=true:=by kernel_rfl
theorem jk0:jJ Tryd.prog 12=true:=by kernel_rfl
theorem X0:jJ Tryd.prog 14=true:=by kernel_rfl
theorem jk1:jJ Tryd.prog 15=true:=by kernel_rfl
theorem jk2:jJ Tryd.prog 16=true:=by kernel_rfl
theorem jcQ:jJ Tryd.prog 17=true:=by kernel_rfl
theorem jfT:jJ Tryd.prog 18=true:=by kernel_rfl
theorem jk3:jJ Tryd.prog 19=true:=by kernel_rfl
theorem jk4:jJ Tryd.prog 20=true:=by kernel_rfl
theorem jk5:jJ Tryd.prog 21=true:=by kernel_rfl
theorem jk6:jJ Tryd.prog 22=true:=by kernel_rfl
theorem jk7:jJ Tryd.prog 23=true:=by kernel_rfl
theorem jk8:jJ Tryd.prog 24=true:=by kernel_rfl
theorem jfU:jJ Tryd.prog 25=true:=by kernel_rfl
theorem jk9:jJ Tryd.prog 26=true:=by kernel_rfl
theorem Gu:jJ Tryd.prog 27=true:=by kernel_rfl
theorem jcR:jJ Tryd.prog 28=true:=by kernel_rfl
theorem jla:jJ Tryd.prog 29=true:=by kernel_rfl
theorem jfV:jJ Tryd.prog 30=true:=by kernel_rfl
theorem Gv:jJ Tryd.prog 31=true:=by kernel_rfl
theorem jlb:jJ Tryd.prog 32=true:=by kernel_rfl
theorem jlc:jJ Tryd.prog 33=true:=by kernel_rfl
theorem jcS:jJ Tryd.prog 34=true:=by kernel_rfl
theorem jld:jJ Tryd.prog 35=true:=by kernel_rfl
theorem jle:jJ Tryd.prog 36=true:=by kernel_rfl
theorem jlf:jJ Tryd.prog 37=true:=by kernel_rfl
theorem jlg:jJ Tryd.prog 38=true:=by kernel_rfl
theorem jlh:jJ Tryd.prog 43=true:=by kernel_rfl
theorem jfW:jJ Tryd.prog 44=true:=by kernel_rfl
theorem jfX:jJ Tryd.prog 45=true:=by kernel_rfl
theorem jfY:jJ Tryd.prog 46=true:=by kernel_rfl
theorem OF:jJ Tryd.prog 47=true:=by kernel_rfl
theorem jli:jJ Tryd.prog 48=true:=by kernel_rfl
theorem jlj:jJ Tryd.prog 49=true:=by kernel_rfl
theorem jlk:jJ Tryd.prog 50=true:=by kernel_rfl
theorem jll:jJ Tryd.prog 52=true:=by kernel_rfl
theorem jlm:jJ Tryd.prog 53=true:=by kernel_rfl
theorem jln:jJ Tryd.prog 54=true:=by kernel_rfl
theorem jlo:jJ Tryd.prog 55=true:=by kernel_rfl
theorem jcT:jJ Tryd.prog 56=true:=by kernel_rfl
theorem jfZ:jJ Tryd.prog 57=true:=by kernel_rfl
theorem jf0:jJ Tryd.prog 58=true:=by kernel_rfl
theorem YS:jJ Tryd.prog 59=true:=by kernel_rfl
theorem jf1:jJ Tryd.prog 60=true:=by kernel_rfl
theorem YE:jJ Tryd.prog 61=true:=by kernel_rfl
theorem jlp:jJ Tryd.prog 62=true:=by kernel_rfl
theorem jlq:jJ Tryd.prog 68=true:=by kernel_rfl
theorem jlr:jJ Tryd.prog 69=true:=by kernel_rfl
theorem jls:jJ Tryd.prog 70=true:=by kernel_rfl
theorem jlt:jJ Tryd.prog 71=true:=by kernel_rfl
theorem jlu:jJ Tryd.prog 74=true:=by kernel_rfl
theorem jlv:jJ Tryd.prog 75=true:=by kernel_rfl
theorem jlw:jJ Tryd.prog 76=true:=by kernel_rfl
theorem jlx:jJ Tryd.prog 77=true:=by kernel_rfl
theorem jf2:jJ Tryd.prog 78=true:=by kernel_rfl
theorem jly:jJ Tryd.prog 79=true:=by kernel_rfl
theorem jlz:jJ Tryd.prog 81=true:=by kernel_rfl
theorem jlA:jJ Tryd.prog 82=true:=by kernel_rfl
theorem jcV:jJ Tryd.prog 84=true:=by kernel_rfl
theorem mixed:Tryd.prog.follows .mixedOrders=true:=by kernel_rfl
open Go.Am in
theorem zT {E : En} {Q : AEx -> St -> Prop} {N : Nat} {id : Nat} {l : List Oper} {fs : List Fm} {n : Nat} {ds : List (Option Nat)} {fr : Nat -> Option AV} {hp : Nat -> Option AObj} {nx : Nat} (hE : E.nt = N)
    (h:∀ {K:St->Prop} {Kp:AV->St->Prop} [Kh K (Kq Tryd.prog E fs Q .norm)] [Kj Kp (fun x=>Q (.pan x))],∀ {bl},bl=qx l.toArray->zQ=true->goL Tryd.prog true (some bl) ds l 0 ⟨fr,hp,nx⟩ (fun O'=>K { O' with nx:=nx+1048576*n }) Kp)
    (hd:yB N l.toArray=true:=by rfl) (hok:J3 true l.toArray=true:=by rfl) (hn:l.length=n:=by(simp only[List.length_cons,List.length_nil,Nat.reduceAdd];rfl)) (hds:l.map (·.dst)=ds:=by(simp only[List.map_cons,List.map_nil];rfl)):AW Tryd.prog E (.region id l.toArray true) (Kq Tryd.prog E fs Q) ⟨fr,hp,nx⟩:=
  zD true mixed hE h hd hok hn hds
open Go.Am in
theorem zF {E : En} {Q : AEx -> St -> Prop} {N : Nat} {id : Nat} {l : List Oper} {fs : List Fm} {n : Nat} {ds : List (Option Nat)} {fr : Nat -> Option AV} {hp : Nat -> Option AObj} {nx : Nat} (hE : E.nt = N)
    (h:∀ {K:St->Prop} {Kp:AV->St->Prop} [Kh K (Kq Tryd.prog E fs Q .norm)] [Kj Kp (fun x=>Q (.pan x))],∀ {bl},bl=qx l.toArray->zQ=true->goL Tryd.prog false (some bl) ds l 0 ⟨fr,hp,nx⟩ (fun O'=>K { O' with nx:=nx+1048576*n }) Kp)
    (hd:yB N l.toArray=true:=by rfl) (hok:J3 false l.toArray=true:=by rfl) (hn:l.length=n:=by(simp only[List.length_cons,List.length_nil,Nat.reduceAdd];rfl)) (hds:l.map (·.dst)=ds:=by(simp only[List.map_cons,List.map_nil];rfl)):AW Tryd.prog E (.region id l.toArray true) (Kq Tryd.prog E fs Q) ⟨fr,hp,nx⟩:=
  zD false mixed hE h hd hok hn hds
attribute [go_sem] ti3 ti4 ti9 joA joB joC jfz joD joE jmg joF joG joH joI joJ gy joK joL joM joN joO joP joQ joR joS joT joU joV joW joX joY joZ jo0 jo1 jo2 jmb jmc jmd jme jmf jnF jnG jgR jgS jgT jnH jnI jgU jgV jgW jgX jnJ jnK jgY jgZ jnL jg0 jg1 jg2 jg3 jg4 jg5 jg6 jg7 jg8 jg9 jha jhb jhc jhd jhe jhf jhg jnM jhh jhi jog joj jnN joh jok jhj jhk jhl jhm jhn jho jhp jhq jhr jhs jht jhu jhv joi jol je2 je3 je4
end Go.Proofs.YtfpcjabbcpgbjaaDoor

set_option maxRecDepth 100000
namespace Go.Proofs.YtfpcjabbcpgbjaaDoor
open Go.Am Go.Proofs Go.Shelf
def UH:Ren:=
{
 f:=fun x=>
  match x with
  |171=>74
  |243=>83
  |246=>85
  |283=>86
  |284=>87
  |285=>88
  |286=>89
  |129=>91
  |317=>90
  |318=>92
  |319=>93
  |320=>94
  |337=>95
  |338=>96
  |n=>n,
 t:=fun x=>
  match x with
  |3=>3
  |9=>9
  |2=>2
  |4=>4
  |171=>150
  |0=>0
  |53=>151
  |37=>154
  |5=>5
  |173=>155
  |212=>159
  |51=>160
  |20=>20
  |213=>161
  |46=>162
  |232=>165
  |233=>166
  |n=>n,
 g:=fun x=>
  match x with
  |17=>0
  |18=>1
  |19=>2
  |n=>n }
theorem jfa:LaysM.n171 Tryd.prog UH where
 mixed:=by kernel_rfl
 f129:=Tryd.func91
 f171:=Tryd.func74
 f243:=Tryd.func83
 f246:=Tryd.func85
 f283:=Tryd.func86
 f284:=Tryd.func87
 f285:=Tryd.func88
 f286:=Tryd.func89
 f317:=Tryd.func90
 f318:=Tryd.func92
 f319:=Tryd.func93
 f320:=Tryd.func94
 f337:=Tryd.func95
 f338:=Tryd.func96
 t0:=Tryd.underlying0
 a0:=Tryd.isAgg0
 z0:=Tryd.sizeOf0
 v0:=Tryd.zeroValue0
 t2:=Tryd.underlying2
 a2:=Tryd.isAgg2
 z2:=Tryd.sizeOf2
 v2:=Tryd.zeroValue2
 t3:=Tryd.underlying3
 a3:=Tryd.isAgg3
 z3:=Tryd.sizeOf3
 v3:=Tryd.zeroValue3
 t4:=Tryd.underlying4
 a4:=Tryd.isAgg4
 z4:=Tryd.sizeOf4
 v4:=Tryd.zeroValue4
 t5:=Tryd.underlying5
 a5:=Tryd.isAgg5
 z5:=Tryd.sizeOf5
 v5:=Tryd.zeroValue5
 t9:=Tryd.underlying9
 a9:=Tryd.isAgg9
 z9:=Tryd.sizeOf9
 v9:=Tryd.zeroValue9
 t20:=Tryd.underlying20
 a20:=Tryd.isAgg20
 z20:=Tryd.sizeOf20
 v20:=Tryd.zeroValue20
 t37:=Tryd.underlying154
 a37:=Tryd.isAgg154
 z37:=Tryd.sizeOf154
 v37:=Tryd.zeroValue154
 t46:=Tryd.underlying162
 a46:=Tryd.isAgg162
 z46:=Tryd.sizeOf162
 v46:=Tryd.zeroValue162
 t51:=Tryd.underlying160
 a51:=Tryd.isAgg160
 z51:=Tryd.sizeOf160
 v51:=Tryd.zeroValue160
 t53:=Tryd.underlying151
 a53:=Tryd.isAgg151
 z53:=Tryd.sizeOf151
 v53:=Tryd.zeroValue151
 t171:=Tryd.underlying150
 a171:=Tryd.isAgg150
 z171:=Tryd.sizeOf150
 v171:=Tryd.zeroValue150
 t173:=Tryd.underlying155
 a173:=Tryd.isAgg155
 z173:=Tryd.sizeOf155
 v173:=Tryd.zeroValue155
 t212:=Tryd.underlying159
 a212:=Tryd.isAgg159
 z212:=Tryd.sizeOf159
 v212:=Tryd.zeroValue159
 t213:=Tryd.underlying161
 a213:=Tryd.isAgg161
 z213:=Tryd.sizeOf161
 t232:=Tryd.underlying165
 a232:=Tryd.isAgg165
 z232:=Tryd.sizeOf165
 v232:=Tryd.zeroValue165
 t233:=Tryd.underlying166
 a233:=Tryd.isAgg166
 z233:=Tryd.sizeOf166
 v233:=Tryd.zeroValue166
 g17:=by kernel_rfl
 g18:=by kernel_rfl
 g19:=by kernel_rfl
 i0:=by kernel_rfl
 i2:=by kernel_rfl
 i3:=by kernel_rfl
 i4:=by kernel_rfl
 i5:=by kernel_rfl
 i9:=by kernel_rfl
 i20:=by kernel_rfl
 i37:=by kernel_rfl
 i46:=by kernel_rfl
 i51:=by kernel_rfl
 i53:=by kernel_rfl
 i171:=by kernel_rfl
 i173:=by kernel_rfl
 i212:=by kernel_rfl
 i232:=by kernel_rfl
 i233:=by kernel_rfl
 m17:=by kernel_rfl
 m18:=by kernel_rfl
 m19:=by kernel_rfl
theorem ja8 (n:Int) (h0: -9223372036854775808<=n) (h1:n<=9223372036854775807):PCall Tryd.prog 74 [.i n] (.str ⟨(Lib.itoa n).toArray⟩):=by
 refine⟨jlu,fun ρ V Z w args hZ hgl hsz hrel=>?_⟩
 have e1:args= #[.int .i64 n]:=by
  have h2:=hrel 0 (by simp)
  have h3:args.size=1:=by simpa using hsz
  have h4:=Rel.int_inv' h2
  apply Array.ext
  ·simpa using h3
  ·intro i g1 g2
   obtain rfl:i=0:=by omega
   simpa [Array.getD,h3] using h4
 have htab:Lib.TabIs Tryd.prog w "internal/strconv.uint64pow10" .u64 Lib.pow10Tab:=by
  obtain⟨⟨cs,ty,fz,g1,g2⟩,g3⟩:=hgl (0,Lib.pow10Tab.map fun z=>Value.int .u64 z) (by simp[tabs])
  unfold Lib.TabIs World.var?
  have hg:Tryd.prog.globalNamed "internal/strconv.uint64pow10" =some 0:=by kernel_rfl
  rw[hg]
  simp only[Option.bind_some,g1]
  have g4:cs.toList=Lib.pow10Tab.map fun z=>Value.int .u64 z:=g2
  rw[<- g4]
 subst e1
 refine(Any.strconv_Itoa jfa n h0 h1 w htab).mono ?_
 rintro e w' ⟨rfl,k,os,rfl⟩
 refine⟨_,Z,rfl,.str _,⟨fun b hb _=>?_,?_,rfl,rfl,trivial⟩,fun _ _ h=>h,fun _ _ h=> .inl h⟩
 ·exact Lib.heap_grow_old w k os b hb
 ·exact Lib.size_grow w k os
end Go.Proofs.YtfpcjabbcpgbjaaDoor

namespace Go.Gl
open Go Go.Am Go.Hv
inductive Ty where
 |mk (kind id:Int) (args:List Ty)
 deriving Inhabited
namespace Ty
def kind:Ty->Int| .mk k _ _=>k
def id:Ty->Int| .mk _ i _=>i
def args:Ty->List Ty| .mk _ _ a=>a
mutual
def sz:Ty->Nat
 | .mk _ _ l=>1+szL l
def szL:List Ty->Nat
 | []=>0
 |t::l=>sz t+szL l
end
end Ty
structure Dv where
 nm:ByteArray
 fs:List Ty
structure Dd where
 nm:ByteArray
 md:Int
 pr:Int
 vs:List Dv
 dr:Int
namespace Ty
mutual
def av:Ty->AV
 | .mk k i a=> .agg [.i k,.i i,.sl (avL a)]
def avL:List Ty->List AV
 | []=>[]
 |x::l=>x.av::avL l
end
def cs (x:Ty):List AV:=[.i x.kind,.i x.id,.sl (avL x.args)]
theorem av_cs (x:Ty):x.av= .agg x.cs:=by cases x;rw[av];rfl
theorem av_eq (x:Ty):x.av= .agg [.i x.kind,.i x.id,.sl (avL x.args)]:=av_cs x
theorem avL_eq:∀ l:List Ty,avL l=l.map av
 | []=>by rw[avL];rfl
 |x::l=>by rw[avL,avL_eq l];rfl
theorem av_clo (x:Ty):x.av.clo=true:=by rw[av_cs];rfl
theorem cs_clo (x:Ty):AV.cloL x.cs=true:=rfl
theorem avL_clo (l:List Ty):AV.cloL (avL l)=true:=gC _ fun x hx=>by rw[avL_eq] at hx;obtain⟨p,_,rfl⟩:=List.mem_map.1 hx;exact av_clo p
theorem ext {a b:Ty} (h1:a.kind=b.kind) (h2:a.id=b.id) (h3:a.args=b.args):a=b:=by
 cases a;cases b;simp_all[kind,id,args]
theorem sz_eq (x:Ty):x.sz=1+szL x.args:=by cases x;rw[sz];rfl
theorem szL_eq:∀ l:List Ty,szL l=(l.map sz).sum
 | []=>by rw[szL];rfl
 |t::l=>by rw[szL,szL_eq l];rfl
theorem sz_mem {t:Ty} :∀ {l:List Ty},t∈l->t.sz<=szL l
 |x::l,h=>by
  rw[szL]
  rcases List.mem_cons.1 h with e|e
  ·subst e;omega
  ·have:=sz_mem e;omega
theorem len_le:∀ l:List Ty,l.length<=szL l
 | []=>Nat.zero_le _
 |t::l=>by rw[szL,sz_eq];have:=len_le l;simp only[List.length_cons];omega
@[go_sem] theorem avL_len (l:List Ty):(avL l).length=l.length:=by rw[avL_eq,List.length_map]
@[go_sem] theorem avL_get (l:List Ty) (i:Nat):(avL l)[i]? =l[i]?.map av:=by rw[avL_eq,List.getElem?_map]
@[go_sem] theorem avL_ren (m:Nat->Nat) (l:List Ty):AV.renL m (avL l)=avL l:=js (avL_clo l)
@[go_sem] theorem avL_ids (p:Nat->Prop) (l:List Ty):AV.idsL p (avL l)=True:=eq_true (jt (avL_clo l))
@[go_sem] theorem cs_ren (m:Nat->Nat) (x:Ty):AV.renL m x.cs=x.cs:=js x.cs_clo
@[go_sem] theorem cs_ids (p:Nat->Prop) (x:Ty):AV.idsL p x.cs=True:=eq_true (jt x.cs_clo)
@[go_sem] theorem av_ren (m:Nat->Nat) (x:Ty):x.av.ren m=x.av:=Jz x.av_clo
@[go_sem] theorem av_ids (p:Nat->Prop) (x:Ty):x.av.ids p=True:=eq_true (j5 x.av_clo)
@[go_sem] theorem cs_len (x:Ty):x.cs.length=3:=rfl
theorem clo_avL (l:List Ty):j8 (avL l):=by
 intro x hx c hc
 rw[avL_eq] at hx
 obtain⟨p,_,rfl⟩:=List.mem_map.1 hx
 rw[av_cs] at hc
 simp only[AV.cells,cs,List.mem_cons,List.not_mem_nil,or_false] at hc
 rcases hc with rfl|rfl|rfl<;>rfl
@[go_sem] theorem clo_avLT (l:List Ty):j8 (avL l)=True:=eq_true (clo_avL l)
end Ty
namespace Dv
def cs (x:Dv):List AV:=[.str x.nm,.sl (Ty.avL x.fs)]
def av (x:Dv):AV:= .agg x.cs
theorem av_eq (x:Dv):x.av= .agg [.str x.nm,.sl (Ty.avL x.fs)]:=rfl
theorem cs_eq (x:Dv):x.cs=[.str x.nm,.sl (Ty.avL x.fs)]:=rfl
theorem av_clo (x:Dv):x.av.clo=true:=rfl
def sz (x:Dv):Nat:=1+Ty.szL x.fs
end Dv
def dvl (l:List Dv):List AV:=l.map Dv.av
namespace Dd
def cs (x:Dd):List AV:=[.str x.nm,.i x.md,.i x.pr,.sl (dvl x.vs),.i x.dr]
def av (x:Dd):AV:= .agg x.cs
theorem av_eq (x:Dd):x.av= .agg [.str x.nm,.i x.md,.i x.pr,.sl (dvl x.vs),.i x.dr]:=rfl
theorem cs_eq (x:Dd):x.cs=[.str x.nm,.i x.md,.i x.pr,.sl (dvl x.vs),.i x.dr]:=rfl
theorem av_clo (x:Dd):x.av.clo=true:=rfl
end Dd
def ddl (l:List Dd):List AV:=l.map Dd.av
@[go_sem] theorem jmy (l:List Dv):(dvl l).length=l.length:=List.length_map ..
@[go_sem] theorem jmx (l:List Dv) (i:Nat):(dvl l)[i]? =(l[i]?).map Dv.av:=List.getElem?_map ..
theorem jey (l:List Dv):j8 (dvl l):=by
 intro x hx c hc
 obtain⟨p,_,rfl⟩:=List.mem_map.1 hx
 simp only[AV.cells,Dv.av,Dv.cs_eq,List.mem_cons,List.not_mem_nil,or_false] at hc
 rcases hc with rfl|rfl<;>rfl
@[go_sem] theorem jjZ (l:List Dv):j8 (dvl l)=True:=eq_true (jey l)
@[go_sem] theorem jmt (l:List Dd):(ddl l).length=l.length:=List.length_map ..
@[go_sem] theorem jms (l:List Dd) (i:Nat):(ddl l)[i]? =(l[i]?).map Dd.av:=List.getElem?_map ..
theorem jeF (l:List Dd):AV.cloL (ddl l)=true:=gC _ fun x hx=>by obtain⟨c,_,rfl⟩:=List.mem_map.1 hx;exact c.av_clo
@[go_sem] theorem jeG (m:Nat->Nat) (l:List Dd):AV.renL m (ddl l)=ddl l:=js (jeF l)
mutual
def plB (D:List Dd):Ty->Int->Bool
 | .mk k i a,d=>if d<1 then false else if k=1\/k=6 then a.isEmpty else if k=2 then a.isEmpty&&(decide (0<=i)&&(match D[i.toNat]? with|some x=>x.pr==0|none=>false))
  else if k=3\/k=4\/k=7\/k=8 then a.length==1&&plL D a (d - 1) else false
def plL (D:List Dd):List Ty->Int->Bool
 | [],_=>true
 |t::l,d=>plB D t d&&plL D l d
end
def dtB (D:List Dd):Bool:=D.all fun x=>x.vs.all fun v=>v.fs.all fun f=>plB D f 8
inductive Ky where
 |d (i:Int)
 |b (k:Ky)
 |k (n:Int)
 deriving DecidableEq
mutual
def ky:Ty->Ky
 | .mk k i a=>if k=2 then .d i else if k=3 then .b (kyL a) else .k k
def kyL:List Ty->Ky
 | []=> .k 0
 |t::_=>ky t
end
def vsO (D:List Dd) (t:Ty):Option Dd:=if t.kind=2 then D[t.id.toNat]? else none
def kids (D:List Dd) (t:Ty):List Ty:=match vsO D t with|some x=>x.vs.flatMap Dv.fs|none=>if t.kind=3 then t.args else []
def lab (D:List Dd) (t:Ty):List Int:=match vsO D t with|some x=>[t.kind,x.dr,(x.vs.length:Int)]++x.vs.map fun v=>(v.fs.length:Int)|none=>[t.kind]
def eqk (D E:List Dd):Nat->Ty->Ty->Prop
 |0,_,_=>True
 |n+1,t,u=>lab D t=lab E u/\(kids D t).length=(kids E u).length/\∀ (j:Nat) (a b:Ty),(kids D t)[j]? =some a->(kids E u)[j]? =some b->eqk D E n a b
def bis (D E:List Dd) (t u:Ty):Prop:=∀ n,eqk D E n t u
structure Nd where
 t:Ty
 ch:List Nat
def idx (s:List Nd) (t:Ty):Option Nat:=s.findIdx? fun n=>ky n.t==ky t
def YI (add:Ty->List Nd->List Nd×Nat):List Ty->List Nd->List Nd×List Nat
 | [],s=>(s,[])
 |c::l,s=>((YI add l (add c s).1).1,(add c s).2::(YI add l (add c s).1).2)
def yZ (D:List Dd):Nat->Ty->List Nd->List Nd×Nat
 |0,_,s=>(s,0)
 |f+1,t,s=>match idx s t with
  |some i=>(s,i)
  |none=>((YI (yZ D f) (kids D t) (s++[⟨t,[]⟩])).1.set s.length ⟨t,(YI (yZ D f) (kids D t) (s++[⟨t,[]⟩])).2⟩,s.length)
def JC {α:Type} [DecidableEq α]:List α->List α->List α
 | [],o=>o
 |x::l,o=>JC l (if x∈o then o else o++[x])
def yk (D:List Dd) (s:List Nd) (c:List Nat):List (List Int):=s.map fun n=>lab D n.t++n.ch.map fun j=>((c.getD j 0:Nat):Int)
def ranks (l:List (List Int)):List Nat:=l.map fun x=>(JC l []).idxOf x
def j9 (D:List Dd) (s:List Nd):Nat->List Nat
 |0=>List.replicate s.length 0
 |n+1=>ranks (yk D s (j9 D s n))
def yD (D:List Dd) (s:List Nd) (n:Nat):Nat:=(JC (yk D s (j9 D s n)) []).length
end Go.Gl

namespace Go.Gl
open Go Go.Am Go.Hv
theorem Uu (D:List Dd):∀ (n:Nat) (t:Ty),eqk D D n t t
 |0,_=>trivial
 |n+1,t=>⟨rfl,rfl,fun j a b ha hb=>by rw[ha] at hb;cases hb;exact Uu D n a⟩
theorem YQ {D E:List Dd} :∀ {n:Nat} {t u:Ty},eqk D E n t u->eqk E D n u t
 |0,_,_,_=>trivial
 |n+1,t,u,⟨h1,h2,h3⟩=>⟨h1.symm,h2.symm,fun j a b ha hb=>YQ (h3 j b a hb ha)⟩
theorem JN {D E F:List Dd} :∀ {n:Nat} {t u v:Ty},eqk D E n t u->eqk E F n u v->eqk D F n t v
 |0,_,_,_,_,_=>trivial
 |n+1,t,u,v,⟨h1,h2,h3⟩,⟨g1,g2,g3⟩=>⟨h1.trans g1,h2.trans g2,fun j a b ha hb=>by
  have hj:j<(kids E u).length:=by have:=(List.getElem?_eq_some_iff.1 ha).1;omega
  obtain⟨c,hc⟩:∃ c,(kids E u)[j]? =some c:=⟨_,List.getElem?_eq_getElem hj⟩
  exact JN (h3 j a c ha hc) (g3 j c b hc hb)⟩
theorem G6 {D E:List Dd} :∀ {n:Nat} {t u:Ty},eqk D E (n+1) t u->eqk D E n t u
 |0,_,_,_=>trivial
 |n+1,t,u,⟨h1,h2,h3⟩=>⟨h1,h2,fun j a b ha hb=>G6 (h3 j a b ha hb)⟩
theorem GT (D:List Dd) (t:Ty):bis D D t t:=fun n=>Uu D n t
theorem Ys {D E:List Dd} {t u:Ty} (h:bis D E t u):bis E D u t:=fun n=>YQ (h n)
theorem Jo {D E F:List Dd} {t u v:Ty} (h:bis D E t u) (g:bis E F u v):bis D F t v:=fun n=>JN (h n) (g n)
theorem XE {D E:List Dd} {t u:Ty} (h:bis D E t u):lab D t=lab E u:=(h 1).1
theorem jeu {D E:List Dd} {t u:Ty} (h:bis D E t u):(kids D t).length=(kids E u).length:=(h 1).2.1
theorem jet {D E:List Dd} {t u:Ty} (h:bis D E t u) {j:Nat} {a b:Ty} (ha:(kids D t)[j]? =some a) (hb:(kids E u)[j]? =some b):bis D E a b:=fun n=>(h (n+1)).2.2 j a b ha hb
theorem qd (D:List Dd) (t:Ty):(lab D t).head? =some t.kind:=by
 unfold lab;split<;>rfl
theorem Ug {D E:List Dd} {t u:Ty} (h:bis D E t u):t.kind=u.kind:=by
 have:=XE h
 have h1:=qd D t
 rw[this,qd] at h1
 exact(Option.some.inj h1).symm
def Pl (D:List Dd) (t:Ty):Prop:=∃ d,plB D t d=true
theorem JS {D:List Dd} {t:Ty} (h:Pl D t) (hk:t.kind=3):∃ a,t.args=[a]/\Pl D a:=by
 obtain⟨d,h⟩:=h
 cases t with
 |mk k i l=>
  simp only[Ty.kind] at hk
  subst hk
  rw[plB] at h
  split at h
  ·cases h
  ·rw[if_neg (by decide),if_neg (by decide),if_pos (by decide)] at h
   simp only[Bool.and_eq_true,beq_iff_eq] at h
   obtain⟨h1,h2⟩:=h
   match l,h1 with
   | [a],_=>
    rw[plL,Bool.and_eq_true] at h2
    exact⟨a,rfl,d - 1,h2.1⟩
theorem yK {D:List Dd} {t:Ty} (h:Pl D t) (hk:t.kind=2):∃ x,D[t.id.toNat]? =some x/\0<=t.id/\t.args=[]/\x.pr=0:=by
 obtain⟨d,h⟩:=h
 cases t with
 |mk k i l=>
  simp only[Ty.kind] at hk
  subst hk
  rw[plB] at h
  split at h
  ·cases h
  ·rw[if_neg (by decide),if_pos rfl] at h
   simp only[Bool.and_eq_true,decide_eq_true_eq] at h
   obtain⟨h0,h1,h2⟩:=h
   simp only[Ty.id]
   cases hx:D[i.toNat]? with
   |none=>rw[hx] at h2;cases h2
   |some x=>
    rw[hx] at h2
    exact⟨x,rfl,h1,by simpa [Ty.args] using h0,by simpa using h2⟩
theorem yy {D:List Dd} {t:Ty} (h:Pl D t) (hk:t.kind=2):∃ x,vsO D t=some x:=by
 obtain⟨x,hx,_⟩:=yK h hk
 exact⟨x,by unfold vsO;rw[if_pos hk,hx]⟩
theorem Yz {D:List Dd} {t:Ty} {x:Dd} (h:vsO D t=some x):t.kind=2/\D[t.id.toNat]? =some x:=by
 unfold vsO at h
 split at h
 ·rename_i hk;exact⟨hk,h⟩
 ·cases h
theorem yI {D:List Dd} (hD:dtB D=true) {t c:Ty} (h:Pl D t) (hc:c∈kids D t):Pl D c:=by
 unfold kids at hc
 split at hc
 ·rename_i x hx
  obtain⟨v,hv,hf⟩:=List.mem_flatMap.1 hc
  have hx2:=List.mem_of_getElem? (Yz hx).2
  have:=List.all_eq_true.1 hD x hx2
  have:=List.all_eq_true.1 this v hv
  exact⟨8,List.all_eq_true.1 this c hf⟩
 ·split at hc
  ·rename_i hk
   obtain⟨a,e,ha⟩:=JS h hk
   rw[e] at hc
   simp at hc
   subst hc
   exact ha
  ·cases hc
theorem JB {D:List Dd} {t a:Ty} (hk:t.kind=3) (e:t.args=[a]):kids D t=[a]:=by
 unfold kids vsO
 rw[if_neg (by rw[hk];decide),if_pos hk,e]
theorem Jv {D:List Dd} {t:Ty} (h2:t.kind≠2) (h3:t.kind≠3):kids D t=[]:=by
 unfold kids vsO
 rw[if_neg h2,if_neg h3]
theorem JO {D:List Dd} {t:Ty} (h2:t.kind≠2):lab D t=[t.kind]:=by
 unfold lab vsO
 rw[if_neg h2]
theorem Gg {t:Ty} (h:t.kind=2):ky t= .d t.id:=by cases t;rw[ky];exact if_pos h
theorem GD {t a:Ty} (h:t.kind=3) (e:t.args=[a]):ky t= .b (ky a):=by
 cases t with
 |mk k i l=>
  simp only[Ty.kind,Ty.args] at h e
  subst h e
  rw[ky,if_neg (by decide),if_pos rfl,kyL]
theorem YT {t:Ty} (h2:t.kind≠2) (h3:t.kind≠3):ky t= .k t.kind:=by
 cases t with
 |mk k i l=>
  simp only[Ty.kind] at h2 h3 ⊢
  rw[ky,if_neg h2,if_neg h3]
theorem jc0 {D:List Dd} {t u:Ty} (ht:Pl D t) (hu:Pl D u) (h:ky t=ky u):t.kind=u.kind/\lab D t=lab D u/\(kids D t).length=(kids D u).length/\∀ (j:Nat) (a b:Ty),(kids D t)[j]? =some a->(kids D u)[j]? =some b->ky a=ky b:=by
 by_cases h2:t.kind=2
 ·rw[Gg h2] at h
  by_cases g2:u.kind=2
  ·rw[Gg g2] at h
   cases t with
   |mk k i l=>
   cases u with
   |mk k' i' l'=>
    simp only[Ty.kind,Ty.id] at h2 g2 h
    subst h2 g2
    have h:=Ky.d.inj h
    subst h
    have e1:kids D (.mk 2 i l)=kids D (.mk 2 i l'):=by
     unfold kids vsO
     simp only[Ty.kind,Ty.id,if_true]
     cases D[i.toNat]? <;>rfl
    refine⟨rfl,rfl,by rw[e1],fun j a b ha hb=>?_⟩
    rw[e1,hb] at ha
    cases ha;rfl
  ·by_cases g3:u.kind=3
   ·obtain⟨a,e,_⟩:=JS hu g3
    rw[GD g3 e] at h;cases h
   ·rw[YT g2 g3] at h;cases h
 ·by_cases h3:t.kind=3
  ·obtain⟨a,e,ha⟩:=JS ht h3
   rw[GD h3 e] at h
   by_cases g2:u.kind=2
   ·rw[Gg g2] at h;cases h
   ·by_cases g3:u.kind=3
    ·obtain⟨b,e',hb⟩:=JS hu g3
     rw[GD g3 e'] at h
     have h:=Ky.b.inj h
     refine⟨by rw[h3,g3],by rw[JO h2,JO g2,h3,g3],by rw[JB h3 e,JB g3 e'];rfl,fun j x y hx hy=>?_⟩
     rw[JB h3 e] at hx
     rw[JB g3 e'] at hy
     match j,hx,hy with
     |0,hx,hy=>cases hx;cases hy;exact h
    ·rw[YT g2 g3] at h;cases h
  ·rw[YT h2 h3] at h
   by_cases g2:u.kind=2
   ·rw[Gg g2] at h;cases h
   ·by_cases g3:u.kind=3
    ·obtain⟨b,e',hb⟩:=JS hu g3
     rw[GD g3 e'] at h;cases h
    ·rw[YT g2 g3] at h
     have h:=Ky.k.inj h
     refine⟨h,by rw[JO h2,JO g2,h],by rw[Jv h2 h3,Jv g2 g3],fun j x y hx hy=>?_⟩
     rw[Jv h2 h3] at hx;cases hx
theorem ut {D:List Dd} (hD:dtB D=true):∀ (n:Nat) {t u:Ty},Pl D t->Pl D u->ky t=ky u->eqk D D n t u
 |0,_,_,_,_,_=>trivial
 |n+1,t,u,ht,hu,h=>by
  obtain⟨_,h1,h2,h3⟩:=jc0 ht hu h
  exact⟨h1,h2,fun j a b ha hb=>ut hD n (yI hD ht (List.mem_of_getElem? ha)) (yI hD hu (List.mem_of_getElem? hb)) (h3 j a b ha hb)⟩
theorem GC {D:List Dd} (hD:dtB D=true) {t u:Ty} (ht:Pl D t) (hu:Pl D u) (h:ky t=ky u):bis D D t u:=fun n=>ut hD n ht hu h
theorem yT {D:List Dd} {t:Ty} {x:Dd} (h:vsO D t=some x):lab D t=[2,x.dr,(x.vs.length:Int)]++x.vs.map fun v=>(v.fs.length:Int):=by
 unfold lab
 rw[h, <- (Yz h).1]
theorem UJ:∀ (l m:List Dv),l.map (fun v=>(v.fs.length:Int))=m.map (fun v=>(v.fs.length:Int))->(l.flatMap Dv.fs).length=(m.flatMap Dv.fs).length
 | [],[],_=>rfl
 | [],_::_,h=>by cases h
 |_::_,[],h=>by cases h
 |a::l,b::m,h=>by
  simp only[List.map_cons,List.cons.injEq] at h
  have:=UJ l m h.2
  simp only[List.flatMap_cons,List.length_append]
  omega
theorem jfd {D E:List Dd} {t u:Ty} (ht:Pl D t) (hu:Pl E u) {x y:List Int} (h:lab D t++x=lab E u++y):lab D t=lab E u/\x=y/\(kids D t).length=(kids E u).length:=by
 by_cases h2:t.kind=2
 ·obtain⟨a,ha⟩:=yy ht h2
  by_cases g2:u.kind=2
  ·obtain⟨b,hb⟩:=yy hu g2
   rw[yT ha,yT hb] at h ⊢
   simp only[List.cons_append,List.nil_append,List.cons.injEq,true_and] at h
   obtain⟨h3,h4,h5⟩:=h
   have hl:(a.vs.map fun v=>(v.fs.length:Int)).length=(b.vs.map fun v=>(v.fs.length:Int)).length:=by simp only[List.length_map];omega
   obtain⟨h6,h7⟩:=List.append_inj h5 hl
   refine⟨by rw[h3,h4,h6],h7,?_⟩
   unfold kids
   rw[ha,hb]
   exact UJ _ _ h6
  ·rw[yT ha,JO g2] at h
   simp only[List.cons_append,List.nil_append,List.cons.injEq] at h
   exact absurd h.1.symm g2
 ·by_cases g2:u.kind=2
  ·obtain⟨b,hb⟩:=yy hu g2
   rw[yT hb,JO h2] at h
   simp only[List.cons_append,List.nil_append,List.cons.injEq] at h
   exact absurd h.1 h2
  ·rw[JO h2,JO g2] at h ⊢
   simp only[List.cons_append,List.nil_append,List.cons.injEq] at h
   refine⟨by rw[h.1],h.2,?_⟩
   by_cases h3:t.kind=3
   ·have g3:u.kind=3:=by omega
    obtain⟨a,e,_⟩:=JS ht h3
    obtain⟨b,e',_⟩:=JS hu g3
    rw[JB h3 e,JB g3 e'];rfl
   ·rw[Jv h2 h3,Jv g2 (by omega)]

def kys (s:List Nd):List Ky:=s.map fun n=>ky n.t
theorem yp {s:List Nd} {t:Ty} {i:Nat} (h:idx s t=some i):∃ n,s[i]? =some n/\ky n.t=ky t:=by
 unfold idx at h
 obtain⟨hi,hp,_⟩:=List.findIdx?_eq_some_iff_getElem.1 h
 exact⟨s[i],List.getElem?_eq_getElem hi,by simpa using hp⟩
theorem Q6 {s:List Nd} {t:Ty} (h:idx s t=none):ky t∉kys s:=by
 unfold idx at h
 rw[List.findIdx?_eq_none_iff] at h
 intro hm
 obtain⟨n,hn,e⟩:=List.mem_map.1 hm
 have:=h n hn
 simp[e] at this
def left (U:List Ky) (s:List Nd):Nat:=(U.filter fun k=>decide (k∉kys s)).length
theorem QD {U:List Ky} {s s':List Nd} (h:∀ k,k∈kys s->k∈kys s'):left U s'<=left U s:=by
 unfold left
 have:U.filter (fun k=>decide (k∉kys s'))=(U.filter (fun k=>decide (k∉kys s))).filter fun k=>decide (k∉kys s'):=by
  rw[List.filter_filter]
  apply List.filter_congr
  intro k _
  by_cases h1:k∈kys s'
  ·simp[h1]
  ·have:k∉kys s:=fun h2=>h1 (h k h2)
   simp[h1,this]
 rw[this]
 exact List.length_filter_le _ _
theorem X5 {U:List Ky} {s:List Nd} {n:Nd} (hU:ky n.t∈U) (hs:ky n.t∉kys s):left U (s++[n])<left U s:=by
 unfold left
 have hk:kys (s++[n])=kys s++[ky n.t]:=by simp[kys]
 have e:U.filter (fun k=>decide (k∉kys (s++[n])))=(U.filter (fun k=>decide (k∉kys s))).filter fun k=>decide (k≠ky n.t):=by
  rw[List.filter_filter,hk]
  apply List.filter_congr
  intro k _
  by_cases h1:k∈kys s<;>by_cases h2:k=ky n.t<;>simp[h1,h2]
 rw[e]
 have hm:ky n.t∈U.filter (fun k=>decide (k∉kys s)):=List.mem_filter.2 ⟨hU,by simpa using hs⟩
 generalize U.filter (fun k=>decide (k∉kys s))=V at hm
 rcases Nat.lt_or_eq_of_le (List.length_filter_le (fun k=>decide (k≠ky n.t)) V) with h|h
 ·exact h
 ·have:=List.length_filter_eq_length_iff.1 h (ky n.t) hm
  simp at this
def NdOk (D:List Dd) (s:List Nd) (j:Nat):Prop:=∃ n,s[j]? =some n/\n.ch.length=(kids D n.t).length/\∀ (i:Nat) (c:Ty) (m:Nat),(kids D n.t)[i]? =some c->n.ch[i]? =some m->∃ n',s[m]? =some n'/\ky n'.t=ky c
structure Spec (D:List Dd) (U:List Ky) (s s':List Nd):Prop where
 len:s.length<=s'.length
 old:∀ j,j<s.length->s'[j]? =s[j]?
 pl:∀ n,n∈s'->Pl D n.t
 nd:(kys s').Nodup
 un:∀ k,k∈kys s'->k∈U
 ok:∀ j,s.length<=j->j<s'.length->NdOk D s' j
theorem NdOk.ext {D:List Dd} {s s':List Nd} {j:Nat} (h:NdOk D s j) (hj:s'[j]? =s[j]?) (hk:∀ (m:Nat) (n:Nd),s[m]? =some n->∃ n':Nd,s'[m]? =some n'/\n'.t=n.t):NdOk D s' j:=by
 obtain⟨n,h1,h2,h3⟩:=h
 refine⟨n,by rw[hj,h1],h2,fun i c m hc hm=>?_⟩
 obtain⟨n',h4,h5⟩:=h3 i c m hc hm
 obtain⟨n'',h6,h7⟩:=hk m n' h4
 exact⟨n'',h6,by rw[h7,h5]⟩
theorem Spec.keep {D:List Dd} {U:List Ky} {s s':List Nd} (h:Spec D U s s'):∀ (m:Nat) (n:Nd),s[m]? =some n->∃ n':Nd,s'[m]? =some n'/\n'.t=n.t:=fun m n hm=>⟨n,by rw[h.old m (List.getElem?_eq_some_iff.1 hm).1,hm],rfl⟩
theorem Spec.trans {D:List Dd} {U:List Ky} {a b c:List Nd} (h:Spec D U a b) (g:Spec D U b c):Spec D U a c:=
 ⟨Nat.le_trans h.len g.len,fun j hj=>by rw[g.old j (by have:=h.len;omega),h.old j hj],g.pl,g.nd,g.un,fun j h1 h2=>by
  rcases Nat.lt_or_ge j b.length with hj|hj
  ·exact(h.ok j h1 hj).ext (g.old j hj) g.keep
  ·exact g.ok j hj h2⟩
theorem Spec.kys {D:List Dd} {U:List Ky} {a b:List Nd} (h:Spec D U a b):∀ k,k∈kys a->k∈kys b:=by
 intro k hk
 obtain⟨n,hn,rfl⟩:=List.mem_map.1 hk
 obtain⟨j,hj⟩:=List.getElem?_of_mem hn
 have:=h.old j (List.getElem?_eq_some_iff.1 hj).1
 rw[hj] at this
 exact List.mem_map.2 ⟨n,List.mem_of_getElem? this,rfl⟩
def Closed (D:List Dd) (U:List Ky):Prop:=∀ t c,Pl D t->ky t∈U->c∈kids D t->ky c∈U
theorem Spec.refl {D:List Dd} {U:List Ky} {s:List Nd} (h1:∀ n,n∈s->Pl D n.t) (h2:(Go.Gl.kys s).Nodup) (h3:∀ k,k∈Go.Gl.kys s->k∈U):Spec D U s s:=
 ⟨Nat.le_refl _,fun _ _=>rfl,h1,h2,h3,fun j a b=>by omega⟩
theorem O2 {D : List Dd} {U : List Ky} (add : Ty -> List Nd -> List Nd × Nat) (f : Nat)
    (ha:∀ t s,Pl D t->(∀ n,n∈s->Pl D n.t)->(kys s).Nodup->(∀ k,k∈kys s->k∈U)->ky t∈U->left U s<f->Spec D U s (add t s).1/\∃ n,(add t s).1[(add t s).2]? =some n/\ky n.t=ky t):
    ∀ (l:List Ty) (s:List Nd),(∀ c,c∈l->Pl D c/\ky c∈U)->(∀ n,n∈s->Pl D n.t)->(kys s).Nodup->(∀ k,k∈kys s->k∈U)->left U s<f->
      Spec D U s (YI add l s).1/\(YI add l s).2.length=l.length/\∀ (i:Nat) (c:Ty) (m:Nat),l[i]? =some c->(YI add l s).2[i]? =some m->∃ n',(YI add l s).1[m]? =some n'/\ky n'.t=ky c
  | [],s,_,h1,h2,h3,_=>⟨Spec.refl h1 h2 h3,rfl,fun i c m hc=>by simp at hc⟩
  |t::l,s,hl,h1,h2,h3,hf=>by
    obtain⟨g1,n,g2,g3⟩:=ha t s (hl t (by simp)).1 h1 h2 h3 (hl t (by simp)).2 hf
    obtain⟨k1,k2,k3⟩:=O2 add f ha l (add t s).1 (fun c hc=>hl c (by simp[hc])) g1.pl g1.nd g1.un (Nat.lt_of_le_of_lt (QD g1.kys) hf)
    rw[YI]
    refine⟨g1.trans k1,by simp[k2],fun i c m hc hm=>?_⟩
    match i,hc,hm with
    |0,hc,hm=>
      simp at hc hm
      subst hc hm
      obtain⟨n',h4,h5⟩:=k1.keep _ n g2
      exact⟨n',h4,by rw[h5,g3]⟩
    |i+1,hc,hm=>
      simp at hc hm
      exact k3 i c m hc hm
theorem O3 {D : List Dd} {U : List Ky} (hD : dtB D = true) (hU : Closed D U) : ∀ (f : Nat) (t : Ty) (s : List Nd), Pl D t -> (∀ n, n ∈ s -> Pl D n.t) -> (kys s).Nodup -> (∀ k, k ∈ kys s -> k ∈ U) -> ky t ∈ U -> left U s < f ->
    Spec D U s (yZ D f t s).1/\∃ n,(yZ D f t s).1[(yZ D f t s).2]? =some n/\ky n.t=ky t
  |0,_,_,_,_,_,_,_,h=>absurd h (Nat.not_lt_zero _)
  |f+1,t,s,ht,h1,h2,h3,h4,h5=>by
    rw[yZ]
    cases hi:idx s t with
    |some i=>exact⟨Spec.refl h1 h2 h3,yp hi⟩
    |none=>
      have hnk:=Q6 hi
      have hlt:=X5 (n:=⟨t,[]⟩) h4 hnk
      have e0:kys (s++[⟨t,[]⟩])=kys s++[ky t]:=by simp[kys]
      have p1:∀ n,n∈s++[⟨t,[]⟩]->Pl D n.t:=fun n hn=>by
        rcases List.mem_append.1 hn with hn|hn
        · exact h1 n hn
        · simp at hn;subst hn;exact ht
      have p2:(kys (s++[⟨t,[]⟩])).Nodup:=by
        rw[e0,List.nodup_append]
        exact⟨h2,by simp,fun a ha b hb=>by simp at hb;subst hb;rintro rfl;exact hnk ha⟩
      have p3:∀ k,k∈kys (s++[⟨t,[]⟩])->k∈U:=fun k hk=>by
        rw[e0] at hk
        rcases List.mem_append.1 hk with hk|hk
        · exact h3 k hk
        · simp at hk;subst hk;exact h4
      obtain⟨g1,g2,g3⟩:=O2 (U:=U) (yZ D f) f (fun t s a b c d e g=>O3 hD hU f t s a b c d e g) (kids D t) (s++[⟨t,[]⟩]) (fun c hc=>⟨yI hD ht hc,hU t c ht h4 hc⟩) p1 p2 p3 (by omega)
      generalize YI (yZ D f) (kids D t) (s++[⟨t,[]⟩])=r at*
      obtain⟨q,l⟩:=r
      simp only at g1 g2 g3 ⊢
      have hlen:=g1.len
      simp only[List.length_append,List.length_singleton] at hlen
      have hat:q[s.length]? =some ⟨t,[]⟩:=by rw[g1.old _ (by simp)];simp
      have hset:∀ j,(q.set s.length ⟨t,l⟩)[j]? =if j=s.length then some ⟨t,l⟩ else q[j]? :=fun j=>by
        rw[List.getElem?_set]
        by_cases h:s.length=j
        · rw[if_pos h,if_pos (by omega),if_pos h.symm]
        · rw[if_neg h,if_neg (Ne.symm h)]
      have hkys:kys (q.set s.length ⟨t,l⟩)=kys q:=by
        apply List.ext_getElem?
        intro j
        simp only[kys,List.getElem?_map,hset]
        split
        · rename_i e;subst e;rw[hat];rfl
        · rfl
      have hkeep:∀ (m:Nat) (n:Nd),q[m]? =some n->∃ n':Nd,(q.set s.length ⟨t,l⟩)[m]? =some n'/\n'.t=n.t:=fun m n hm=>by
        rw[hset]
        split
        · rename_i e;subst e;rw[hat] at hm;cases hm;exact⟨_,rfl,rfl⟩
        · exact⟨n,hm,rfl⟩
      refine⟨⟨by rw[List.length_set];omega,fun j hj=>?_,fun n hn=>?_,by rw[hkys];exact g1.nd,by rw[hkys];exact g1.un,fun j hj1 hj2=>?_⟩,⟨t,l⟩,by rw[hset,if_pos rfl],rfl⟩
      · rw[hset,if_neg (by omega),g1.old j (by simp;omega),List.getElem?_append_left hj]
      · obtain⟨j,hj⟩:=List.getElem?_of_mem hn
        rw[hset] at hj
        split at hj
        · cases hj;exact ht
        · exact g1.pl n (List.mem_of_getElem? hj)
      · rw[List.length_set] at hj2
        by_cases hjs:j=s.length
        · subst hjs
          refine⟨⟨t,l⟩,by rw[hset,if_pos rfl],g2,fun i c m hc hm=>?_⟩
          obtain⟨n',h6,h7⟩:=g3 i c m hc hm
          obtain⟨n'',h8,h9⟩:=hkeep m n' h6
          exact⟨n'',h8,by rw[h9,h7]⟩
        · exact(g1.ok j (by simp;omega) hj2).ext (by rw[hset,if_neg hjs]) hkeep
def Gt:Ky->List Ky
 | .b k=> .b k::Gt k
 | .d i=>[.d i]
 | .k n=>[.k n]
theorem qI (k:Ky):k∈Gt k:=by cases k<;>simp[Gt]
theorem jcX {a:Ky} :∀ {k:Ky},.b a∈Gt k->a∈Gt k
 | .b k,h=>by
  rw[Gt] at h ⊢
  rcases List.mem_cons.1 h with h|h
  ·cases h;exact List.mem_cons_of_mem _ (qI _)
  ·exact List.mem_cons_of_mem _ (jcX h)
 | .d i,h=>by simp[Gt] at h
 | .k n,h=>by simp[Gt] at h
def Ub (D:List Dd):List Ty:=D.flatMap fun x=>x.vs.flatMap Dv.fs
def uni (D:List Dd) (l:List Ty):List Ky:=(l++Ub D).flatMap fun t=>Gt (ky t)
theorem qU {D:List Dd} {l:List Ty} {t:Ty} (h:t∈l):ky t∈uni D l:=List.mem_flatMap.2 ⟨t,List.mem_append_left _ h,qI _⟩
theorem GM (D:List Dd) (l:List Ty):Closed D (uni D l):=by
 intro t c ht hk hc
 by_cases h2:t.kind=2
 ·obtain⟨x,hx⟩:=yy ht h2
  unfold kids at hc
  rw[hx] at hc
  exact List.mem_flatMap.2 ⟨c,List.mem_append_right _ (List.mem_flatMap.2 ⟨x,List.mem_of_getElem? (Yz hx).2,hc⟩),qI _⟩
 ·by_cases h3:t.kind=3
  ·obtain⟨a,e,ha⟩:=JS ht h3
   rw[JB h3 e] at hc
   simp at hc
   subst hc
   rw[GD h3 e] at hk
   obtain⟨u,hu,hk⟩:=List.mem_flatMap.1 hk
   exact List.mem_flatMap.2 ⟨u,hu,jcX hk⟩
  ·rw[Jv h2 h3] at hc;cases hc
def jI (D:List Dd) (f:Nat) (l:List Ty):List Nd:=l.foldl (fun s t=>(yZ D f t s).1) []
structure Gr (D:List Dd) (s:List Nd):Prop where
 pl:∀ n,n∈s->Pl D n.t
 nd:(kys s).Nodup
 ok:∀ j,j<s.length->NdOk D s j
theorem O1 {D : List Dd} {U : List Ky} (hD : dtB D = true) (hU : Closed D U) {f : Nat} : ∀ (l : List Ty) (s : List Nd), (∀ t, t ∈ l -> Pl D t /\ ky t ∈ U) -> Gr D s -> (∀ k, k ∈ kys s -> k ∈ U) -> left U s < f ->
    Spec D U s (l.foldl (fun s t=>(yZ D f t s).1) s)/\∀ t,t∈l->∃ i,idx (l.foldl (fun s t=>(yZ D f t s).1) s) t=some i
  | [],s,_,h,h3,_=>⟨Spec.refl h.pl h.nd h3,fun t ht=>by cases ht⟩
  |t::l,s,hl,h,h3,hf=>by
    obtain⟨g1,n,g2,g3⟩:=O3 hD hU f t s (hl t (by simp)).1 h.pl h.nd h3 (hl t (by simp)).2 hf
    have hG:Gr D (yZ D f t s).1:=⟨g1.pl,g1.nd,fun j hj=>by
      rcases Nat.lt_or_ge j s.length with h6|h6
      · exact(h.ok j h6).ext (g1.old j h6) g1.keep
      · exact g1.ok j h6 hj⟩
    obtain⟨k1,k2⟩:=O1 hD hU l (yZ D f t s).1 (fun c hc=>hl c (by simp[hc])) hG g1.un (Nat.lt_of_le_of_lt (QD g1.kys) hf)
    rw[List.foldl_cons]
    refine⟨g1.trans k1,fun u hu=>?_⟩
    rcases List.mem_cons.1 hu with rfl|hu
    · have hm:=k1.kys (ky u) (List.mem_map.2 ⟨n,List.mem_of_getElem? g2,g3⟩)
      cases hi:idx (List.foldl (fun s t=>(yZ D f t s).1) (yZ D f u s).1 l) u with
      |some i=>exact⟨i,rfl⟩
      |none=>exact absurd hm (Q6 hi)
    · exact k2 u hu
theorem oe (U:List Ky):left U []=U.length:=by
 unfold left
 rw[List.filter_eq_self.2]
 intro k _
 simp[kys]
theorem Y8 {D:List Dd} (hD:dtB D=true) {l:List Ty} {f:Nat} (hl:∀ t,t∈l->Pl D t) (hf:(uni D l).length<f):Gr D (jI D f l)/\(∀ t,t∈l->∃ i,idx (jI D f l) t=some i)/\∀ k,k∈kys (jI D f l)->k∈uni D l:=by
 obtain⟨h1,h2⟩:=O1 hD (GM D l) l [] (fun t ht=>⟨hl t ht,qU ht⟩) ⟨fun n hn=>(by cases hn),List.nodup_nil,fun j hj=>absurd hj (Nat.not_lt_zero _)⟩ (fun k hk=>by cases hk) (by rw[oe];exact hf)
 exact⟨⟨h1.pl,h1.nd,fun j hj=>h1.ok j (Nat.zero_le _) hj⟩,h2,h1.un⟩

section
variable {α:Type} [DecidableEq α]
theorem uniq_mem {x:α} :∀ {l o:List α},x∈JC l o↔x∈l\/x∈o
 | [],o=>by simp[JC]
 |y::l,o=>by
  rw[JC,uniq_mem,List.mem_cons]
  split
  ·rename_i h
   exact⟨fun g=>by rcases g with g|g<;>simp[g],fun g=>by rcases g with (rfl|g)|g<;>simp_all⟩
  ·simp only[List.mem_append,List.mem_singleton]
   exact⟨fun g=>by rcases g with g|g|g<;>simp[g],fun g=>by rcases g with (g|g)|g<;>simp[g]⟩
theorem GN:∀ {l o:List α},o.Nodup->(JC l o).Nodup
 | [],o,h=>h
 |y::l,o,h=>by
  rw[JC]
  refine GN ?_
  split
  ·exact h
  ·rename_i hy
   rw[List.nodup_append]
   exact⟨h,by simp,fun a ha b hb=>by simp at hb;subst hb;rintro rfl;exact hy ha⟩
theorem oJ:∀ {l o:List α},∃ r,JC l o=o++r
 | [],o=>⟨[],by simp[JC]⟩
 |y::l,o=>by
  rw[JC]
  split
  ·exact oJ
  ·obtain⟨r,h⟩:=oJ (l:=l) (o:=o++[y])
   exact⟨y::r,by rw[h,List.append_assoc];rfl⟩
theorem oH:∀ {l m o:List α},JC (l++m) o=JC m (JC l o)
 | [],m,o=>rfl
 |y::l,m,o=>by rw[List.cons_append,JC,JC,oH]
theorem oI:∀ {l o:List α},(JC l o).length<=l.length+o.length
 | [],o=>by simp[JC]
 |y::l,o=>by
  rw[JC]
  have:=oI (l:=l) (o:=if y∈o then o else o++[y])
  split at this<;>split<;>simp_all<;>omega
theorem qn:∀ {a b:List α},a.Nodup->(∀ x,x∈a->x∈b)->a.length<=b.length
 | [],b,_,_=>Nat.zero_le _
 |x::a,b,hn,h=>by
  obtain⟨h1,h2⟩:=List.nodup_cons.1 hn
  have hx:=h x (by simp)
  have:=qn (a:=a) (b:=b.erase x) h2 (fun y hy=>(List.mem_erase_of_ne (by rintro rfl;exact h1 hy)).2 (h y (by simp[hy])))
  rw[List.length_erase_of_mem hx] at this
  have:=List.length_pos_of_mem hx
  simp only[List.length_cons]
  omega
theorem jdM:∀ {g:List α},¬ g.Nodup->∃ g':List α,(∀ x,x∈g->x∈g')/\g'.length<g.length
 | [],h=>absurd List.nodup_nil h
 |x::l,h=>by
  by_cases hx:x∈l
  ·exact⟨l,fun y hy=>by rcases List.mem_cons.1 hy with rfl|hy;exact hx;exact hy,by simp⟩
  ·obtain⟨g',h1,h2⟩:=jdM (g:=l) (fun hl=>h (List.nodup_cons.2 ⟨hx,hl⟩))
   exact⟨x::g',fun y hy=>by rcases List.mem_cons.1 hy with rfl|hy;simp;simp[h1 y hy],by simpa using h2⟩
theorem uw {a g:List α} (ha:a.Nodup) (h:∀ x,x∈a->x∈g) (hl:g.length<=a.length):g.Nodup:=by
 refine Classical.byContradiction fun hn=>?_
 obtain⟨g',h1,h2⟩:=jdM hn
 have:=qn ha (fun x hx=>h1 x (h x hx))
 omega
theorem jcN {β:Type} [BEq β] [LawfulBEq β] {l:List β} {x y:β} (hx:x∈l) (h:l.idxOf x=l.idxOf y):x=y:=by
 have h1:=List.idxOf_lt_length_of_mem hx
 have e1:=List.getElem_idxOf h1
 have h2:l.idxOf y<l.length:=by omega
 have e2:=List.getElem_idxOf h2
 rw[<- e1, <- e2]
 congr 1
end
theorem OR (l:List (List Int)):(ranks l).length=l.length:=by simp[ranks]
theorem jbk {l:List (List Int)} {i j:Nat} {x y:List Int} (hx:l[i]? =some x) (hy:l[j]? =some y):((ranks l).getD i 0=(ranks l).getD j 0↔x=y):=by
 simp only[ranks,List.getD_eq_getElem?_getD,List.getElem?_map,hx,hy,Option.map_some,Option.getD_some]
 exact⟨fun h=>jcN (uniq_mem.2 (.inl (List.mem_of_getElem? hx))) h,fun h=>by rw[h]⟩
theorem yv {D:List Dd} {s:List Nd} {c:List Nat} {i:Nat} {a:Nd} (h:s[i]? =some a):(yk D s c)[i]? =some (lab D a.t++a.ch.map fun j=>((c.getD j 0:Nat):Int)):=by simp[yk,h]
theorem G3 (D:List Dd) (s:List Nd):∀ n,(j9 D s n).length=s.length
 |0=>by simp[j9]
 |n+1=>by rw[j9,OR,yk,List.length_map]
def cl (D:List Dd) (s:List Nd) (n i:Nat):Nat:=(j9 D s n).getD i 0
theorem qi {D : List Dd} (hD : dtB D = true) {s : List Nd} (hG : Gr D s) (n : Nat) (ih : ∀ (i j : Nat) (a b : Nd), s[i]? = some a -> s[j]? = some b -> (cl D s n i = cl D s n j ↔ eqk D D n a.t b.t)) {i j : Nat} {a b : Nd} (ha : s[i]? = some a) (hb : s[j]? = some b) :
    (lab D a.t++a.ch.map (fun k=>((cl D s n k:Nat):Int))=lab D b.t++b.ch.map (fun k=>((cl D s n k:Nat):Int))↔eqk D D (n+1) a.t b.t):=by
  have pa:=hG.pl a (List.mem_of_getElem? ha)
  have pb:=hG.pl b (List.mem_of_getElem? hb)
  obtain⟨a',h1,h2,h3⟩:=hG.ok i (List.getElem?_eq_some_iff.1 ha).1
  obtain⟨b',g1,g2,g3⟩:=hG.ok j (List.getElem?_eq_some_iff.1 hb).1
  rw[ha] at h1;cases h1
  rw[hb] at g1;cases g1
  have key:(kids D a.t).length=(kids D b.t).length->((∀ (q:Nat) (c d:Ty),(kids D a.t)[q]? =some c->(kids D b.t)[q]? =some d->eqk D D n c d)↔(a.ch.map (fun k=>((cl D s n k:Nat):Int))=b.ch.map (fun k=>((cl D s n k:Nat):Int)))):=by
    intro hl
    have one:∀ (q:Nat) (c d:Ty) (m m':Nat),(kids D a.t)[q]? =some c->(kids D b.t)[q]? =some d->a.ch[q]? =some m->b.ch[q]? =some m'->(cl D s n m=cl D s n m'↔eqk D D n c d):=by
      intro q c d m m' hc hd hm hm'
      obtain⟨x,h4,h5⟩:=h3 q c m hc hm
      obtain⟨y,g4,g5⟩:=g3 q d m' hd hm'
      rw[ih m m' x y h4 g4]
      have ex:=ut hD n (hG.pl x (List.mem_of_getElem? h4)) (yI hD pa (List.mem_of_getElem? hc)) h5
      have ey:=ut hD n (hG.pl y (List.mem_of_getElem? g4)) (yI hD pb (List.mem_of_getElem? hd)) g5
      exact⟨fun h=>JN (YQ ex) (JN h ey),fun h=>JN ex (JN h (YQ ey))⟩
    constructor
    · intro h
      apply List.ext_getElem?
      intro q
      simp only[List.getElem?_map]
      rcases Nat.lt_or_ge q a.ch.length with hq|hq
      · have hq1:q<(kids D a.t).length:=by omega
        have hq2:q<(kids D b.t).length:=by omega
        have hq3:q<b.ch.length:=by omega
        have:=(one q _ _ _ _ (List.getElem?_eq_getElem hq1) (List.getElem?_eq_getElem hq2) (List.getElem?_eq_getElem hq) (List.getElem?_eq_getElem hq3)).2 (h q _ _ (List.getElem?_eq_getElem hq1) (List.getElem?_eq_getElem hq2))
        rw[List.getElem?_eq_getElem hq,List.getElem?_eq_getElem hq3]
        simp only[Option.map_some,this]
      · rw[List.getElem?_eq_none hq,List.getElem?_eq_none (by omega)]
    · intro h q c d hc hd
      have hq1:=(List.getElem?_eq_some_iff.1 hc).1
      have hq:q<a.ch.length:=by omega
      have hq3:q<b.ch.length:=by omega
      refine(one q c d _ _ hc hd (List.getElem?_eq_getElem hq) (List.getElem?_eq_getElem hq3)).1 ?_
      have:=congrArg (fun l=>l[q]?) h
      simp only[List.getElem?_map,List.getElem?_eq_getElem hq,List.getElem?_eq_getElem hq3,Option.map_some,Option.some.injEq] at this
      exact Int.ofNat_inj.1 this
  constructor
  · intro h
    obtain⟨l1,l2,l3⟩:=jfd pa pb h
    exact⟨l1,l3,(key l3).2 l2⟩
  · rintro⟨l1,l2,l3⟩
    rw[l1,(key l2).1 l3]
theorem qz {D:List Dd} (hD:dtB D=true) {s:List Nd} (hG:Gr D s):∀ (n i j:Nat) (a b:Nd),s[i]? =some a->s[j]? =some b->(cl D s n i=cl D s n j↔eqk D D n a.t b.t)
 |0,i,j,a,b,ha,hb=>by
  have h1:=(List.getElem?_eq_some_iff.1 ha).1
  have h2:=(List.getElem?_eq_some_iff.1 hb).1
  simp[cl,j9,List.getD_eq_getElem?_getD,List.getElem?_replicate,h1,h2,eqk]
 |n+1,i,j,a,b,ha,hb=>by
  unfold cl
  rw[j9,jbk (yv ha) (yv hb)]
  exact qi hD hG n (qz hD hG n) ha hb
theorem Xp {P Q:List (List Int)} (hr:∀ (i j:Nat) (x y u v:List Int),P[i]? =some x->P[j]? =some y->Q[i]? =some u->Q[j]? =some v->x=y->u=v) (hl:P.length=Q.length) (hc:(JC P []).length=(JC Q []).length) {i j:Nat} {x y u:List Int} (hx:P[i]? =some x) (hy:P[j]? =some y) (hu:Q[i]? =some u) (hv:Q[j]? =some u):x=y:=by
 have hf:∀ (i:Nat) (x u:List Int),P[i]? =some x->Q[i]? =some u->Q.getD (P.idxOf x) []=u:=by
  intro i x u hx hu
  have h1:=List.idxOf_lt_length_of_mem (List.mem_of_getElem? hx)
  have e1:=List.getElem_idxOf h1
  have h2:P.idxOf x<Q.length:=by omega
  rw[List.getD_eq_getElem?_getD,List.getElem?_eq_getElem h2,Option.getD_some]
  exact hr (P.idxOf x) i x x _ u (by rw[List.getElem?_eq_getElem h1,e1]) hx (List.getElem?_eq_getElem h2) hu rfl
 have hsub:∀ z,z∈JC Q []->z∈(JC P []).map fun x=>Q.getD (P.idxOf x) []:=by
  intro z hz
  rcases uniq_mem.1 hz with hz|hz
  ·obtain⟨k,hk⟩:=List.getElem?_of_mem hz
   have hkl:k<P.length:=by have:=(List.getElem?_eq_some_iff.1 hk).1;omega
   refine List.mem_map.2 ⟨P[k],uniq_mem.2 (.inl (List.getElem_mem hkl)),hf k _ z (List.getElem?_eq_getElem hkl) hk⟩
  ·cases hz
 have hnd:=uw (GN List.nodup_nil) hsub (by rw[List.length_map];omega)
 obtain⟨p,hp⟩:=List.getElem?_of_mem (show x∈JC P [] from uniq_mem.2 (.inl (List.mem_of_getElem? hx)))
 obtain⟨q,hq⟩:=List.getElem?_of_mem (show y∈JC P [] from uniq_mem.2 (.inl (List.mem_of_getElem? hy)))
 have e1:=hf i x u hx hu
 have e2:=hf j y u hy hv
 have hpl:=(List.getElem?_eq_some_iff.1 hp).1
 have hql:=(List.getElem?_eq_some_iff.1 hq).1
 have hh:∀ a b:Nat,a<b->∀ (ha:a<(JC P []).length) (hb:b<(JC P []).length),Q.getD (P.idxOf (JC P [])[a]) []≠Q.getD (P.idxOf (JC P [])[b]) []:=by
  intro a b hab ha hb
  have:=List.pairwise_iff_getElem.1 hnd a b (by simpa using ha) (by simpa using hb) hab
  simpa using this
 have ep:(JC P [])[p]=x:=(List.getElem?_eq_some_iff.1 hp).2
 have eq:(JC P [])[q]=y:=(List.getElem?_eq_some_iff.1 hq).2
 rcases Nat.lt_trichotomy p q with h|h|h
 ·have:=hh p q h hpl hql
  rw[ep,eq,e1,e2] at this
  exact absurd rfl this
 ·subst h
  rw[<- ep, <- eq]
 ·have:=hh q p h hql hpl
  rw[ep,eq,e1,e2] at this
  exact absurd rfl this
theorem oy {D:List Dd} (hD:dtB D=true) {s:List Nd} (hG:Gr D s) (n:Nat):∀ (i j:Nat) (x y u v:List Int),(yk D s (j9 D s (n+1)))[i]? =some x->(yk D s (j9 D s (n+1)))[j]? =some y->(yk D s (j9 D s n))[i]? =some u->(yk D s (j9 D s n))[j]? =some v->x=y->u=v:=by
 intro i j x y u v hx hy hu hv e
 have hi:=(List.getElem?_eq_some_iff.1 hx).1
 have hj:=(List.getElem?_eq_some_iff.1 hy).1
 simp only[yk,List.length_map] at hi hj
 rw[yv (List.getElem?_eq_getElem hi)] at hx hu
 rw[yv (List.getElem?_eq_getElem hj)] at hy hv
 cases hx;cases hy;cases hu;cases hv
 have h1:=(qi hD hG (n+1) (qz hD hG (n+1)) (List.getElem?_eq_getElem hi) (List.getElem?_eq_getElem hj)).1 e
 exact(qi hD hG n (qz hD hG n) (List.getElem?_eq_getElem hi) (List.getElem?_eq_getElem hj)).2 (G6 h1)
theorem jgu {D:List Dd} (hD:dtB D=true) {s:List Nd} (hG:Gr D s) (n:Nat):yD D s n<=yD D s (n+1):=by
 have hr:=oy hD hG n
 unfold yD
 have hl:(yk D s (j9 D s (n+1))).length=(yk D s (j9 D s n)).length:=by simp[yk]
 generalize yk D s (j9 D s (n+1))=P at*
 generalize yk D s (j9 D s n)=Q at*
 have:(JC Q []).length<=((JC P []).map fun x=>Q.getD (P.idxOf x) []).length:=by
  refine qn (GN List.nodup_nil) ?_
  intro z hz
  rcases uniq_mem.1 hz with hz|hz
  ·obtain⟨k,hk⟩:=List.getElem?_of_mem hz
   have hkl:k<P.length:=by have:=(List.getElem?_eq_some_iff.1 hk).1;omega
   refine List.mem_map.2 ⟨P[k],uniq_mem.2 (.inl (List.getElem_mem hkl)),?_⟩
   have h1:=List.idxOf_lt_length_of_mem (List.getElem_mem hkl)
   have e1:=List.getElem_idxOf h1
   have h2:P.idxOf P[k]<Q.length:=by omega
   rw[List.getD_eq_getElem?_getD,List.getElem?_eq_getElem h2,Option.getD_some]
   exact hr (P.idxOf P[k]) k P[k] P[k] _ z (by rw[List.getElem?_eq_getElem h1,e1]) (List.getElem?_eq_getElem hkl) (List.getElem?_eq_getElem h2) hk rfl
  ·cases hz
 rwa [List.length_map] at this
theorem jb1 (D:List Dd) (s:List Nd) (n:Nat):yD D s n<=s.length:=by
 have:=oI (l:=yk D s (j9 D s n)) (o:=[])
 unfold yD
 simpa [yk] using this
theorem Xt {D:List Dd} (hD:dtB D=true) {s:List Nd} (hG:Gr D s) {n:Nat} (hc:yD D s (n+1)=yD D s n) {i j:Nat} {a b:Nd} (ha:s[i]? =some a) (hb:s[j]? =some b):(cl D s (n+2) i=cl D s (n+2) j↔bis D D a.t b.t):=by
 have h0:∀ (i j:Nat) (a b:Nd),s[i]? =some a->s[j]? =some b->eqk D D (n+1) a.t b.t->eqk D D (n+2) a.t b.t:=by
  intro i j a b ha hb h
  have e:=(qi hD hG n (qz hD hG n) ha hb).2 h
  refine(qi hD hG (n+1) (qz hD hG (n+1)) ha hb).1 ?_
  refine Xp (oy hD hG n) (by simp[yk]) hc (yv ha) (yv hb) (yv ha) ?_
  rw[yv hb]
  exact congrArg some e.symm
 have hup:∀ (m:Nat) (i j:Nat) (a b:Nd),s[i]? =some a->s[j]? =some b->eqk D D (n+1+m) a.t b.t->eqk D D (n+1+m+1) a.t b.t:=by
  intro m
  induction m with
  |zero=>exact h0
  |succ m ih=>
   intro i j a b ha hb h
   obtain⟨h1,h2,h3⟩:=h
   refine⟨h1,h2,fun q c d hc hd=>?_⟩
   obtain⟨a',p1,p2,p3⟩:=hG.ok i (List.getElem?_eq_some_iff.1 ha).1
   obtain⟨b',g1,g2,g3⟩:=hG.ok j (List.getElem?_eq_some_iff.1 hb).1
   rw[ha] at p1;cases p1
   rw[hb] at g1;cases g1
   have hq1:=(List.getElem?_eq_some_iff.1 hc).1
   have hq2:=(List.getElem?_eq_some_iff.1 hd).1
   have hq:q<a.ch.length:=by omega
   have hq3:q<b.ch.length:=by omega
   obtain⟨x,h4,h5⟩:=p3 q c _ hc (List.getElem?_eq_getElem hq)
   obtain⟨y,g4,g5⟩:=g3 q d _ hd (List.getElem?_eq_getElem hq3)
   have pa:=hG.pl a (List.mem_of_getElem? ha)
   have pb:=hG.pl b (List.mem_of_getElem? hb)
   have ex:=GC hD (hG.pl x (List.mem_of_getElem? h4)) (yI hD pa (List.mem_of_getElem? hc)) h5
   have ey:=GC hD (hG.pl y (List.mem_of_getElem? g4)) (yI hD pb (List.mem_of_getElem? hd)) g5
   have:=ih _ _ x y h4 g4 (JN (ex _) (JN (h3 q c d hc hd) (YQ (ey _))))
   exact JN (YQ (ex _)) (JN this (ey _))
 rw[qz hD hG (n+2) i j a b ha hb]
 constructor
 ·intro h m
  have hall:∀ m,eqk D D (n+1+m) a.t b.t:=by
   intro m
   induction m with
   |zero=>exact G6 h
   |succ m ih=>exact hup m i j a b ha hb ih
  have hdown:∀ k,eqk D D (m+k) a.t b.t->eqk D D m a.t b.t:=by
   intro k
   induction k with
   |zero=>exact fun h=>h
   |succ k ih=>exact fun h=>ih (G6 h)
  have:=hall m
  rw[Nat.add_comm (n+1) m] at this
  exact hdown _ this
 ·exact fun h=>h _
end Go.Gl

namespace Go.Gl
open Go Go.Am Go.Hv
def jH (cls:Nat->Nat):List Nat->List Nat->List Nat×List Nat
 | [],o=>(o,[])
 |c::r,o=>((jH cls r (if cls c∈o.map cls then o else o++[c])).1,((if cls c∈o.map cls then o else o++[c]).map cls).idxOf (cls c)::(jH cls r (if cls c∈o.map cls then o else o++[c])).2)
def Qq:List Nat->List Int->List Int
 | [],_=>[]
 |n::r,l=>(n:Int)::(l.take n++Qq r (l.drop n))
def blk (D:List Dd) (t:Ty) (l:List Int):List Int:=match vsO D t with|some x=>[t.kind,x.dr,(x.vs.length:Int)]++Qq (x.vs.map fun v=>v.fs.length) l|none=>t.kind::l
def chO (s:List Nd) (i:Nat):List Nat:=match s[i]? with|some n=>n.ch|none=>[]
def tyO (s:List Nd) (i:Nat):Ty:=match s[i]? with|some n=>n.t|none=> .mk 0 0 []
def shS (s:List Nd) (cls:Nat->Nat) (root:Nat):Nat->List Nat×List (Nat×List Nat)
 |0=>([root],[])
 |k+1=>match (shS s cls root k).1[k]? with
  |some i=>((jH cls (chO s i) (shS s cls root k).1).1,(shS s cls root k).2++[(i,(jH cls (chO s i) (shS s cls root k).1).2)])
  |none=>shS s cls root k
def nI (l:List Nat):List Int:=l.map fun i=>Int.ofNat i
def yz (D:List Dd) (s:List Nd) (l:List (Nat×List Nat)):List Int:=l.flatMap fun p=>blk D (tyO s p.1) (nI p.2)
theorem GJ (cls:Nat->Nat):∀ (l o:List Nat),∃ r,(jH cls l o).1=o++r/\∀ x,x∈r->x∈l
 | [],o=>⟨[],by simp[jH]⟩
 |c::l,o=>by
  rw[jH]
  obtain⟨r,h,g⟩:=GJ cls l (if cls c∈o.map cls then o else o++[c])
  split at h
  ·rename_i hc
   simp only[if_pos hc] at h ⊢
   exact⟨r,h,fun x hx=>List.mem_cons_of_mem _ (g x hx)⟩
  ·rename_i hc
   simp only[if_neg hc] at h ⊢
   exact⟨c::r,by rw[h,List.append_assoc];rfl,fun x hx=>by
    rcases List.mem_cons.1 hx with rfl|hx
    ·simp
    ·exact List.mem_cons_of_mem _ (g x hx)⟩
theorem OW (cls:Nat->Nat):∀ (l o:List Nat),(o.map cls).Nodup->((jH cls l o).1.map cls).Nodup
 | [],o,h=>h
 |c::l,o,h=>by
  rw[jH]
  refine OW cls l _ ?_
  split
  ·exact h
  ·rename_i hc
   rw[List.map_append,List.nodup_append]
   exact⟨h,by simp,fun a ha b hb=>by simp at hb;subst hb;rintro rfl;exact hc ha⟩
theorem gt (cls:Nat->Nat):∀ (l o:List Nat),(jH cls l o).2.length=l.length/\∀ (q c j:Nat),l[q]? =some c->(jH cls l o).2[q]? =some j->∃ i,(jH cls l o).1[j]? =some i/\cls i=cls c
 | [],o=>⟨rfl,fun q c j h=>by simp at h⟩
 |c::l,o=>by
  rw[jH]
  have ho:cls c∈(if cls c∈o.map cls then o else o++[c]).map cls:=by
   split
   ·rename_i h;exact h
   ·simp
  generalize (if cls c∈o.map cls then o else o++[c])=o1 at*
  obtain⟨h1,h2⟩:=gt cls l o1
  obtain⟨r,h3,_⟩:=GJ cls l o1
  refine⟨by simp[h1],fun q x j hq hj=>?_⟩
  match q,hq,hj with
  |0,hq,hj=>
   simp at hq hj
   subst hq hj
   have hl:=List.idxOf_lt_length_of_mem ho
   have e:=List.getElem_idxOf hl
   rw[List.length_map] at hl
   rw[List.getElem_map] at e
   exact⟨o1[List.idxOf (cls c) (List.map cls o1)],by simp only[h3];rw[List.getElem?_append_left hl,List.getElem?_eq_getElem hl],e⟩
  |q+1,hq,hj=>
   simp at hq hj
   exact h2 q x j hq hj
structure ShI (s:List Nd) (cls:Nat->Nat) (root k:Nat) (o:List Nat) (l:List (Nat×List Nat)):Prop where
 lt:∀ i,i∈o->i<s.length
 nd:(o.map cls).Nodup
 rt:o[0]? =some root
 len:l.length=min k o.length
 log:∀ (q i:Nat) (n:List Nat),l[q]? =some (i,n)->o[q]? =some i/\n.length=(chO s i).length/\∀ (p c j:Nat),(chO s i)[p]? =some c->n[p]? =some j->∃ x,o[j]? =some x/\cls x=cls c
theorem Xq {D:List Dd} {s:List Nd} (hG:Gr D s) {cls:Nat->Nat} {root:Nat} (hr:root<s.length):∀ k,ShI s cls root k (shS s cls root k).1 (shS s cls root k).2
 |0=>⟨fun i hi=>by simp[shS] at hi;subst hi;exact hr,by simp[shS],rfl,by simp[shS],fun q i n h=>by simp[shS] at h⟩
 |k+1=>by
  have ih:=Xq (cls:=cls) hG hr k
  rw[shS]
  generalize shS s cls root k=z at*
  obtain⟨o,l⟩:=z
  simp only at ih ⊢
  cases ho:o[k]? with
  |none=>
   have hk:o.length<=k:=List.getElem?_eq_none_iff.1 ho
   exact⟨ih.lt,ih.nd,ih.rt,by have:=ih.len;simp only;omega,ih.log⟩
  |some i=>
   have hk:=(List.getElem?_eq_some_iff.1 ho).1
   have hi:=ih.lt i (List.mem_of_getElem? ho)
   obtain⟨r,e,hr2⟩:=GJ cls (chO s i) o
   have hnum:=gt cls (chO s i) o
   have hch:∀ c,c∈chO s i->c<s.length:=by
    intro c hc
    obtain⟨n,h1,h2,h3⟩:=hG.ok i hi
    unfold chO at hc
    rw[h1] at hc
    obtain⟨q,hq⟩:=List.getElem?_of_mem hc
    have hql:q<(kids D n.t).length:=by rw[<- h2];exact(List.getElem?_eq_some_iff.1 hq).1
    obtain⟨n',h4,_⟩:=h3 q _ c (List.getElem?_eq_getElem hql) hq
    exact(List.getElem?_eq_some_iff.1 h4).1
   have hlen:=ih.len
   refine⟨fun x hx=>?_,OW cls _ o ih.nd,?_,?_,fun q x n hq=>?_⟩
   ·simp only[e] at hx
    rcases List.mem_append.1 hx with hx|hx
    ·exact ih.lt x hx
    ·exact hch x (hr2 x hx)
   ·rw[e,List.getElem?_append_left (by omega)]
    exact ih.rt
   ·simp only[e,List.length_append,List.length_singleton]
    omega
   ·simp only at hq ⊢
    rcases Nat.lt_or_ge q l.length with hql|hql
    ·rw[List.getElem?_append_left hql] at hq
     obtain⟨a1,a2,a3⟩:=ih.log q x n hq
     have ext:∀ (j y:Nat),o[j]? =some y->(o++r)[j]? =some y:=fun j y hy=>by rw[List.getElem?_append_left (List.getElem?_eq_some_iff.1 hy).1,hy]
     rw[e]
     exact⟨ext _ _ a1,a2,fun p c j hp hj=>by obtain⟨y,b1,b2⟩:=a3 p c j hp hj;exact⟨y,ext _ _ b1,b2⟩⟩
    ·rw[List.getElem?_append_right hql] at hq
     have hq0:q - l.length=0:=by have:=(List.getElem?_eq_some_iff.1 hq).1;simp at this;omega
     rw[hq0] at hq
     simp only[List.getElem?_cons_zero,Option.some.injEq,Prod.mk.injEq] at hq
     obtain⟨rfl,rfl⟩:=hq
     have hqk:q=k:=by omega
     subst hqk
     refine⟨by rw[e,List.getElem?_append_left hk];exact ho,hnum.1,hnum.2⟩
theorem jfr {s:List Nd} {cls:Nat->Nat} {root k:Nat} {o:List Nat} {l:List (Nat×List Nat)} (h:ShI s cls root k o l):o.length<=s.length:=by
 have hn:o.Nodup:=by
  have:=h.nd
  exact List.Pairwise.imp (fun {a b} hab e=>hab (by rw[e])) (List.pairwise_map.1 this)
 have:=qn hn (b:=List.range s.length) (fun x hx=>List.mem_range.2 (h.lt x hx))
 simpa using this
theorem jaj {s:List Nd} {cls:Nat->Nat} {root k:Nat} (h:(shS s cls root k).1.length<=k):∀ m,shS s cls root (k+m)=shS s cls root k
 |0=>rfl
 |m+1=>by
  have ih:=jaj h m
  rw[show k+(m+1)=(k+m)+1 from rfl,shS,ih]
  rw[List.getElem?_eq_none (by omega)]
theorem Qj:∀ {a b:List Nat} {x y:Nat},a.length=b.length->(∀ (j p q:Nat),a[j]? =some p->b[j]? =some q->(p=x↔q=y))->a.idxOf x=b.idxOf y
 | [],[],_,_,_,_=>rfl
 | [],_::_,_,_,h,_=>by cases h
 |_::_,[],_,_,h,_=>by cases h
 |p::a,q::b,x,y,hl,h=>by
  have h0:=h 0 p q rfl rfl
  have ih:=Qj (a:=a) (b:=b) (x:=x) (y:=y) (by simpa using hl) (fun j u v hu hv=>h (j+1) u v (by simpa using hu) (by simpa using hv))
  rw[List.idxOf_cons,List.idxOf_cons,ih]
  have e:(p==x)=(q==y):=by
   by_cases hp:p=x
   ·have hq:=h0.1 hp
    simp[hp,hq]
   ·have hq:¬ q=y:=fun e=>hp (h0.2 e)
    rw[beq_eq_false_iff_ne.2 hp,beq_eq_false_iff_ne.2 hq]
  rw[e]
theorem OJ:∀ {a b:List Nat} {x y:Nat},a.length=b.length->(∀ (j p q:Nat),a[j]? =some p->b[j]? =some q->(p=x↔q=y))->(x∈a↔y∈b)
 | [],[],_,_,_,_=>by simp
 | [],_::_,_,_,h,_=>by cases h
 |_::_,[],_,_,h,_=>by cases h
 |p::a,q::b,x,y,hl,h=>by
  have h0:=h 0 p q rfl rfl
  have ih:=OJ (a:=a) (b:=b) (x:=x) (y:=y) (by simpa using hl) (fun j u v hu hv=>h (j+1) u v (by simpa using hu) (by simpa using hv))
  rw[List.mem_cons,List.mem_cons,ih]
  constructor
  ·rintro(h1|h1)
   ·exact .inl (h0.1 h1.symm).symm
   ·exact .inr h1
  ·rintro(h1|h1)
   ·exact .inl (h0.2 h1.symm).symm
   ·exact .inr h1
def Rl (D E:List Dd) (s s':List Nd) (i j:Nat):Prop:=∃ a b,s[i]? =some a/\s'[j]? =some b/\bis D E a.t b.t
def RlL (D E:List Dd) (s s':List Nd) (o o':List Nat):Prop:=o.length=o'.length/\∀ (j p q:Nat),o[j]? =some p->o'[j]? =some q->Rl D E s s' p q
def YN (D:List Dd) (s:List Nd) (cls:Nat->Nat):Prop:=∀ (i j:Nat) (a b:Nd),s[i]? =some a->s[j]? =some b->(cls i=cls j↔bis D D a.t b.t)
theorem jia {D E:List Dd} {s s':List Nd} {cls cls':Nat->Nat} (hc:YN D s cls) (hc':YN E s' cls') {i j p q:Nat} (h:Rl D E s s' i p) (g:Rl D E s s' j q):cls i=cls j↔cls' p=cls' q:=by
 obtain⟨a,b,h1,h2,h3⟩:=h
 obtain⟨c,d,g1,g2,g3⟩:=g
 rw[hc i j a c h1 g1,hc' p q b d h2 g2]
 exact⟨fun h=>Jo (Ys h3) (Jo h g3),fun h=>Jo h3 (Jo h (Ys g3))⟩
theorem xb {D E:List Dd} {s s':List Nd} {cls cls':Nat->Nat} (hc:YN D s cls) (hc':YN E s' cls'):∀ (l l' o o':List Nat),RlL D E s s' l l'->RlL D E s s' o o'->RlL D E s s' (jH cls l o).1 (jH cls' l' o').1/\(jH cls l o).2=(jH cls' l' o').2
 | [],[],o,o',_,ho=>⟨ho,rfl⟩
 | [],_::_,_,_,h,_=>by cases h.1
 |_::_,[],_,_,h,_=>by cases h.1
 |c::l,d::l',o,o',h,ho=>by
  have hcd:=h.2 0 c d rfl rfl
  have hl:RlL D E s s' l l':=⟨by simpa using h.1,fun j p q hp hq=>h.2 (j+1) p q (by simpa using hp) (by simpa using hq)⟩
  have hpt:∀ (o o':List Nat),RlL D E s s' o o'->(o.map cls).length=(o'.map cls').length/\∀ (j p q:Nat),(o.map cls)[j]? =some p->(o'.map cls')[j]? =some q->(p=cls c↔q=cls' d):=by
   intro o o' ho
   refine⟨by simp[ho.1],fun j p q hp hq=>?_⟩
   rw[List.getElem?_map] at hp hq
   obtain⟨x,hx,rfl⟩:=Option.map_eq_some_iff.1 hp
   obtain⟨y,hy,rfl⟩:=Option.map_eq_some_iff.1 hq
   exact jia hc hc' (ho.2 j x y hx hy) hcd
  have hm:=OJ (hpt o o' ho).1 (hpt o o' ho).2
  have ho1:RlL D E s s' (if cls c∈o.map cls then o else o++[c]) (if cls' d∈o'.map cls' then o' else o'++[d]):=by
   by_cases hh:cls c∈o.map cls
   ·rw[if_pos hh,if_pos (hm.1 hh)];exact ho
   ·rw[if_neg hh,if_neg (fun g=>hh (hm.2 g))]
    refine⟨by simp[ho.1],fun j p q hp hq=>?_⟩
    rcases Nat.lt_or_ge j o.length with hj|hj
    ·rw[List.getElem?_append_left hj] at hp
     rw[List.getElem?_append_left (by have:=ho.1;omega)] at hq
     exact ho.2 j p q hp hq
    ·rw[List.getElem?_append_right hj] at hp
     rw[List.getElem?_append_right (by have:=ho.1;omega), <- ho.1] at hq
     have hj0:j - o.length=0:=by have:=(List.getElem?_eq_some_iff.1 hp).1;simp at this;omega
     rw[hj0] at hp hq
     cases hp;cases hq
     exact hcd
  rw[jH,jH]
  generalize (if cls c∈o.map cls then o else o++[c])=u at*
  generalize (if cls' d∈o'.map cls' then o' else o'++[d])=v at*
  obtain⟨r1,r2⟩:=xb hc hc' l l' u v hl ho1
  exact⟨r1,by simp only;rw[r2,Qj (hpt u v ho1).1 (hpt u v ho1).2]⟩
theorem jjY {D E:List Dd} (hD:dtB D=true) (hE:dtB E=true) {s s':List Nd} (hG:Gr D s) (hG':Gr E s') {i j:Nat} (h:Rl D E s s' i j):RlL D E s s' (chO s i) (chO s' j):=by
 obtain⟨a,b,h1,h2,h3⟩:=h
 obtain⟨a',p1,p2,p3⟩:=hG.ok i (List.getElem?_eq_some_iff.1 h1).1
 obtain⟨b',g1,g2,g3⟩:=hG'.ok j (List.getElem?_eq_some_iff.1 h2).1
 rw[h1] at p1;cases p1
 rw[h2] at g1;cases g1
 have e1:chO s i=a.ch:=by unfold chO;rw[h1]
 have e2:chO s' j=b.ch:=by unfold chO;rw[h2]
 have hl:=jeu h3
 rw[e1,e2]
 refine⟨by omega,fun q m m' hm hm'=>?_⟩
 have hq1:=(List.getElem?_eq_some_iff.1 hm).1
 have hk1:q<(kids D a.t).length:=by omega
 have hk2:q<(kids E b.t).length:=by omega
 obtain⟨x,h4,h5⟩:=p3 q _ m (List.getElem?_eq_getElem hk1) hm
 obtain⟨y,g4,g5⟩:=g3 q _ m' (List.getElem?_eq_getElem hk2) hm'
 have pa:=hG.pl a (List.mem_of_getElem? h1)
 have pb:=hG'.pl b (List.mem_of_getElem? h2)
 have ex:=GC hD (hG.pl x (List.mem_of_getElem? h4)) (yI hD pa (List.getElem_mem hk1)) h5
 have ey:=GC hE (hG'.pl y (List.mem_of_getElem? g4)) (yI hE pb (List.getElem_mem hk2)) g5
 exact⟨x,y,h4,g4,Jo ex (Jo (jet h3 (List.getElem?_eq_getElem hk1) (List.getElem?_eq_getElem hk2)) (Ys ey))⟩
theorem jev {D E:List Dd} {t u:Ty} (ht:Pl D t) (hu:Pl E u) (h:lab D t=lab E u) (l:List Int):blk D t l=blk E u l:=by
 have hk:t.kind=u.kind:=by
  have h1:=qd D t
  rw[h,qd] at h1
  exact(Option.some.inj h1).symm
 unfold blk
 by_cases h2:t.kind=2
 ·obtain⟨a,ha⟩:=yy ht h2
  obtain⟨b,hb⟩:=yy hu (by omega)
  rw[yT ha,yT hb] at h
  simp only[List.cons_append,List.nil_append,List.cons.injEq,true_and] at h
  obtain⟨h3,h4,h5⟩:=h
  rw[ha,hb]
  simp only
  rw[hk,h3,h4]
  have:a.vs.map (fun v=>v.fs.length)=b.vs.map (fun v=>v.fs.length):=by
   have e:∀ l m:List Dv,l.map (fun v=>(v.fs.length:Int))=m.map (fun v=>(v.fs.length:Int))->l.map (fun v=>v.fs.length)=m.map (fun v=>v.fs.length):=by
    intro l m h
    have:=congrArg (List.map Int.toNat) h
    simpa [List.map_map,Function.comp_def] using this
   exact e _ _ h5
  rw[this]
 ·unfold vsO
  rw[if_neg h2,if_neg (by omega)]
  simp only[hk]
theorem jdL {D E:List Dd} (hD:dtB D=true) (hE:dtB E=true) {s s':List Nd} (hG:Gr D s) (hG':Gr E s') {cls cls':Nat->Nat} (hc:YN D s cls) (hc':YN E s' cls') {r r':Nat} (hr:Rl D E s s' r r'):∀ k,RlL D E s s' (shS s cls r k).1 (shS s' cls' r' k).1/\yz D s (shS s cls r k).2=yz E s' (shS s' cls' r' k).2
  | 0 => ⟨⟨rfl, fun j p q hp hq => by
      match j,hp,hq with
      |0,hp,hq=>cases hp;cases hq;exact hr⟩,rfl⟩
  |k+1=>by
    obtain⟨h1,h2⟩:=jdL hD hE hG hG' hc hc' hr k
    rw[shS,shS]
    generalize shS s cls r k=z at*
    generalize shS s' cls' r' k=z' at*
    obtain⟨o,l⟩:=z
    obtain⟨o',l'⟩:=z'
    simp only at h1 h2 ⊢
    cases ho:o[k]? with
    |none=>
      have:o'[k]? =none:=by rw[List.getElem?_eq_none_iff] at ho ⊢;have:=h1.1;omega
      rw[this]
      exact⟨h1,h2⟩
    |some i=>
      have hk:=(List.getElem?_eq_some_iff.1 ho).1
      obtain⟨j,hj⟩:∃ j,o'[k]? =some j:=⟨_,List.getElem?_eq_getElem (by have:=h1.1;omega)⟩
      rw[hj]
      have hij:=h1.2 k i j ho hj
      obtain⟨r1,r2⟩:=xb hc hc' _ _ _ _ (jjY hD hE hG hG' hij) h1
      refine⟨r1,?_⟩
      obtain⟨a,b,g1,g2,g3⟩:=hij
      simp only[yz,List.flatMap_append,List.flatMap_cons,List.flatMap_nil,List.append_nil]
      rw[show List.flatMap (fun p=>blk D (tyO s p.1) (nI p.2)) l=List.flatMap (fun p=>blk E (tyO s' p.1) (nI p.2)) l' from h2,r2]
      congr 1
      have e1:tyO s i=a.t:=by unfold tyO;rw[g1]
      have e2:tyO s' j=b.t:=by unfold tyO;rw[g2]
      rw[e1,e2]
      exact jev (hG.pl a (List.mem_of_getElem? g1)) (hG'.pl b (List.mem_of_getElem? g2)) (XE g3) _
theorem OG:∀ l:List Dv,(l.map fun v=>v.fs.length).sum=(l.flatMap Dv.fs).length
 | []=>rfl
 |v::l=>by simp only[List.map_cons,List.sum_cons,List.flatMap_cons,List.length_append,OG l]
theorem uT {s:List Nd} {i:Nat} {a:Nd} (h:s[i]? =some a):tyO s i=a.t:=by unfold tyO;rw[h]
theorem xB {s:List Nd} {i:Nat} {a:Nd} (h:s[i]? =some a):chO s i=a.ch:=by unfold chO;rw[h]

def tx (l:List UInt8):ByteArray:=⟨l.toArray⟩
theorem jar (l:List UInt8):(tx l).data.toList=l:=by simp[tx]
theorem uR {a b:List UInt8} (h:tx a=tx b):a=b:=by rw[<- jar a,h,jar]
theorem gW (a b:List UInt8):tx a++tx b=tx (a++b):=by
 apply ByteArray.ext
 apply Array.toList_inj.1
 simp[tx,ByteArray.data_append]
@[go_sem] theorem jnq (a:List UInt8):(tx a).size=a.length:=by simp[tx,ByteArray.size]
def dg (u:Nat):UInt8:=UInt8.ofNat (48+u % 10)
theorem uf {u:Nat} (h:¬ u<10):Lib.decDigits u=Lib.decDigits (u / 10)++[dg u]:=by rw[Lib.decDigits,dif_neg h];rfl
theorem xI {u:Nat} (h:u<10):Lib.decDigits u=[dg u]:=by rw[Lib.decDigits,dif_pos h,dg,Nat.mod_eq_of_lt h]
def jce (l:List UInt8):Nat:=l.foldl (fun n b=>n*10+(b.toNat - 48)) 0
theorem jaQ (l:List UInt8) (b:UInt8):jce (l++[b])=jce l*10+(b.toNat - 48):=by simp[jce]
theorem QV (u:Nat):(dg u).toNat=48+u % 10:=by
 rw[dg,UInt8.toNat_ofNat']
 exact Nat.mod_eq_of_lt (by omega)
theorem uh:∀ (N u:Nat),u<N->jce (Lib.decDigits u)=u
 |0,_,h=>by omega
 |N+1,u,h=>by
  by_cases h10:u<10
  ·rw[xI h10]
   have:=QV u
   simp only[jce,List.foldl]
   omega
  ·rw[uf h10,jaQ,uh N (u / 10) (by omega),QV]
   omega
theorem ue:∀ (N u:Nat),u<N->∃ b l,Lib.decDigits u=b::l/\48<=b.toNat
 |0,_,h=>by omega
 |N+1,u,h=>by
  by_cases h10:u<10
  ·exact⟨dg u,[],xI h10,by rw[QV];omega⟩
  ·obtain⟨b,l,e,hb⟩:=ue N (u / 10) (by omega)
   exact⟨b,l++[dg u],by rw[uf h10,e];rfl,hb⟩
theorem jb6 {u v:Nat} (h:Lib.decDigits u=Lib.decDigits v):u=v:=by
 rw[<- uh (u+1) u (by omega),h,uh (v+1) v (by omega)]
theorem jcW {a b:Int} (h:Lib.itoa a=Lib.itoa b):a=b:=by
 unfold Lib.itoa at h
 obtain⟨x,l,e,hx⟩:=ue (a.toNat+1) a.toNat (by omega)
 obtain⟨y,m,e',hy⟩:=ue (b.toNat+1) b.toNat (by omega)
 split at h<;>split at h
 ·have:=jb6 (List.cons.inj h).2;omega
 ·rw[e'] at h
  have:=(List.cons.inj h).1
  subst this
  exact absurd hy (by decide)
 ·rw[e] at h
  have:=(List.cons.inj h).1
  subst this
  exact absurd hx (by decide)
 ·have:=jb6 h;omega
theorem jb7:∀ (N u:Nat),u<N->∀ b,b∈Lib.decDigits u->48<=b.toNat
 |0,_,h=>by omega
 |N+1,u,h=>by
  intro b hb
  by_cases h10:u<10
  ·rw[xI h10] at hb
   simp at hb
   subst hb
   rw[QV];omega
  ·rw[uf h10] at hb
   rcases List.mem_append.1 hb with hb|hb
   ·exact jb7 N (u / 10) (by omega) b hb
   ·simp at hb;subst hb;rw[QV];omega
theorem Q7 (n:Int):(32:UInt8)∉Lib.itoa n:=by
 unfold Lib.itoa
 have h:∀ u,(32:UInt8)∉Lib.decDigits u:=fun u hu=>absurd (jb7 (u+1) u (by omega) 32 hu) (by decide)
 split
 ·intro hh
  rcases List.mem_cons.1 hh with hh|hh
  ·exact absurd hh (by decide)
  ·exact h _ hh
 ·exact h _
def txL (l:List Int):List UInt8:=l.flatMap fun n=>Lib.itoa n++[32]
theorem qq (a b:List Int):txL (a++b)=txL a++txL b:=by simp[txL]
theorem gV (n:Int) (l:List Int):txL (n::l)=Lib.itoa n++32::txL l:=by simp[txL]
theorem jaq:txL []=[]:=rfl
theorem jdQ {a b x y:List UInt8} (ha:(32:UInt8)∉a) (hb:(32:UInt8)∉b) (h:a++32::x=b++32::y):a=b/\x=y:=by
 induction a generalizing b with
 |nil=>
  cases b with
  |nil=>simpa using h
  |cons c b=>
   simp only[List.nil_append,List.cons_append,List.cons.injEq] at h
   exact absurd (by rw[<- h.1];simp) hb
 |cons c a ih=>
  cases b with
  |nil=>
   simp only[List.nil_append,List.cons_append,List.cons.injEq] at h
   exact absurd (by rw[h.1];simp) ha
  |cons d b=>
   simp only[List.cons_append,List.cons.injEq] at h
   obtain⟨h1,h2⟩:=ih (fun hh=>ha (by simp[hh])) (fun hh=>hb (by simp[hh])) h.2
   exact⟨by rw[h.1,h1],h2⟩
theorem Gq:∀ {a b:List Int},txL a=txL b->a=b
 | [],[],_=>rfl
 | [],n::b,h=>by rw[jaq,gV] at h;simp at h
 |n::a,[],h=>by rw[jaq,gV] at h;simp at h
 |n::a,m::b,h=>by
  rw[gV,gV] at h
  obtain⟨h1,h2⟩:=jdQ (Q7 n) (Q7 m) h
  rw[jcW h1,Gq h2]
def kyT:Ky->List UInt8
 | .d i=>100::txL [i]
 | .b k=>98::kyT k
 | .k n=>107::txL [n]
theorem X3:∀ {a b:Ky},kyT a=kyT b->a=b
 | .d i,.d j,h=>by
  simp only[kyT,List.cons.injEq,true_and] at h
  have:=Gq h
  simp at this
  rw[this]
 | .k i,.k j,h=>by
  simp only[kyT,List.cons.injEq,true_and] at h
  have:=Gq h
  simp at this
  rw[this]
 | .b i,.b j,h=>by
  simp only[kyT,List.cons.injEq,true_and] at h
  rw[X3 h]
 | .d i,.b j,h=>by simp[kyT] at h
 | .d i,.k j,h=>by simp[kyT] at h
 | .b i,.d j,h=>by simp[kyT] at h
 | .b i,.k j,h=>by simp[kyT] at h
 | .k i,.d j,h=>by simp[kyT] at h
 | .k i,.b j,h=>by simp[kyT] at h
end Go.Gl

set_option maxHeartbeats 4000000
set_option maxRecDepth 100000
namespace Go.Proofs.YtfpcjabbcpgbjaaDoor
open Go.Am Go.Proofs Go.Hv Go.Gl
open Classical
attribute [local irreducible] AW jA CallB
theorem Gj:∀ (N:Nat) (t:Ty) (D:List Dd) (d:Int),t.sz<=N->D.length<=2 ^ 40-> -(2 ^ 40)<=d->d<=2 ^ 40->PCall Tryd.prog 31 [.sl (ddl D),t.av,.i d] (.bool (plB D t d))
 |0,t,D,d,hs,hD,hd1,hd2=>by rw[Ty.sz_eq] at hs;omega
 |N+1,.mk k i a,D,d,hs,hD,hd1,hd2=>by
  rw[Ty.av_eq]
  simp only[Ty.kind,Ty.id,Ty.args]
  rw[plB]
  by_cases h1:d<1
  ·rw[if_pos h1]
   have q:decide (d<1)=true:=decide_eq_true h1
   refine pI Tryd.func31 Gv fun E Q hE hN hQ=>?_
   repeat'(first|apply nx|refine zx ?_|rw[zw]|refine zk ?_|refine zp ?_|(apply zA;exact zb)|((first|refine zR hE fun hg=>?_|refine zF hE fun hanc hg=>?_|refine zg (fun hg=>?_) fun hg=>?_)<;>simp only[go_sem,q,hg])|(refine zc (fun hc=>?_) (fun hc=>?_)<;>try exact zh hc)|(refine je ?_;refine zt hQ ?_))
   simp[AV.snap]
  rw[if_neg h1]
  have q1:decide (d<1)=false:=decide_eq_false h1
  have e0:(((a.length:Nat):Int)==0)=a.isEmpty:=by cases a<;>simp;omega
  by_cases k1:k=1
  ·subst k1
   rw[if_pos (.inl rfl)]
   refine pI Tryd.func31 Gv fun E Q hE hN hQ=>?_
   repeat'(first|apply nx|refine zx ?_|rw[zw]|refine zk ?_|refine zp ?_|(apply zA;exact zb)|((first|refine zR hE fun hg=>?_|refine zF hE fun hanc hg=>?_|refine zg (fun hg=>?_) fun hg=>?_)<;>simp only[go_sem,q1,e0,beq_self_eq_true,hg])|(refine zc (fun hc=>?_) (fun hc=>?_)<;>try exact zh hc)|(refine je ?_;refine zt hQ ?_))
   simp[AV.snap]
  have p1:(k==1)=false:=by simpa using k1
  by_cases k6:k=6
  ·subst k6
   rw[if_pos (.inr rfl)]
   refine pI Tryd.func31 Gv fun E Q hE hN hQ=>?_
   repeat'(first|apply nx|refine zx ?_|rw[zw]|refine zk ?_|refine zp ?_|(apply zA;exact zb)|((first|refine zR hE fun hg=>?_|refine zF hE fun hanc hg=>?_|refine zg (fun hg=>?_) fun hg=>?_)<;>simp only[go_sem,q1,e0,p1,beq_self_eq_true,hg])|(refine zc (fun hc=>?_) (fun hc=>?_)<;>try exact zh hc)|(refine je ?_;refine zt hQ ?_))
   simp[AV.snap]
  have p6:(k==6)=false:=by simpa using k6
  rw[if_neg (by rintro(h|h)<;>contradiction)]
  by_cases k2:k=2
  ·subst k2
   rw[if_pos rfl]
   cases hem:a.isEmpty
   ·rw[hem] at e0
    refine pI Tryd.func31 Gv fun E Q hE hN hQ=>?_
    repeat'(first|apply nx|refine zx ?_|rw[zw]|refine zk ?_|refine zp ?_|(apply zA;exact zb)|((first|refine zR hE fun hg=>?_|refine zF hE fun hanc hg=>?_|refine zg (fun hg=>?_) fun hg=>?_)<;>simp only[go_sem,q1,e0,p1,p6,beq_self_eq_true,hg])|(refine zc (fun hc=>?_) (fun hc=>?_)<;>try exact zh hc)|(refine je ?_;refine zt hQ ?_))
    simp[AV.snap]
   rw[hem] at e0
   by_cases hi:0<=i
   case neg=>
    have q2:decide (i>=0)=false:=decide_eq_false hi
    have q3:decide (0<=i)=false:=decide_eq_false hi
    rw[q3]
    refine pI Tryd.func31 Gv fun E Q hE hN hQ=>?_
    repeat'(first|apply nx|refine zx ?_|rw[zw]|refine zk ?_|refine zp ?_|(apply zA;exact zb)|((first|refine zR hE fun hg=>?_|refine zF hE fun hanc hg=>?_|refine zg (fun hg=>?_) fun hg=>?_)<;>simp only[go_sem,q1,q2,q3,e0,p1,p6,beq_self_eq_true,hg])|(refine zc (fun hc=>?_) (fun hc=>?_)<;>try exact zh hc)|(refine je ?_;refine zt hQ ?_))
    simp[AV.snap]
   obtain⟨n,rfl⟩:∃ n:Nat,i=n:=⟨i.toNat,by omega⟩
   have q2:decide (((n:Nat):Int)>=0)=true:=decide_eq_true hi
   have q3:decide (0<=((n:Nat):Int))=true:=decide_eq_true hi
   rw[q3,Int.toNat_natCast]
   by_cases hn:n<D.length
   ·obtain⟨x,hx⟩:=get?_of hn
    rw[hx]
    simp only
    generalize hp:(x.pr==0)=bp
    refine pI Tryd.func31 Gv fun E Q hE hN hQ=>?_
    repeat'(first|apply nx|refine zx ?_|rw[zw]|refine zk ?_|refine zp ?_|(apply zA;exact zb)|((first|refine zR hE fun hg=>?_|refine zF hE fun hanc hg=>?_|refine zg (fun hg=>?_) fun hg=>?_)<;>simp only[go_sem,q1,q2,q3,e0,p1,p6,beq_self_eq_true,ja hn,hx,Dd.av_eq,hp,hg])|(refine zc (fun hc=>?_) (fun hc=>?_)<;>try exact zh hc)|(refine je ?_;refine zt hQ ?_))
    simp[AV.snap]
   ·rw[List.getElem?_eq_none (by omega)]
    have q4:decide (((n:Nat):Int)<(D.length:Int))=false:=decide_eq_false (by omega)
    refine pI Tryd.func31 Gv fun E Q hE hN hQ=>?_
    repeat'(first|apply nx|refine zx ?_|rw[zw]|refine zk ?_|refine zp ?_|(apply zA;exact zb)|((first|refine zR hE fun hg=>?_|refine zF hE fun hanc hg=>?_|refine zg (fun hg=>?_) fun hg=>?_)<;>simp only[go_sem,q1,q2,q3,q4,e0,p1,p6,beq_self_eq_true,hg])|(refine zc (fun hc=>?_) (fun hc=>?_)<;>try exact zh hc)|(refine je ?_;refine zt hQ ?_))
    simp[AV.snap]
  have p2:(k==2)=false:=by simpa using k2
  rw[if_neg k2]
  by_cases kb:k=3\/k=4\/k=7\/k=8
  ·rw[if_pos kb]
   by_cases hl:a.length=1
   ·obtain⟨x,rfl⟩:=List.length_eq_one_iff.1 hl
    rw[Ty.sz_eq] at hs
    simp only[Ty.args,Ty.szL] at hs
    have ih:=Gj N x D (d - 1) (by omega) hD (by omega) (by omega)
    rw[Ty.av_eq] at ih
    have u1:IntKind.i64.wrap (d - 1)=d - 1:=by rw[wrap64 (by omega) (by omega)]
    have e1:(([x].length:Nat):Int)=1:=rfl
    have g0:Ty.avL [x]=[.agg [.i x.kind,.i x.id,.sl (Ty.avL x.args)]]:=by rw[Ty.avL,Ty.avL,Ty.av_eq]
    rw[g0]
    rcases kb with rfl|rfl|rfl|rfl
    all_goals
     refine pI Tryd.func31 Gv fun E Q hE hN hQ=>?_
    all_goals
     repeat'(first|apply nx|refine zx ?_|rw[zw]|refine zk ?_|refine zp ?_|(apply zA;exact zb)|((first|refine zR hE fun hg=>?_|refine zF hE fun hanc hg=>?_|(apply zM;exact zu;exact ih;exact zs;exact zl;intro hg)|refine zg (fun hg=>?_) fun hg=>?_)<;>simp only[go_sem,q1,p1,p6,p2,beq_self_eq_true,u1,hg])|(refine zc (fun hc=>?_) (fun hc=>?_)<;>try exact zh hc)|(refine je ?_;refine zt hQ ?_))
    all_goals first|(simp[AV.snap,plL];done)|simp_all[AV.snap,plL]
   ·have e1:(((a.length:Nat):Int)==1)=false:=by simp;omega
    have e2:(a.length==1)=false:=by simpa using hl
    rw[e2]
    rcases kb with rfl|rfl|rfl|rfl
    all_goals
     refine pI Tryd.func31 Gv fun E Q hE hN hQ=>?_
    all_goals
     repeat'(first|apply nx|refine zx ?_|rw[zw]|refine zk ?_|refine zp ?_|(apply zA;exact zb)|((first|refine zR hE fun hg=>?_|refine zF hE fun hanc hg=>?_|refine zg (fun hg=>?_) fun hg=>?_)<;>simp only[go_sem,q1,p1,p6,p2,beq_self_eq_true,e1,hg])|(refine zc (fun hc=>?_) (fun hc=>?_)<;>try exact zh hc)|(refine je ?_;refine zt hQ ?_))
    all_goals simp[AV.snap]
  ·rw[if_neg kb]
   have k3:(k==3)=false:=by simpa using fun h=>kb (.inl h)
   have k4:(k==4)=false:=by simpa using fun h=>kb (.inr (.inl h))
   have k7:(k==7)=false:=by simpa using fun h=>kb (.inr (.inr (.inl h)))
   have k8:(k==8)=false:=by simpa using fun h=>kb (.inr (.inr (.inr h)))
   refine pI Tryd.func31 Gv fun E Q hE hN hQ=>?_
   repeat'(first|apply nx|refine zx ?_|rw[zw]|refine zk ?_|refine zp ?_|(apply zA;exact zb)|((first|refine zR hE fun hg=>?_|refine zF hE fun hanc hg=>?_|refine zg (fun hg=>?_) fun hg=>?_)<;>simp only[go_sem,q1,p1,p6,p2,k3,k4,k7,k8,hg])|(refine zc (fun hc=>?_) (fun hc=>?_)<;>try exact zh hc)|(refine je ?_;refine zt hQ ?_))
   simp[AV.snap]
theorem oC:∀ (N:Nat) (t:Ty) (D:List Dd) (d:Int),t.sz<=N->D.length<=2 ^ 40-> -(2 ^ 40)<=d->d<=2 ^ 40->PCall Tryd.prog 27 [.sl (ddl D),t.av,.i d] (.bool (plB D t d))
 |0,t,D,d,hs,hD,hd1,hd2=>by rw[Ty.sz_eq] at hs;omega
 |N+1,.mk k i a,D,d,hs,hD,hd1,hd2=>by
  rw[Ty.av_eq]
  simp only[Ty.kind,Ty.id,Ty.args]
  rw[plB]
  by_cases h1:d<1
  ·rw[if_pos h1]
   have q:decide (d<1)=true:=decide_eq_true h1
   refine pI Tryd.func27 Gu fun E Q hE hN hQ=>?_
   repeat'(first|apply nx|refine zx ?_|rw[zw]|refine zk ?_|refine zp ?_|(apply zA;exact zb)|((first|refine zR hE fun hg=>?_|refine zF hE fun hanc hg=>?_|refine zg (fun hg=>?_) fun hg=>?_)<;>simp only[go_sem,q,hg])|(refine zc (fun hc=>?_) (fun hc=>?_)<;>try exact zh hc)|(refine je ?_;refine zt hQ ?_))
   simp[AV.snap]
  rw[if_neg h1]
  have q1:decide (d<1)=false:=decide_eq_false h1
  have e0:(((a.length:Nat):Int)==0)=a.isEmpty:=by cases a<;>simp;omega
  by_cases k1:k=1
  ·subst k1
   rw[if_pos (.inl rfl)]
   refine pI Tryd.func27 Gu fun E Q hE hN hQ=>?_
   repeat'(first|apply nx|refine zx ?_|rw[zw]|refine zk ?_|refine zp ?_|(apply zA;exact zb)|((first|refine zR hE fun hg=>?_|refine zF hE fun hanc hg=>?_|refine zg (fun hg=>?_) fun hg=>?_)<;>simp only[go_sem,q1,e0,beq_self_eq_true,hg])|(refine zc (fun hc=>?_) (fun hc=>?_)<;>try exact zh hc)|(refine je ?_;refine zt hQ ?_))
   simp[AV.snap]
  have p1:(k==1)=false:=by simpa using k1
  by_cases k6:k=6
  ·subst k6
   rw[if_pos (.inr rfl)]
   refine pI Tryd.func27 Gu fun E Q hE hN hQ=>?_
   repeat'(first|apply nx|refine zx ?_|rw[zw]|refine zk ?_|refine zp ?_|(apply zA;exact zb)|((first|refine zR hE fun hg=>?_|refine zF hE fun hanc hg=>?_|refine zg (fun hg=>?_) fun hg=>?_)<;>simp only[go_sem,q1,e0,p1,beq_self_eq_true,hg])|(refine zc (fun hc=>?_) (fun hc=>?_)<;>try exact zh hc)|(refine je ?_;refine zt hQ ?_))
   simp[AV.snap]
  have p6:(k==6)=false:=by simpa using k6
  rw[if_neg (by rintro(h|h)<;>contradiction)]
  by_cases k2:k=2
  ·subst k2
   rw[if_pos rfl]
   cases hem:a.isEmpty
   ·rw[hem] at e0
    refine pI Tryd.func27 Gu fun E Q hE hN hQ=>?_
    repeat'(first|apply nx|refine zx ?_|rw[zw]|refine zk ?_|refine zp ?_|(apply zA;exact zb)|((first|refine zR hE fun hg=>?_|refine zF hE fun hanc hg=>?_|refine zg (fun hg=>?_) fun hg=>?_)<;>simp only[go_sem,q1,e0,p1,p6,beq_self_eq_true,hg])|(refine zc (fun hc=>?_) (fun hc=>?_)<;>try exact zh hc)|(refine je ?_;refine zt hQ ?_))
    simp[AV.snap]
   rw[hem] at e0
   by_cases hi:0<=i
   case neg=>
    have q2:decide (i>=0)=false:=decide_eq_false hi
    have q3:decide (0<=i)=false:=decide_eq_false hi
    rw[q3]
    refine pI Tryd.func27 Gu fun E Q hE hN hQ=>?_
    repeat'(first|apply nx|refine zx ?_|rw[zw]|refine zk ?_|refine zp ?_|(apply zA;exact zb)|((first|refine zR hE fun hg=>?_|refine zF hE fun hanc hg=>?_|refine zg (fun hg=>?_) fun hg=>?_)<;>simp only[go_sem,q1,q2,q3,e0,p1,p6,beq_self_eq_true,hg])|(refine zc (fun hc=>?_) (fun hc=>?_)<;>try exact zh hc)|(refine je ?_;refine zt hQ ?_))
    simp[AV.snap]
   obtain⟨n,rfl⟩:∃ n:Nat,i=n:=⟨i.toNat,by omega⟩
   have q2:decide (((n:Nat):Int)>=0)=true:=decide_eq_true hi
   have q3:decide (0<=((n:Nat):Int))=true:=decide_eq_true hi
   rw[q3,Int.toNat_natCast]
   by_cases hn:n<D.length
   ·obtain⟨x,hx⟩:=get?_of hn
    rw[hx]
    simp only
    generalize hp:(x.pr==0)=bp
    refine pI Tryd.func27 Gu fun E Q hE hN hQ=>?_
    repeat'(first|apply nx|refine zx ?_|rw[zw]|refine zk ?_|refine zp ?_|(apply zA;exact zb)|((first|refine zR hE fun hg=>?_|refine zF hE fun hanc hg=>?_|refine zg (fun hg=>?_) fun hg=>?_)<;>simp only[go_sem,q1,q2,q3,e0,p1,p6,beq_self_eq_true,ja hn,hx,Dd.av_eq,hp,hg])|(refine zc (fun hc=>?_) (fun hc=>?_)<;>try exact zh hc)|(refine je ?_;refine zt hQ ?_))
    simp[AV.snap]
   ·rw[List.getElem?_eq_none (by omega)]
    have q4:decide (((n:Nat):Int)<(D.length:Int))=false:=decide_eq_false (by omega)
    refine pI Tryd.func27 Gu fun E Q hE hN hQ=>?_
    repeat'(first|apply nx|refine zx ?_|rw[zw]|refine zk ?_|refine zp ?_|(apply zA;exact zb)|((first|refine zR hE fun hg=>?_|refine zF hE fun hanc hg=>?_|refine zg (fun hg=>?_) fun hg=>?_)<;>simp only[go_sem,q1,q2,q3,q4,e0,p1,p6,beq_self_eq_true,hg])|(refine zc (fun hc=>?_) (fun hc=>?_)<;>try exact zh hc)|(refine je ?_;refine zt hQ ?_))
    simp[AV.snap]
  have p2:(k==2)=false:=by simpa using k2
  rw[if_neg k2]
  by_cases kb:k=3\/k=4\/k=7\/k=8
  ·rw[if_pos kb]
   by_cases hl:a.length=1
   ·obtain⟨x,rfl⟩:=List.length_eq_one_iff.1 hl
    rw[Ty.sz_eq] at hs
    simp only[Ty.args,Ty.szL] at hs
    have ih:=oC N x D (d - 1) (by omega) hD (by omega) (by omega)
    rw[Ty.av_eq] at ih
    have u1:IntKind.i64.wrap (d - 1)=d - 1:=by rw[wrap64 (by omega) (by omega)]
    have e1:(([x].length:Nat):Int)=1:=rfl
    have g0:Ty.avL [x]=[.agg [.i x.kind,.i x.id,.sl (Ty.avL x.args)]]:=by rw[Ty.avL,Ty.avL,Ty.av_eq]
    rw[g0]
    rcases kb with rfl|rfl|rfl|rfl
    all_goals
     refine pI Tryd.func27 Gu fun E Q hE hN hQ=>?_
    all_goals
     repeat'(first|apply nx|refine zx ?_|rw[zw]|refine zk ?_|refine zp ?_|(apply zA;exact zb)|((first|refine zR hE fun hg=>?_|refine zF hE fun hanc hg=>?_|(apply zM;exact zu;exact ih;exact zs;exact zl;intro hg)|refine zg (fun hg=>?_) fun hg=>?_)<;>simp only[go_sem,q1,p1,p6,p2,beq_self_eq_true,u1,hg])|(refine zc (fun hc=>?_) (fun hc=>?_)<;>try exact zh hc)|(refine je ?_;refine zt hQ ?_))
    all_goals first|(simp[AV.snap,plL];done)|simp_all[AV.snap,plL]
   ·have e1:(((a.length:Nat):Int)==1)=false:=by simp;omega
    have e2:(a.length==1)=false:=by simpa using hl
    rw[e2]
    rcases kb with rfl|rfl|rfl|rfl
    all_goals
     refine pI Tryd.func27 Gu fun E Q hE hN hQ=>?_
    all_goals
     repeat'(first|apply nx|refine zx ?_|rw[zw]|refine zk ?_|refine zp ?_|(apply zA;exact zb)|((first|refine zR hE fun hg=>?_|refine zF hE fun hanc hg=>?_|refine zg (fun hg=>?_) fun hg=>?_)<;>simp only[go_sem,q1,p1,p6,p2,beq_self_eq_true,e1,hg])|(refine zc (fun hc=>?_) (fun hc=>?_)<;>try exact zh hc)|(refine je ?_;refine zt hQ ?_))
    all_goals simp[AV.snap]
  ·rw[if_neg kb]
   have k3:(k==3)=false:=by simpa using fun h=>kb (.inl h)
   have k4:(k==4)=false:=by simpa using fun h=>kb (.inr (.inl h))
   have k7:(k==7)=false:=by simpa using fun h=>kb (.inr (.inr (.inl h)))
   have k8:(k==8)=false:=by simpa using fun h=>kb (.inr (.inr (.inr h)))
   refine pI Tryd.func27 Gu fun E Q hE hN hQ=>?_
   repeat'(first|apply nx|refine zx ?_|rw[zw]|refine zk ?_|refine zp ?_|(apply zA;exact zb)|((first|refine zR hE fun hg=>?_|refine zF hE fun hanc hg=>?_|refine zg (fun hg=>?_) fun hg=>?_)<;>simp only[go_sem,q1,p1,p6,p2,k3,k4,k7,k8,hg])|(refine zc (fun hc=>?_) (fun hc=>?_)<;>try exact zh hc)|(refine je ?_;refine zt hQ ?_))
   simp[AV.snap]
end Go.Proofs.YtfpcjabbcpgbjaaDoor
