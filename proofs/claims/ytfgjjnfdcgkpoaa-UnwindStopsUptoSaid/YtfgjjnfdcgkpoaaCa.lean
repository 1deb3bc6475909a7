/- A part of the proof: an abstract machine for the walks, and what the walked functions compute. -/
import Derived.Test.YtfgjjnfdcgkpoaaProg
import Derived.KernelRfl
import Derived.Test.YtfgjjnfdcgkpoaaMe
import Derived.Test.YtfgjjnfdcgkpoaaHv
import Derived.Test.YtfgjjnfdcgkpoaaMk
set_option linter.unusedVariables false
set_option linter.unusedSimpArgs false
set_option maxRecDepth 100000
namespace Go.Proofs.Ytfgjjnfdcgkpoaa
open Go.Am
theorem ti3:ti Try.prog 3=some ⟨TK.int IntKind.i64,1,8,some [AV.int IntKind.i64 (0)]⟩:=by kernel_rfl
theorem ti4:ti Try.prog 4=some ⟨TK.bool,1,1,some [AV.bool false]⟩:=by kernel_rfl
theorem ti5:ti Try.prog 5=some ⟨TK.int IntKind.u8,1,1,some [AV.int IntKind.u8 (0)]⟩:=by kernel_rfl
theorem ti9:ti Try.prog 9=some ⟨TK.str,1,16,some [AV.str ⟨#[]⟩]⟩:=by kernel_rfl
theorem ti20:ti Try.prog 20=some ⟨TK.iface,1,16,some [AV.nilif]⟩:=by kernel_rfl
theorem ti22:ti Try.prog 22=some ⟨TK.slice 69,1,24,some [AV.nilsl]⟩:=by kernel_rfl
theorem ti23:ti Try.prog 23=some ⟨TK.slice 180,1,24,some [AV.nilsl]⟩:=by kernel_rfl
theorem ti25:ti Try.prog 25=some ⟨TK.struct [(22,0),(23,1),(3,2)],3,56,some [AV.nilsl,AV.nilsl,AV.int IntKind.i64 (0)]⟩:=by kernel_rfl
theorem ti26:ti Try.prog 26=some ⟨TK.slice 62,1,24,some [AV.nilsl]⟩:=by kernel_rfl
theorem ti27:ti Try.prog 27=some ⟨TK.slice 4,1,24,some [AV.nilsl]⟩:=by kernel_rfl
theorem ti29:ti Try.prog 29=some ⟨TK.struct [(26,0),(27,1)],2,48,some [AV.nilsl,AV.nilsl]⟩:=by kernel_rfl
theorem ti30:ti Try.prog 30=some ⟨TK.slice 58,1,24,some [AV.nilsl]⟩:=by kernel_rfl
theorem ti31:ti Try.prog 31=some ⟨TK.slice 35,1,24,some [AV.nilsl]⟩:=by kernel_rfl
theorem ti32:ti Try.prog 32=some ⟨TK.slice 73,1,24,some [AV.nilsl]⟩:=by kernel_rfl
theorem ti34:ti Try.prog 34=some ⟨TK.struct [(25,0),(29,3),(30,5),(31,6),(32,7),(3,8),(3,9),(3,10)],11,200,some [AV.nilsl,AV.nilsl,AV.int IntKind.i64 (0),AV.nilsl,AV.nilsl,AV.nilsl,AV.nilsl,AV.nilsl,AV.int IntKind.i64 (0),AV.int IntKind.i64 (0),AV.int IntKind.i64 (0)]⟩:=by kernel_rfl
theorem ti35:ti Try.prog 35=some ⟨TK.slice 49,1,24,some [AV.nilsl]⟩:=by kernel_rfl
theorem ti36:ti Try.prog 36=some ⟨TK.slice 3,1,24,some [AV.nilsl]⟩:=by kernel_rfl
theorem ti38:ti Try.prog 38=some ⟨TK.struct [(3,0),(3,1),(3,2),(3,3),(3,4),(35,5),(36,6)],7,88,some [AV.int IntKind.i64 (0),AV.int IntKind.i64 (0),AV.int IntKind.i64 (0),AV.int IntKind.i64 (0),AV.int IntKind.i64 (0),AV.nilsl,AV.nilsl]⟩:=by kernel_rfl
theorem ti47:ti Try.prog 47=some ⟨TK.func,1,8,some [AV.nilfn]⟩:=by kernel_rfl
theorem ti49:ti Try.prog 49=some ⟨TK.struct [(3,0),(3,1),(3,2),(3,3),(35,4),(4,5),(36,6),(36,7)],8,112,some [AV.int IntKind.i64 (0),AV.int IntKind.i64 (0),AV.int IntKind.i64 (0),AV.int IntKind.i64 (0),AV.nilsl,AV.bool false,AV.nilsl,AV.nilsl]⟩:=by kernel_rfl
theorem ti55:ti Try.prog 55=some ⟨TK.slice 38,1,24,some [AV.nilsl]⟩:=by kernel_rfl
theorem ti56:ti Try.prog 56=some ⟨TK.slice 96,1,24,some [AV.nilsl]⟩:=by kernel_rfl
theorem ti58:ti Try.prog 58=some ⟨TK.struct [(3,0),(55,1),(56,2),(3,3),(3,4),(3,5),(36,6)],7,104,some [AV.int IntKind.i64 (0),AV.nilsl,AV.nilsl,AV.int IntKind.i64 (0),AV.int IntKind.i64 (0),AV.int IntKind.i64 (0),AV.nilsl]⟩:=by kernel_rfl
theorem ti60:ti Try.prog 60=some ⟨TK.struct [(29,0),(27,2),(27,3),(3,4),(3,5),(4,6)],7,120,some [AV.nilsl,AV.nilsl,AV.nilsl,AV.nilsl,AV.int IntKind.i64 (0),AV.int IntKind.i64 (0),AV.bool false]⟩:=by kernel_rfl
theorem ti62:ti Try.prog 62=some ⟨TK.struct [(4,0),(3,1),(49,2)],10,128,some [AV.bool false,AV.int IntKind.i64 (0),AV.int IntKind.i64 (0),AV.int IntKind.i64 (0),AV.int IntKind.i64 (0),AV.int IntKind.i64 (0),AV.nilsl,AV.bool false,AV.nilsl,AV.nilsl]⟩:=by kernel_rfl
theorem ti67:ti Try.prog 67=some ⟨TK.slice 182,1,24,some [AV.nilsl]⟩:=by kernel_rfl
theorem ti69:ti Try.prog 69=some ⟨TK.struct [(9,0),(3,1),(3,2),(67,3),(3,4)],5,64,some [AV.str ⟨#[]⟩,AV.int IntKind.i64 (0),AV.int IntKind.i64 (0),AV.nilsl,AV.int IntKind.i64 (0)]⟩:=by kernel_rfl
theorem ti73:ti Try.prog 73=some ⟨TK.struct [(3,0),(3,1)],2,16,some [AV.int IntKind.i64 (0),AV.int IntKind.i64 (0)]⟩:=by kernel_rfl
theorem ti82:ti Try.prog 82=some ⟨TK.func,1,8,some [AV.nilfn]⟩:=by kernel_rfl
theorem ti83:ti Try.prog 83=some ⟨TK.func,1,8,some [AV.nilfn]⟩:=by kernel_rfl
theorem ti84:ti Try.prog 84=some ⟨TK.ptr,1,8,some [AV.nilp]⟩:=by kernel_rfl
theorem ti86:ti Try.prog 86=some ⟨TK.func,1,8,some [AV.nilfn]⟩:=by kernel_rfl
theorem ti96:ti Try.prog 96=some ⟨TK.struct [(3,0),(3,1),(4,2),(4,3),(4,4)],5,24,some [AV.int IntKind.i64 (0),AV.int IntKind.i64 (0),AV.bool false,AV.bool false,AV.bool false]⟩:=by kernel_rfl
theorem ti97:ti Try.prog 97=some ⟨TK.map 3 4,1,8,some [AV.nilmap]⟩:=by kernel_rfl
theorem ti99:ti Try.prog 99=some ⟨TK.struct [(97,0),(97,1),(36,2)],3,40,some [AV.nilmap,AV.nilmap,AV.nilsl]⟩:=by kernel_rfl
theorem ti106:ti Try.prog 106=some ⟨TK.struct [(34,0),(3,11),(3,12),(82,13)],14,224,some [AV.nilsl,AV.nilsl,AV.int IntKind.i64 (0),AV.nilsl,AV.nilsl,AV.nilsl,AV.nilsl,AV.nilsl,AV.int IntKind.i64 (0),AV.int IntKind.i64 (0),AV.int IntKind.i64 (0),AV.int IntKind.i64 (0),AV.int IntKind.i64 (0),AV.nilfn]⟩:=by kernel_rfl
theorem ti115:ti Try.prog 115=some ⟨TK.int IntKind.u64,1,8,some [AV.int IntKind.u64 (0)]⟩:=by kernel_rfl
theorem ti117:ti Try.prog 117=some ⟨TK.func,1,8,some [AV.nilfn]⟩:=by kernel_rfl
theorem ti123:ti Try.prog 123=some ⟨TK.struct [],0,0,some []⟩:=by kernel_rfl
theorem ti144:ti Try.prog 144=some ⟨TK.int IntKind.u64,1,8,some [AV.int IntKind.u64 (0)]⟩:=by kernel_rfl
theorem el22:elT Try.prog 22=some 5:=by kernel_rfl
theorem fl25_0:flT Try.prog 25 0=some 0:=by kernel_rfl
theorem el26:elT Try.prog 26=some 10:=by kernel_rfl
theorem el27:elT Try.prog 27=some 1:=by kernel_rfl
theorem fl29_0:flT Try.prog 29 0=some 0:=by kernel_rfl
theorem fl29_1:flT Try.prog 29 1=some 1:=by kernel_rfl
theorem el30:elT Try.prog 30=some 7:=by kernel_rfl
theorem el31:elT Try.prog 31=some 1:=by kernel_rfl
theorem el32:elT Try.prog 32=some 2:=by kernel_rfl
theorem fl34_0:flT Try.prog 34 0=some 0:=by kernel_rfl
theorem fl34_1:flT Try.prog 34 1=some 3:=by kernel_rfl
theorem fl34_2:flT Try.prog 34 2=some 5:=by kernel_rfl
theorem fl34_3:flT Try.prog 34 3=some 6:=by kernel_rfl
theorem fl34_4:flT Try.prog 34 4=some 7:=by kernel_rfl
theorem fl34_5:flT Try.prog 34 5=some 8:=by kernel_rfl
theorem fl34_6:flT Try.prog 34 6=some 9:=by kernel_rfl
theorem fl34_7:flT Try.prog 34 7=some 10:=by kernel_rfl
theorem el35:elT Try.prog 35=some 8:=by kernel_rfl
theorem el36:elT Try.prog 36=some 1:=by kernel_rfl
theorem fl38_5:flT Try.prog 38 5=some 5:=by kernel_rfl
theorem fl38_6:flT Try.prog 38 6=some 6:=by kernel_rfl
theorem fl49_0:flT Try.prog 49 0=some 0:=by kernel_rfl
theorem fl49_1:flT Try.prog 49 1=some 1:=by kernel_rfl
theorem fl49_2:flT Try.prog 49 2=some 2:=by kernel_rfl
theorem fl49_3:flT Try.prog 49 3=some 3:=by kernel_rfl
theorem fl49_4:flT Try.prog 49 4=some 4:=by kernel_rfl
theorem fl49_5:flT Try.prog 49 5=some 5:=by kernel_rfl
theorem fl49_6:flT Try.prog 49 6=some 6:=by kernel_rfl
theorem fl49_7:flT Try.prog 49 7=some 7:=by kernel_rfl
theorem el55:elT Try.prog 55=some 7:=by kernel_rfl
theorem fl58_0:flT Try.prog 58 0=some 0:=by kernel_rfl
theorem fl58_1:flT Try.prog 58 1=some 1:=by kernel_rfl
theorem fl58_2:flT Try.prog 58 2=some 2:=by kernel_rfl
theorem fl58_3:flT Try.prog 58 3=some 3:=by kernel_rfl
theorem fl58_4:flT Try.prog 58 4=some 4:=by kernel_rfl
theorem fl58_5:flT Try.prog 58 5=some 5:=by kernel_rfl
theorem fl58_6:flT Try.prog 58 6=some 6:=by kernel_rfl
theorem fl60_0:flT Try.prog 60 0=some 0:=by kernel_rfl
theorem fl60_1:flT Try.prog 60 1=some 2:=by kernel_rfl
theorem fl60_2:flT Try.prog 60 2=some 3:=by kernel_rfl
theorem fl60_3:flT Try.prog 60 3=some 4:=by kernel_rfl
theorem fl60_4:flT Try.prog 60 4=some 5:=by kernel_rfl
theorem fl60_5:flT Try.prog 60 5=some 6:=by kernel_rfl
theorem fl62_0:flT Try.prog 62 0=some 0:=by kernel_rfl
theorem fl62_1:flT Try.prog 62 1=some 1:=by kernel_rfl
theorem fl62_2:flT Try.prog 62 2=some 2:=by kernel_rfl
theorem fl69_4:flT Try.prog 69 4=some 4:=by kernel_rfl
theorem mp97:mpT Try.prog 97=some 4:=by kernel_rfl
theorem mz97:mpZ Try.prog 97=some (AV.bool false):=by kernel_rfl
theorem fl99_0:flT Try.prog 99 0=some 0:=by kernel_rfl
theorem fl99_1:flT Try.prog 99 1=some 1:=by kernel_rfl
theorem fl99_2:flT Try.prog 99 2=some 2:=by kernel_rfl
theorem fl106_0:flT Try.prog 106 0=some 0:=by kernel_rfl
theorem fl106_1:flT Try.prog 106 1=some 11:=by kernel_rfl
theorem fl106_2:flT Try.prog 106 2=some 12:=by kernel_rfl
theorem fl106_3:flT Try.prog 106 3=some 13:=by kernel_rfl
theorem isf8:isFn Try.prog 8=true:=by kernel_rfl
theorem isf9:isFn Try.prog 9=true:=by kernel_rfl
theorem isf10:isFn Try.prog 10=true:=by kernel_rfl
theorem isf12:isFn Try.prog 12=true:=by kernel_rfl
theorem isf14:isFn Try.prog 14=true:=by kernel_rfl
theorem isf16:isFn Try.prog 16=true:=by kernel_rfl
theorem isf17:isFn Try.prog 17=true:=by kernel_rfl
theorem isf18:isFn Try.prog 18=true:=by kernel_rfl
theorem isf19:isFn Try.prog 19=true:=by kernel_rfl
theorem isf20:isFn Try.prog 20=true:=by kernel_rfl
theorem isf21:isFn Try.prog 21=true:=by kernel_rfl
theorem isf22:isFn Try.prog 22=true:=by kernel_rfl
theorem isf23:isFn Try.prog 23=true:=by kernel_rfl
theorem isf24:isFn Try.prog 24=true:=by kernel_rfl
theorem isf25:isFn Try.prog 25=true:=by kernel_rfl
theorem isf27:isFn Try.prog 27=true:=by kernel_rfl
theorem isf29:isFn Try.prog 29=true:=by kernel_rfl
theorem isf30:isFn Try.prog 30=true:=by kernel_rfl
theorem isf31:isFn Try.prog 31=true:=by kernel_rfl
theorem isf32:isFn Try.prog 32=true:=by kernel_rfl
theorem isf33:isFn Try.prog 33=true:=by kernel_rfl
theorem isf34:isFn Try.prog 34=true:=by kernel_rfl
theorem isf35:isFn Try.prog 35=true:=by kernel_rfl
theorem isf36:isFn Try.prog 36=true:=by kernel_rfl
theorem isf37:isFn Try.prog 37=true:=by kernel_rfl
theorem isf39:isFn Try.prog 39=true:=by kernel_rfl
theorem isf40:isFn Try.prog 40=true:=by kernel_rfl
theorem isf41:isFn Try.prog 41=true:=by kernel_rfl
theorem isf42:isFn Try.prog 42=true:=by kernel_rfl
theorem isf43:isFn Try.prog 43=true:=by kernel_rfl
theorem isf44:isFn Try.prog 44=true:=by kernel_rfl
theorem isf45:isFn Try.prog 45=true:=by kernel_rfl
theorem isf46:isFn Try.prog 46=true:=by kernel_rfl
theorem isf47:isFn Try.prog 47=true:=by kernel_rfl
theorem isf51:isFn Try.prog 51=true:=by kernel_rfl
theorem isf52:isFn Try.prog 52=true:=by kernel_rfl
theorem isf53:isFn Try.prog 53=true:=by kernel_rfl
theorem isf54:isFn Try.prog 54=true:=by kernel_rfl
theorem isf55:isFn Try.prog 55=true:=by kernel_rfl
theorem isf56:isFn Try.prog 56=true:=by kernel_rfl
theorem isf57:isFn Try.prog 57=true:=by kernel_rfl
theorem isf58:isFn Try.prog 58=true:=by kernel_rfl
theorem isf59:isFn Try.prog 59=true:=by kernel_rfl
theorem isf60:isFn Try.prog 60=true:=by kernel_rfl
theorem isf61:isFn Try.prog 61=true:=by kernel_rfl
theorem isf62:isFn Try.prog 62=true:=by kernel_rfl
theorem isf69:isFn Try.prog 69=true:=by kernel_rfl
theorem isf70:isFn Try.prog 70=true:=by kernel_rfl
theorem isf71:isFn Try.prog 71=true:=by kernel_rfl
theorem isf75:isFn Try.prog 75=true:=by kernel_rfl
theorem isf76:isFn Try.prog 76=true:=by kernel_rfl
theorem isf85:isFn Try.prog 85=true:=by kernel_rfl
theorem isf86:isFn Try.prog 86=true:=by kernel_rfl
theorem isf87:isFn Try.prog 87=true:=by kernel_rfl
theorem isf89:isFn Try.prog 89=true:=by kernel_rfl
theorem isf95:isFn Try.prog 95=true:=by kernel_rfl
theorem isf96:isFn Try.prog 96=true:=by kernel_rfl
theorem mixed:Try.prog.follows .mixedOrders=true:=by kernel_rfl
attribute [go_sem] ti3 ti4 ti5 ti9 ti20 ti22 ti23 ti25 ti26 ti27 ti29 ti30 ti31 ti32 ti34 ti35 ti36 ti38 ti47 ti49 ti55 ti56 ti58 ti60 ti62 ti67 ti69 ti73 ti82 ti83 ti84 ti86 ti96 ti97 ti99 ti106 ti115 ti117 ti123 ti144 el22 fl25_0 el26 el27 fl29_0 fl29_1 el30 el31 el32 fl34_0 fl34_1 fl34_2 fl34_3 fl34_4 fl34_5 fl34_6 fl34_7 el35 el36 fl38_5 fl38_6 fl49_0 fl49_1 fl49_2 fl49_3 fl49_4 fl49_5 fl49_6 fl49_7 el55 fl58_0 fl58_1 fl58_2 fl58_3 fl58_4 fl58_5 fl58_6 fl60_0 fl60_1 fl60_2 fl60_3 fl60_4 fl60_5 fl62_0 fl62_1 fl62_2 fl69_4 mp97 mz97 fl99_0 fl99_1 fl99_2 fl106_0 fl106_1 fl106_2 fl106_3
end Go.Proofs.Ytfgjjnfdcgkpoaa

set_option maxHeartbeats 4000000
set_option maxRecDepth 100000
namespace Go.Proofs.Ytfgjjnfdcgkpoaa
open Go.Am Go.Proofs Go.Hv
open Classical
attribute [local irreducible] AW CallP CallB
theorem ints_call (a b:List Int) (ha:a.length≤2 ^ 40):PCall Try.prog 16 [.sl (il a),.sl (il b)] (.bool (decide (a=b))):=by
 refine PCall.intro Try.func16 rfl isf16 (by simp[Try.f16]) (by simp[AV.cloL,AV.clo]) fun E Q hE hN hQ=>K_start ?_
 by_cases hl:a.length=b.length
 ·have q0:((a.length:Int) !=(b.length:Int))=false:=by simp[hl]
  repeat'(first|apply nx|refine zx ?_|rw[zw]|((first|refine hK _ ?_|refine hKp _ _ ?_);clear hK hKp K Kp;try clear hanc anc)|((with_reducible refine And.intro ?_ ?_);exact zb)|((first|refine zr hE fun K Kp hK hKp=>?_|refine zd false mixed hE fun K Kp hK hKp anc hanc=>?_);simp only[go_sem,q0])|(refine zg (fun hg=>?_) (fun hg=>?_)<;>simp only[go_sem,q0,hg])|(refine zc (fun hc=>?_) (fun hc=>?_)<;>try exact zh hc)|(refine K_ret ?_;refine zt hQ ?_))
  refine K_loop (X:=Nat) (fun i=>i≤a.length∧decide (a=b)=decide (a.drop i=b.drop i)) (fun i=>mkSt [(0,.sl (il a)),(1,.sl (il b)),(5,AV.i i)] [] 0) (fun i=>a.length - i) 0 ⟨Nat.zero_le _,rfl⟩ (fun i=>i) (by refine ent_mk (by simp[go_sem]) (by simp[go_sem]) (by simp) (by simp[hN])) ?_
  rintro i ⟨hi,ht⟩
  by_cases hlt:i<a.length
  ·obtain⟨x,hx⟩:=get?_of hlt
   obtain⟨y,hy⟩:=get?_of (show i<b.length by omega)
   rw[drop_of hx,drop_of hy] at ht
   by_cases hxy:x=y
   ·have q1:(x !=y)=false:=by simp[hxy]
    repeat'(first|apply nx|refine zx ?_|rw[zw]|((first|refine hK _ ?_|refine hKp _ _ ?_);clear hK hKp K Kp;try clear hanc anc)|((with_reducible refine And.intro ?_ ?_);exact zb)|((first|refine zr hE fun K Kp hK hKp=>?_|refine zd false mixed hE fun K Kp hK hKp anc hanc=>?_);simp only[go_sem,lt_dec hlt,hx,hy,q1])|(refine zg (fun hg=>?_) (fun hg=>?_)<;>simp only[go_sem,lt_dec hlt,hx,hy,q1,hg])|(refine zc (fun hc=>?_) (fun hc=>?_)<;>try exact zh hc)|(refine K_ret ?_;refine zt hQ ?_))
    exact⟨i+1,⟨by omega,by rw[ht];simp[hxy]⟩,by omega,fun i=>i,by refine ent_mk (by simp[go_sem]) (by simp[go_sem]) (by simp) (by simp[hN])⟩
   ·have q1:(x !=y)=true:=by simp[hxy]
    repeat'(first|apply nx|refine zx ?_|rw[zw]|((first|refine hK _ ?_|refine hKp _ _ ?_);clear hK hKp K Kp;try clear hanc anc)|((with_reducible refine And.intro ?_ ?_);exact zb)|((first|refine zr hE fun K Kp hK hKp=>?_|refine zd false mixed hE fun K Kp hK hKp anc hanc=>?_);simp only[go_sem,lt_dec hlt,hx,hy,q1])|(refine zg (fun hg=>?_) (fun hg=>?_)<;>simp only[go_sem,lt_dec hlt,hx,hy,q1,hg])|(refine zc (fun hc=>?_) (fun hc=>?_)<;>try exact zh hc)|(refine K_ret ?_;refine zt hQ ?_))
    simp[AV.snap,ht,hxy]
  ·obtain rfl:i=a.length:=by omega
   rw[List.drop_length,hl,List.drop_length] at ht
   repeat'(first|apply nx|refine zx ?_|rw[zw]|((first|refine hK _ ?_|refine hKp _ _ ?_);clear hK hKp K Kp;try clear hanc anc)|((with_reducible refine And.intro ?_ ?_);exact zb)|((first|refine zr hE fun K Kp hK hKp=>?_|refine zd false mixed hE fun K Kp hK hKp anc hanc=>?_);simp only[go_sem,ge_dec])|(refine zg (fun hg=>?_) (fun hg=>?_)<;>simp only[go_sem,ge_dec,hg])|(refine zc (fun hc=>?_) (fun hc=>?_)<;>try exact zh hc)|(refine K_ret ?_;refine zt hQ ?_))
   simp[AV.snap,ht]
 ·have q0:((a.length:Int) !=(b.length:Int))=true:=by simp;omega
  repeat'(first|apply nx|refine zx ?_|rw[zw]|((first|refine hK _ ?_|refine hKp _ _ ?_);clear hK hKp K Kp;try clear hanc anc)|((with_reducible refine And.intro ?_ ?_);exact zb)|((first|refine zr hE fun K Kp hK hKp=>?_|refine zd false mixed hE fun K Kp hK hKp anc hanc=>?_);simp only[go_sem,q0])|(refine zg (fun hg=>?_) (fun hg=>?_)<;>simp only[go_sem,q0,hg])|(refine zc (fun hc=>?_) (fun hc=>?_)<;>try exact zh hc)|(refine K_ret ?_;refine zt hQ ?_))
  have:a≠b:=by rintro rfl;exact hl rfl
  simp[AV.snap,this]
theorem sameV_call:∀ (n:Nat) (a b:Vl),a.sz<n→n≤2 ^ 40→PCall Try.prog 35 [a.av,b.av] (.bool (decide (a=b))):=by
 intro n
 induction n with
 |zero=>intro a b h;omega
 |succ n ih=>
 intro a b hn hN2
 have hx:a=b↔a.kind=b.kind∧a.id=b.id∧a.var=b.var∧a.n=b.n∧a.fs=b.fs∧a.excl=b.excl∧a.path=b.path∧a.loans=b.loans:=⟨by rintro rfl;simp,fun⟨h1,h2,h3,h4,h5,h6,h7,h8⟩=>Vl.ext h1 h2 h3 h4 h5 h6 h7 h8⟩
 have hsz:=a.sz_eq
 have hlf:=Vl.len_le a.fs
 rw[Vl.av_eq,Vl.av_eq]
 by_cases hall:a.kind=b.kind∧a.id=b.id∧a.var=b.var∧a.n=b.n∧a.fs.length=b.fs.length∧a.excl=b.excl∧a.path=b.path∧a.loans=b.loans
 ·obtain⟨h1,h2,h3,h4,h5,h6,h7,h8⟩:=hall
  have q1:(a.kind !=b.kind)=false:=by simp[h1]
  have q2:(a.id !=b.id)=false:=by simp[h2]
  have q3:(a.var !=b.var)=false:=by simp[h3]
  have q4:(a.n !=b.n)=false:=by simp[h4]
  have q5:((a.fs.length:Int) !=(b.fs.length:Int))=false:=by simp[h5]
  have q6:(!a.excl==b.excl)=false:=by simp[h6]
  have i1:=ints_call a.path b.path (by omega)
  have i2:=ints_call a.loans b.loans (by omega)
  rw[decide_eq_true h7] at i1
  rw[decide_eq_true h8] at i2
  refine PCall.intro Try.func35 rfl isf35 (by simp[Try.f35]) (by simp[AV.cloL,AV.clo]) fun E Q hE hN hQ=>K_start ?_
  repeat'(first|apply nx|refine zx ?_|rw[zw]|((first|refine hK _ ?_|refine hKp _ _ ?_);clear hK hKp K Kp;try clear hanc anc)|((with_reducible refine And.intro ?_ ?_);exact zb)|((first|refine zr hE fun K Kp hK hKp=>?_|refine zd false mixed hE fun K Kp hK hKp anc hanc=>?_|(apply zm;exact zu;(first|exact i1|exact i2);exact zs;exact zl));simp only[go_sem,q1,q2,q3,q4,q5,q6])|(refine zg (fun hg=>?_) (fun hg=>?_)<;>simp only[go_sem,q1,q2,q3,q4,q5,q6,hg])|(refine zc (fun hc=>?_) (fun hc=>?_)<;>try exact zh hc)|(refine K_ret ?_;refine zt hQ ?_))
  refine K_loop (X:=Nat) (fun i=>i≤a.fs.length∧decide (a.fs=b.fs)=decide (a.fs.drop i=b.fs.drop i)) (fun i=>mkSt [(2,.ptr 0 0),(3,.ptr 1 0),(5,AV.i i)] [(0,.cells a.cs),(1,.cells b.cs)] 2) (fun i=>a.fs.length - i) 0 ⟨Nat.zero_le _,rfl⟩ (fun i=>if i=0 then 0 else 1048576) (by refine ent_mk (by simp[go_sem,Vl.cs]) (by simp[go_sem,Vl.cs]) (by simp) (by simp[hN])) ?_
  rintro i ⟨hi,ht⟩
  by_cases hlt:i<a.fs.length
  ·obtain⟨x,hx2⟩:=get?_of hlt
   obtain⟨y,hy⟩:=get?_of (show i<b.fs.length by omega)
   have hxm:=Vl.sz_mem (List.mem_of_getElem? hx2)
   have hr:=ih x y (by omega) (by omega)
   rw[Vl.av_cs,Vl.av_cs] at hr
   rw[drop_of hx2,drop_of hy] at ht
   by_cases hxy:x=y
   ·rw[decide_eq_true hxy] at hr
    repeat'(first|apply nx|refine zx ?_|rw[zw]|((first|refine hK _ ?_|refine hKp _ _ ?_);clear hK hKp K Kp;try clear hanc anc)|((with_reducible refine And.intro ?_ ?_);exact zb)|((first|refine zr hE fun K Kp hK hKp=>?_|refine zd false mixed hE fun K Kp hK hKp anc hanc=>?_|(apply zm;exact zu;exact hr;exact zs;exact zl));simp only[go_sem,lt_dec hlt,hx2,hy,Vl.av_cs,Vl.cs])|(refine zg (fun hg=>?_) (fun hg=>?_)<;>simp only[go_sem,lt_dec hlt,hx2,hy,Vl.av_cs,Vl.cs,hg])|(refine zc (fun hc=>?_) (fun hc=>?_)<;>try exact zh hc)|(refine K_ret ?_;refine zt hQ ?_))
    exact⟨i+1,⟨by omega,by rw[ht];simp[hxy]⟩,by omega,fun i=>i,by refine ent_mk (by simp[go_sem,Vl.cs]) (by simp[go_sem,Vl.cs]) (by simp) (by simp[hN])⟩
   ·rw[decide_eq_false hxy] at hr
    repeat'(first|apply nx|refine zx ?_|rw[zw]|((first|refine hK _ ?_|refine hKp _ _ ?_);clear hK hKp K Kp;try clear hanc anc)|((with_reducible refine And.intro ?_ ?_);exact zb)|((first|refine zr hE fun K Kp hK hKp=>?_|refine zd false mixed hE fun K Kp hK hKp anc hanc=>?_|(apply zm;exact zu;exact hr;exact zs;exact zl));simp only[go_sem,lt_dec hlt,hx2,hy,Vl.av_cs,Vl.cs])|(refine zg (fun hg=>?_) (fun hg=>?_)<;>simp only[go_sem,lt_dec hlt,hx2,hy,Vl.av_cs,Vl.cs,hg])|(refine zc (fun hc=>?_) (fun hc=>?_)<;>try exact zh hc)|(refine K_ret ?_;refine zt hQ ?_))
    simp[AV.snap,hx,h1,h2,h3,h4,h6,h7,h8,ht,hxy]
  ·obtain rfl:i=a.fs.length:=by omega
   rw[List.drop_length,h5,List.drop_length] at ht
   repeat'(first|apply nx|refine zx ?_|rw[zw]|((first|refine hK _ ?_|refine hKp _ _ ?_);clear hK hKp K Kp;try clear hanc anc)|((with_reducible refine And.intro ?_ ?_);exact zb)|((first|refine zr hE fun K Kp hK hKp=>?_|refine zd false mixed hE fun K Kp hK hKp anc hanc=>?_);simp only[go_sem,ge_dec,Vl.cs])|(refine zg (fun hg=>?_) (fun hg=>?_)<;>simp only[go_sem,ge_dec,Vl.cs,hg])|(refine zc (fun hc=>?_) (fun hc=>?_)<;>try exact zh hc)|(refine K_ret ?_;refine zt hQ ?_))
   simp[AV.snap,hx,h1,h2,h3,h4,h6,h7,h8,ht]
 ·have hne:decide (a=b)=false:=by
   simp only[decide_eq_false_iff_not,hx]
   rintro⟨h1,h2,h3,h4,h5,h6,h7,h8⟩
   exact hall ⟨h1,h2,h3,h4,by rw[h5],h6,h7,h8⟩
  rw[hne]
  have i1:=ints_call a.path b.path (by omega)
  have i2:=ints_call a.loans b.loans (by omega)
  refine PCall.intro Try.func35 rfl isf35 (by simp[Try.f35]) (by simp[AV.cloL,AV.clo]) fun E Q hE hN hQ=>K_start ?_
  repeat'(first|apply nx|refine zx ?_|rw[zw]|((first|refine hK _ ?_|refine hKp _ _ ?_);clear hK hKp K Kp;try clear hanc anc)|((with_reducible refine And.intro ?_ ?_);exact zb)|((first|refine zr hE fun K Kp hK hKp=>?_|refine zd false mixed hE fun K Kp hK hKp anc hanc=>?_|(apply zm;exact zu;(first|exact i1|exact i2);exact zs;exact zl));simp only[go_sem])|(refine zg (fun hg=>?_) (fun hg=>?_)<;>simp only[go_sem,hg])|(refine zc (fun hc=>?_) (fun hc=>?_)<;>try exact zh hc)|(refine K_ret ?_;refine zt hQ ?_))
  all_goals first|(simp only[AV.snap];done)|rfl|skip
  all_goals (exfalso;clear hQ;apply hall;simp_all;omega)

theorem cl_cons (x:Cl) (l:List Cl):cl (x::l)=x.av::cl l:=rfl
theorem bl_nil:bl []=[]:=rfl
theorem bl_cons (x:Bool) (l:List Bool):bl (x::l)= .bool x::bl l:=rfl
theorem clone54_nc (l:List Cl) (hl:l.length≤2 ^ 20):ACall Try.prog 95 [.sl (cl l)] (fun _=>none) 0 0 (fun r hp'=>r= .rw 0∧hp'=mkHp [(0,.row 10 (cl l))]) (fun _ _=>False):=by
 refine ACall.of_bodyR Try.func95 isf95 rfl (by simp[Try.f95]) fun E Q hE hN hQ hQp=>K_start ?_
 have hsz:=szok_cl l
 have hlen:(cl l).length=l.length:=cl_len l
 cases l with
 |nil=>
  repeat(first|refine K_seq ?_|refine K_blk ?_|refine AW_skip ?_|refine Kq_norm_code ?_|refine Kq_norm_blk ?_)
  refine zr hE fun K Kp hK hKp=>?_
  simp only[go_sem,cl_nil]
  refine hK _ ?_;clear hK hKp K Kp;try clear hanc anc
  repeat(first|refine Kq_norm_code ?_|refine Kq_norm_blk ?_|refine Kq_norm_lp ?_)
  repeat(first|refine K_seq ?_|refine K_blk ?_|refine AW_skip ?_|refine Kq_norm_code ?_|refine Kq_norm_blk ?_)
  refine AW_nilq Try.underlying26 (by rw[hE];decide) (by rw[hE];decide) (by decide) (by simp only[go_sem,cl_nil]) fun b=>?_
  cases b
  ·repeat'(first|apply nx|refine zx ?_|rw[zw]|((first|refine hK _ ?_|refine hKp _ _ ?_);clear hK hKp K Kp;try clear hanc anc)|((with_reducible refine And.intro ?_ ?_);exact zb)|((first|refine zr hE fun K Kp hK hKp=>?_|refine zd true mixed hE fun K Kp hK hKp anc hanc=>?_|refine zd false mixed hE fun K Kp hK hKp anc hanc=>?_);simp only[go_sem,cl_nil])|(refine zg (fun hg=>?_) (fun hg=>?_)<;>simp only[go_sem,cl_nil,hg])|(refine zc (fun hc=>?_) (fun hc=>?_)<;>try exact zh hc))
   refine K_ret (hQ _ ⟨.rw 0,fun _=>3145728,_,1,resA_tmp (by simp only[go_sem,bl_nil]),(by simp[AV.ids,AV.idsL]),?_,rfl,rfl⟩).1
   show Ent _ _ _ (mkSt [] [(0,.row 10 (cl []))] 1)
   refine ent_mk (by simp[go_sem,bl_nil]) (by simp[go_sem,bl_nil]) (by simp) (by simp[hN])
  ·repeat'(first|apply nx|refine zx ?_|rw[zw]|((first|refine hK _ ?_|refine hKp _ _ ?_);clear hK hKp K Kp;try clear hanc anc)|((with_reducible refine And.intro ?_ ?_);exact zb)|((first|refine zr hE fun K Kp hK hKp=>?_|refine zd true mixed hE fun K Kp hK hKp anc hanc=>?_|refine zd false mixed hE fun K Kp hK hKp anc hanc=>?_);simp only[go_sem,cl_nil])|(refine zg (fun hg=>?_) (fun hg=>?_)<;>simp only[go_sem,cl_nil,hg])|(refine zc (fun hc=>?_) (fun hc=>?_)<;>try exact zh hc))
   refine AW_nil 2 10 (by rw[hE];decide) (by simp only[go_sem]) ?_
   refine K_ret (hQ _ ⟨.rw 0,fun _=>2097152,_,1,resA_tmp (by simp only[go_sem,bl_nil]),(by simp[AV.ids,AV.idsL]),?_,rfl,rfl⟩).1
   show Ent _ _ _ (mkSt [] [(0,.row 10 (cl []))] 1)
   refine ent_mk (by simp[go_sem,bl_nil]) (by simp[go_sem,bl_nil]) (by simp) (by simp[hN])
 |cons x l=>
  repeat'(first|apply nx|refine zx ?_|rw[zw]|((first|refine hK _ ?_|refine hKp _ _ ?_);clear hK hKp K Kp;try clear hanc anc)|((with_reducible refine And.intro ?_ ?_);exact zb)|((first|refine zr hE fun K Kp hK hKp=>?_|refine zd true mixed hE fun K Kp hK hKp anc hanc=>?_|refine zd false mixed hE fun K Kp hK hKp anc hanc=>?_);simp only[go_sem,cl_cons])|(refine zg (fun hg=>?_) (fun hg=>?_)<;>simp only[go_sem,cl_cons,hg])|(refine zc (fun hc=>?_) (fun hc=>?_)<;>try exact zh hc))
  refine⟨⟨hsz,(by simp only[List.length_cons] at hl;simp only[Fits];omega)⟩,?_⟩
  repeat'(first|apply nx|refine zx ?_|rw[zw]|((first|refine hK _ ?_|refine hKp _ _ ?_);clear hK hKp K Kp;try clear hanc anc)|((with_reducible refine And.intro ?_ ?_);exact zb)|((first|refine zr hE fun K Kp hK hKp=>?_|refine zd true mixed hE fun K Kp hK hKp anc hanc=>?_|refine zd false mixed hE fun K Kp hK hKp anc hanc=>?_);simp only[go_sem,cl_cons])|(refine zg (fun hg=>?_) (fun hg=>?_)<;>simp only[go_sem,cl_cons,hg])|(refine zc (fun hc=>?_) (fun hc=>?_)<;>try exact zh hc))
  refine K_ret (hQ _ ⟨.rw 0,fun _=>5242880,_,1,resA_tmp (by simp only[go_sem,cl_cons]),(by simp[AV.ids,AV.idsL]),?_,rfl,rfl⟩).1
  show Ent _ _ _ (mkSt [] [(0,.row 10 (cl (x::l)))] 1)
  refine ent_mk (by simp[go_sem,cl_cons]) (by simp[go_sem,cl_cons]) (by simp) (by simp[hN])
theorem clone55_nc (l:List Bool) (hl:l.length≤2 ^ 20):ACall Try.prog 96 [.sl (bl l)] (fun _=>none) 0 0 (fun r hp'=>r= .rw 0∧hp'=mkHp [(0,.row 1 (bl l))]) (fun _ _=>False):=by
 refine ACall.of_bodyR Try.func96 isf96 rfl (by simp[Try.f96]) fun E Q hE hN hQ hQp=>K_start ?_
 have hsz:=szok_bl l
 have hlen:(bl l).length=l.length:=bl_len l
 cases l with
 |nil=>
  repeat(first|refine K_seq ?_|refine K_blk ?_|refine AW_skip ?_|refine Kq_norm_code ?_|refine Kq_norm_blk ?_)
  refine zr hE fun K Kp hK hKp=>?_
  simp only[go_sem,bl_nil]
  refine hK _ ?_;clear hK hKp K Kp;try clear hanc anc
  repeat(first|refine Kq_norm_code ?_|refine Kq_norm_blk ?_|refine Kq_norm_lp ?_)
  repeat(first|refine K_seq ?_|refine K_blk ?_|refine AW_skip ?_|refine Kq_norm_code ?_|refine Kq_norm_blk ?_)
  refine AW_nilq Try.underlying27 (by rw[hE];decide) (by rw[hE];decide) (by decide) (by simp only[go_sem,bl_nil]) fun b=>?_
  cases b
  ·repeat'(first|apply nx|refine zx ?_|rw[zw]|((first|refine hK _ ?_|refine hKp _ _ ?_);clear hK hKp K Kp;try clear hanc anc)|((with_reducible refine And.intro ?_ ?_);exact zb)|((first|refine zr hE fun K Kp hK hKp=>?_|refine zd true mixed hE fun K Kp hK hKp anc hanc=>?_|refine zd false mixed hE fun K Kp hK hKp anc hanc=>?_);simp only[go_sem,bl_nil])|(refine zg (fun hg=>?_) (fun hg=>?_)<;>simp only[go_sem,bl_nil,hg])|(refine zc (fun hc=>?_) (fun hc=>?_)<;>try exact zh hc))
   refine K_ret (hQ _ ⟨.rw 0,fun _=>3145728,_,1,resA_tmp (by simp only[go_sem,bl_nil]),(by simp[AV.ids,AV.idsL]),?_,rfl,rfl⟩).1
   show Ent _ _ _ (mkSt [] [(0,.row 1 (bl []))] 1)
   refine ent_mk (by simp[go_sem,bl_nil]) (by simp[go_sem,bl_nil]) (by simp) (by simp[hN])
  ·repeat'(first|apply nx|refine zx ?_|rw[zw]|((first|refine hK _ ?_|refine hKp _ _ ?_);clear hK hKp K Kp;try clear hanc anc)|((with_reducible refine And.intro ?_ ?_);exact zb)|((first|refine zr hE fun K Kp hK hKp=>?_|refine zd true mixed hE fun K Kp hK hKp anc hanc=>?_|refine zd false mixed hE fun K Kp hK hKp anc hanc=>?_);simp only[go_sem,bl_nil])|(refine zg (fun hg=>?_) (fun hg=>?_)<;>simp only[go_sem,bl_nil,hg])|(refine zc (fun hc=>?_) (fun hc=>?_)<;>try exact zh hc))
   refine AW_nil 2 1 (by rw[hE];decide) (by simp only[go_sem]) ?_
   refine K_ret (hQ _ ⟨.rw 0,fun _=>2097152,_,1,resA_tmp (by simp only[go_sem,bl_nil]),(by simp[AV.ids,AV.idsL]),?_,rfl,rfl⟩).1
   show Ent _ _ _ (mkSt [] [(0,.row 1 (bl []))] 1)
   refine ent_mk (by simp[go_sem,bl_nil]) (by simp[go_sem,bl_nil]) (by simp) (by simp[hN])
 |cons x l=>
  repeat'(first|apply nx|refine zx ?_|rw[zw]|((first|refine hK _ ?_|refine hKp _ _ ?_);clear hK hKp K Kp;try clear hanc anc)|((with_reducible refine And.intro ?_ ?_);exact zb)|((first|refine zr hE fun K Kp hK hKp=>?_|refine zd true mixed hE fun K Kp hK hKp anc hanc=>?_|refine zd false mixed hE fun K Kp hK hKp anc hanc=>?_);simp only[go_sem,bl_cons])|(refine zg (fun hg=>?_) (fun hg=>?_)<;>simp only[go_sem,bl_cons,hg])|(refine zc (fun hc=>?_) (fun hc=>?_)<;>try exact zh hc))
  refine⟨⟨hsz,(by simp only[List.length_cons] at hl;simp only[Fits];omega)⟩,?_⟩
  repeat'(first|apply nx|refine zx ?_|rw[zw]|((first|refine hK _ ?_|refine hKp _ _ ?_);clear hK hKp K Kp;try clear hanc anc)|((with_reducible refine And.intro ?_ ?_);exact zb)|((first|refine zr hE fun K Kp hK hKp=>?_|refine zd true mixed hE fun K Kp hK hKp anc hanc=>?_|refine zd false mixed hE fun K Kp hK hKp anc hanc=>?_);simp only[go_sem,bl_cons])|(refine zg (fun hg=>?_) (fun hg=>?_)<;>simp only[go_sem,bl_cons,hg])|(refine zc (fun hc=>?_) (fun hc=>?_)<;>try exact zh hc))
  refine K_ret (hQ _ ⟨.rw 0,fun _=>5242880,_,1,resA_tmp (by simp only[go_sem,bl_cons]),(by simp[AV.ids,AV.idsL]),?_,rfl,rfl⟩).1
  show Ent _ _ _ (mkSt [] [(0,.row 1 (bl (x::l)))] 1)
  refine ent_mk (by simp[go_sem,bl_cons]) (by simp[go_sem,bl_cons]) (by simp) (by simp[hN])
def fT41:Tr:= .alt 0 (.alt 1 (.alt 2 (.alt 3 (.alt 4 (.alt 5 (.alt 6 (.alt 7 .leaf .nil) .nil) .nil) .nil) .nil) (.alt 3 (.alt 2 (.alt 4 (.alt 5 (.alt 6 (.alt 7 .leaf .nil) .nil) .nil) .nil) (.alt 4 (.alt 2 (.alt 5 (.alt 6 (.alt 7 .leaf .nil) .nil) .nil) .nil) .nil)) .nil)) (.alt 3 (.alt 1 (.alt 2 (.alt 4 (.alt 5 (.alt 6 (.alt 7 .leaf .nil) .nil) .nil) .nil) (.alt 4 (.alt 2 (.alt 5 (.alt 6 (.alt 7 .leaf .nil) .nil) .nil) .nil) .nil)) (.alt 4 (.alt 1 (.alt 2 (.alt 5 (.alt 6 (.alt 7 .leaf .nil) .nil) .nil) .nil) .nil) .nil)) .nil)) (.alt 3 (.alt 0 (.alt 1 (.alt 2 (.alt 4 (.alt 5 (.alt 6 (.alt 7 .leaf .nil) .nil) .nil) .nil) (.alt 4 (.alt 2 (.alt 5 (.alt 6 (.alt 7 .leaf .nil) .nil) .nil) .nil) .nil)) (.alt 4 (.alt 1 (.alt 2 (.alt 5 (.alt 6 (.alt 7 .leaf .nil) .nil) .nil) .nil) .nil) .nil)) (.alt 4 (.alt 0 (.alt 1 (.alt 2 (.alt 5 (.alt 6 (.alt 7 .leaf .nil) .nil) .nil) .nil) .nil) .nil) .nil)) .nil)
theorem clone_nc (h:Hp) (hl:h.cells.length≤2 ^ 20) (ha:h.arenas.length≤2 ^ 20):ACall Try.prog 89 [h.av] (fun _=>none) 0 0 (fun r hp'=>r= .agg [.rw 0,.rw 1]∧hp'=mkHp [(0,.row 10 (cl h.cells)),(1,.row 1 (bl h.arenas))]) (fun _ _=>False):=by
 have c1:=clone54_nc h.cells hl
 have c2:=clone55_nc h.arenas ha
 rw[Hp.av_eq]
 refine ACall.of_bodyR Try.func89 isf89 rfl (by simp[Try.f89]) fun E Q hE hN hQ hQp=>K_start ?_
 repeat'(first|apply nx|refine zx ?_|rw[zw]|((first|refine hK _ ?_|refine hKp _ _ ?_);clear hK hKp K Kp;try clear hanc anc)|((with_reducible refine And.intro ?_ ?_);exact zb)|((first|refine zr hE fun K Kp hK hKp=>?_);simp only[go_sem])|(refine zg (fun hg=>?_) (fun hg=>?_)<;>simp only[go_sem,hg])|(refine zc (fun hc=>?_) (fun hc=>?_)<;>try exact zh hc)|(refine K_ret ?_;refine zt hQ ?_))
 refine K_allG (mkSt [(2,.ptr 0 0)] [(0,.cells [.rw 1,.rw 2]),(1,.row 10 (cl h.cells)),(2,.row 1 (bl h.arenas))] 3) fT41 mixed hE (fun σ m he=>?_) fun Kp hKp=>?_
 ·refine Kq_norm_code ?_
  refine AW.ent m he ?_
  refine K_ret (hQ _ ⟨.agg [.rw 0,.rw 1],fun i=>i+1,_,2,(by simp[resA,rvA,Try.f89,go_sem];rfl),(by simp[AV.ids,AV.idsL]),?_,rfl,rfl⟩).1
  show Ent _ _ _ (mkSt [] [(0,.row 10 (cl h.cells)),(1,.row 1 (bl h.arenas))] 2)
  refine ent_mk (by simp[go_sem]) (by simp[go_sem]) (by simp) (by simp[hN])
 ·unfold fT41
  repeat'(first|refine goTr_one rfl ?_|refine goTr_alt rfl ?_ ?_|simp only[go_sem]|refine Hold.mk (CallB.newRow c1 (by simp[AV.cloL,AV.clo]) (cl_clo _) ?_)|refine Hold.mk (CallB.newRow c2 (by simp[AV.cloL,AV.clo]) (bl_clo _) ?_))
  all_goals refine⟨fun i=>if i=0 then 1048576 else if i=1 then 4194304 else 7340032,?_⟩
  all_goals show Ent E.np _ _ (mkSt [(2,.ptr 0 0)] [(0,.cells [.rw 1,.rw 2]),(1,.row 10 (cl h.cells)),(2,.row 1 (bl h.arenas))] 3)
  all_goals refine ent_mk (by simp[go_sem]) (by simp[go_sem]) (by simp) (by simp[hN])

@[go_sem] theorem _root_.Go.Hv.Cl.cs_take (c:Cl):List.take 10 c.cs=c.cs:=rfl
@[go_sem] theorem _root_.Go.Hv.Vl.cs_take (c:Vl):List.take 8 c.cs=c.cs:=rfl
theorem sameV (a b:Vl) (h:a.sz<2 ^ 40):PCall Try.prog 35 [.agg a.cs,.agg b.cs] (.bool (decide (a=b))):=by
 have:=sameV_call (2 ^ 40) a b h (Nat.le_refl _)
 rwa [Vl.av_cs,Vl.av_cs] at this
theorem Cl.eq_iff (a b:Cl):a=b↔a.live=b.live∧a.arena=b.arena∧a.v=b.v:=⟨by rintro rfl;simp,fun⟨h1,h2,h3⟩=>Cl.ext' h1 h2 h3⟩
theorem sameC_call (a b:Cl) (h:a.v.sz<2 ^ 40):PCall Try.prog 23 [.agg a.cs,.agg b.cs] (.bool (decide (a=b))):=by
 have h0:=sameV a.v b.v h
 have hx:=Cl.eq_iff a b
 have e0:decide (a=b)=(a.live==b.live&&(a.arena==b.arena&&decide (a.v=b.v))):=by
  simp only[hx]
  cases h1:a.live==b.live<;>cases h2:a.arena==b.arena<;>simp_all
 rw[e0]
 rw[Cl.cs_eq,Cl.cs_eq]
 refine PCall.intro Try.func23 rfl isf23 (by simp[Try.f23]) (by simp[AV.cloL,AV.clo]) fun E Q hE hN hQ=>K_start ?_
 cases q1:a.live==b.live
 ·repeat'(first|apply nx|refine zx ?_|rw[zw]|((first|refine hK _ ?_|refine hKp _ _ ?_);clear hK hKp K Kp;try clear hanc anc)|((with_reducible refine And.intro ?_ ?_);exact zb)|((first|refine zr hE fun K Kp hK hKp=>?_|refine zd false mixed hE fun K Kp hK hKp anc hanc=>?_);simp only[go_sem,q1])|(refine zg (fun hg=>?_) (fun hg=>?_)<;>simp only[go_sem,q1,hg])|(refine zc (fun hc=>?_) (fun hc=>?_)<;>try exact zh hc)|(refine K_ret ?_;refine zt hQ ?_))
  simp[AV.snap,q1]
 ·cases q2:a.arena==b.arena
  ·repeat'(first|apply nx|refine zx ?_|rw[zw]|((first|refine hK _ ?_|refine hKp _ _ ?_);clear hK hKp K Kp;try clear hanc anc)|((with_reducible refine And.intro ?_ ?_);exact zb)|((first|refine zr hE fun K Kp hK hKp=>?_|refine zd false mixed hE fun K Kp hK hKp anc hanc=>?_);simp only[go_sem,q1,q2])|(refine zg (fun hg=>?_) (fun hg=>?_)<;>simp only[go_sem,q1,q2,hg])|(refine zc (fun hc=>?_) (fun hc=>?_)<;>try exact zh hc)|(refine K_ret ?_;refine zt hQ ?_))
   simp[AV.snap,q1,q2]
  ·repeat'(first|apply nx|refine zx ?_|rw[zw]|((first|refine hK _ ?_|refine hKp _ _ ?_);clear hK hKp K Kp;try clear hanc anc)|((with_reducible refine And.intro ?_ ?_);exact zb)|((first|refine zr hE fun K Kp hK hKp=>?_|refine zd false mixed hE fun K Kp hK hKp anc hanc=>?_|(apply zm;exact zu;exact h0;exact zs;exact zl));simp only[go_sem,q1,q2])|(refine zg (fun hg=>?_) (fun hg=>?_)<;>simp only[go_sem,q1,q2,hg])|(refine zc (fun hc=>?_) (fun hc=>?_)<;>try exact zh hc)|(refine K_ret ?_;refine zt hQ ?_))
   simp[AV.snap,q1,q2]
def liveN:List Cl→Nat
 | []=>0
 |c::l=>(if c.live then 1 else 0)+liveN l
theorem liveN_le:∀ l:List Cl,liveN l≤l.length
 | []=>Nat.le_refl _
 |c::l=>by have:=liveN_le l;simp only[liveN,List.length_cons];split<;>omega
theorem live_call (h:Hp) (hl:h.cells.length≤2 ^ 40):PCall Try.prog 30 [h.av] (.i (liveN h.cells)):=by
 rw[Hp.av_eq]
 refine PCall.intro Try.func30 rfl isf30 (by simp[Try.f30]) (by simp[AV.cloL,AV.clo]) fun E Q hE hN hQ=>K_start ?_
 repeat'(first|apply nx|refine zx ?_|rw[zw]|((first|refine hK _ ?_|refine hKp _ _ ?_);clear hK hKp K Kp;try clear hanc anc)|((with_reducible refine And.intro ?_ ?_);exact zb)|((first|refine zr hE fun K Kp hK hKp=>?_|refine zd false mixed hE fun K Kp hK hKp anc hanc=>?_);simp only[go_sem])|(refine zg (fun hg=>?_) (fun hg=>?_)<;>simp only[go_sem,hg])|(refine zc (fun hc=>?_) (fun hc=>?_)<;>try exact zh hc)|(refine K_ret ?_;refine zt hQ ?_))
 have hle:=liveN_le h.cells
 refine K_loop (X:=Nat×Nat) (fun x=>x.1≤h.cells.length∧x.2+liveN (h.cells.drop x.1)=liveN h.cells) (fun x=>mkSt [(1,.ptr 0 0),(3,AV.i x.2),(4,AV.i x.1)] [(0,.cells [.sl (cl h.cells),.sl (bl h.arenas)])] 1) (fun x=>h.cells.length - x.1) (0,0) ⟨Nat.zero_le _,by simp⟩ (fun i=>i) (by refine ent_mk (by simp[go_sem]) (by simp[go_sem]) (by simp) (by simp[hN])) ?_
 rintro⟨i,n⟩ ⟨hi,ht⟩
 simp only at hi ht
 by_cases hlt:i<h.cells.length
 ·obtain⟨c,hcc⟩:=get?_of hlt
  rw[drop_of hcc,liveN] at ht
  cases hv:c.live
  ·rw[hv] at ht
   repeat'(first|apply nx|refine zx ?_|rw[zw]|((first|refine hK _ ?_|refine hKp _ _ ?_);clear hK hKp K Kp;try clear hanc anc)|((with_reducible refine And.intro ?_ ?_);exact zb)|((first|refine zr hE fun K Kp hK hKp=>?_|refine zd false mixed hE fun K Kp hK hKp anc hanc=>?_);simp only[go_sem,lt_dec hlt,hcc,Cl.av,Cl.cs_eq,hv])|(refine zg (fun hg=>?_) (fun hg=>?_)<;>simp only[go_sem,lt_dec hlt,hcc,Cl.av,Cl.cs_eq,hv,hg])|(refine zc (fun hc=>?_) (fun hc=>?_)<;>try exact zh hc)|(refine K_ret ?_;refine zt hQ ?_))
   exact⟨(i+1,n),⟨by simp only;omega,by simp only;simpa using ht⟩,by simp only;omega,fun i=>i,by refine ent_mk (by simp[go_sem]) (by simp[go_sem]) (by simp) (by simp[hN])⟩
  ·rw[hv] at ht
   repeat'(first|apply nx|refine zx ?_|rw[zw]|((first|refine hK _ ?_|refine hKp _ _ ?_);clear hK hKp K Kp;try clear hanc anc)|((with_reducible refine And.intro ?_ ?_);exact zb)|((first|refine zr hE fun K Kp hK hKp=>?_|refine zd false mixed hE fun K Kp hK hKp anc hanc=>?_);simp only[go_sem,lt_dec hlt,hcc,Cl.av,Cl.cs_eq,hv])|(refine zg (fun hg=>?_) (fun hg=>?_)<;>simp only[go_sem,lt_dec hlt,hcc,Cl.av,Cl.cs_eq,hv,hg])|(refine zc (fun hc=>?_) (fun hc=>?_)<;>try exact zh hc)|(refine K_ret ?_;refine zt hQ ?_))
   exact⟨(i+1,n+1),⟨by simp only;omega,by simp only;simp only[if_true] at ht;omega⟩,by simp only;omega,fun i=>i,by refine ent_mk (by simp[go_sem]) (by simp[go_sem]) (by simp) (by simp[hN])⟩
 ·obtain rfl:i=h.cells.length:=by omega
  rw[List.drop_length,liveN] at ht
  repeat'(first|apply nx|refine zx ?_|rw[zw]|((first|refine hK _ ?_|refine hKp _ _ ?_);clear hK hKp K Kp;try clear hanc anc)|((with_reducible refine And.intro ?_ ?_);exact zb)|((first|refine zr hE fun K Kp hK hKp=>?_|refine zd false mixed hE fun K Kp hK hKp anc hanc=>?_);simp only[go_sem,ge_dec])|(refine zg (fun hg=>?_) (fun hg=>?_)<;>simp only[go_sem,ge_dec,hg])|(refine zc (fun hc=>?_) (fun hc=>?_)<;>try exact zh hc)|(refine K_ret ?_;refine zt hQ ?_))
  simp[AV.snap];omega
end Go.Proofs.Ytfgjjnfdcgkpoaa
