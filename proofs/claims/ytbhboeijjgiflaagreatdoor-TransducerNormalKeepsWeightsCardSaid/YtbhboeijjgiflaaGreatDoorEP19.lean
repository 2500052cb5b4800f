/-
Proofs for the law TransducerNormalKeepsWeights, part 19. Conditions: none.
-/
import Derived.Test.YtbhboeijjgiflaaGreatDoorEP18
import Derived.KernelRfl
set_option maxRecDepth 100000
set_option maxHeartbeats 4000000
set_option linter.all false
namespace Go.Ab
open Go.Proofs
theorem c.ft:zad P F.ft=some ⟨24,2,g.ft.er,[(4,none)]⟩:=by kernel_rfl
theorem c.fu:zad P F.fu=some ⟨9,2,g.fu.er,[(4,none)]⟩:=by kernel_rfl
theorem c.gm:zad P F.gm=some ⟨20,2,g.gm.er,[(4,none)]⟩:=by kernel_rfl
theorem c.jy:zad P F.jy=some ⟨18,1,g.jy.er,[(2,none)]⟩:=by kernel_rfl
theorem c.kj:zad P F.kj=some ⟨6,1,g.kj.er,[(2,none)]⟩:=by kernel_rfl
theorem c.l8:zad P F.l8=some ⟨118,5,g.l8.er,[(10,none)]⟩:=by kernel_rfl
theorem c.i6:zad P F.i6=some ⟨47,0,g.i6.er,[(0,none)]⟩:=by kernel_rfl
theorem c.aj:zad P F.aj=some ⟨15,2,g.aj.er,[(4,none)]⟩:=by kernel_rfl
theorem c.i7:zad P F.i7=some ⟨144,5,g.i7.er,[(10,some 8)]⟩:=by kernel_rfl
theorem c.jp:zad P F.jp=some ⟨11,1,g.jp.er,[(2,some 3)]⟩:=by kernel_rfl
theorem c.i9:zad P F.i9=some ⟨18,1,g.i9.er,[(2,some 2)]⟩:=by kernel_rfl
theorem c.ak:zad P F.ak=some ⟨83,2,g.ak.er,[(4,some 8)]⟩:=by kernel_rfl
theorem c.bv:zad P F.bv=some ⟨31,3,g.bv.er,[(6,none)]⟩:=by kernel_rfl
theorem c.fi:zad P F.fi=some ⟨28,4,g.fi.er,[(8,some 8)]⟩:=by kernel_rfl
theorem c.l6:zad P F.l6=some ⟨6,1,g.l6.er,[(2,none)]⟩:=by kernel_rfl
theorem c.l5:zad P F.l5=some ⟨8,1,g.l5.er,[(2,none)]⟩:=by kernel_rfl
theorem c.ff:zad P F.ff=some ⟨19,1,g.ff.er,[(2,none)]⟩:=by kernel_rfl
theorem c.l4:zad P F.l4=some ⟨25,1,g.l4.er,[(2,none)]⟩:=by kernel_rfl
theorem c.j5:zad P F.j5=some ⟨30,2,g.j5.er,[(4,none),(5,none)]⟩:=by kernel_rfl
theorem c.ko:zad P F.ko=some ⟨51,2,g.ko.er,[(4,none),(5,none)]⟩:=by kernel_rfl
theorem c.kr:zad P F.kr=some ⟨29,2,g.kr.er,[(4,none)]⟩:=by kernel_rfl
theorem c.kx:zad P F.kx=some ⟨54,2,g.kx.er,[(4,none)]⟩:=by kernel_rfl
theorem c.ij:zad P F.ij=some ⟨32,1,g.ij.er,[(2,none)]⟩:=by kernel_rfl
theorem c.iy:zad P F.iy=some ⟨15,1,g.iy.er,[(2,none)]⟩:=by kernel_rfl
theorem c.ld:zad P F.ld=some ⟨32,1,g.ld.er,[(2,none)]⟩:=by kernel_rfl
theorem c.ir:zad P F.ir=some ⟨21,2,g.ir.er,[(4,none)]⟩:=by kernel_rfl
theorem c.bt:zad P F.bt=some ⟨16,3,g.bt.er,[]⟩:=by kernel_rfl
theorem c.fb:zad P F.fb=some ⟨25,1,g.fb.er,[(2,none)]⟩:=by kernel_rfl
theorem c.bu:zad P F.bu=some ⟨10,2,g.bu.er,[(4,none)]⟩:=by kernel_rfl
theorem c.db:zad P F.db=some ⟨6,1,g.db.er,[(2,none)]⟩:=by kernel_rfl
theorem c.d7:zad P F.d7=some ⟨11,2,g.d7.er,[(4,some 3)]⟩:=by kernel_rfl
theorem c.ii:zad P F.ii=some ⟨9,2,g.ii.er,[(4,none)]⟩:=by kernel_rfl
theorem c.ip:zad P F.ip=some ⟨30,2,g.ip.er,[(4,some 3),(5,none)]⟩:=by kernel_rfl
theorem c.ig:zad P F.ig=some ⟨28,2,g.ig.er,[(4,some 3)]⟩:=by kernel_rfl
theorem c.ch:zad P F.ch=some ⟨14,1,g.ch.er,[(2,none)]⟩:=by kernel_rfl
theorem c.k9:zad P F.k9=some ⟨12,2,g.k9.er,[(4,some 3)]⟩:=by kernel_rfl
theorem c.d5:zad P F.d5=some ⟨48,1,g.d5.er,[(2,none)]⟩:=by kernel_rfl
theorem c.lk:zad P F.lk=some ⟨11,1,g.lk.er,[(2,some 3)]⟩:=by kernel_rfl
theorem c.iq:zad P F.iq=some ⟨53,2,g.iq.er,[(4,some 3)]⟩:=by kernel_rfl
theorem c.da:zad P F.da=some ⟨45,1,g.da.er,[(2,some 3)]⟩:=by kernel_rfl
theorem c.bi:zad P F.bi=some ⟨14,2,g.bi.er,[(4,none)]⟩:=by kernel_rfl
theorem c.ar:zad P F.ar=some ⟨21,1,g.ar.er,[(2,none)]⟩:=by kernel_rfl
theorem c.cr:zad P F.cr=some ⟨34,2,g.cr.er,[(4,none)]⟩:=by kernel_rfl
theorem c.io:zad P F.io=some ⟨19,2,g.io.er,[(4,none)]⟩:=by kernel_rfl
theorem c.fe:zad P F.fe=some ⟨45,2,g.fe.er,[(4,none)]⟩:=by kernel_rfl
theorem c.lr:zad P F.lr=some ⟨17,1,g.lr.er,[(2,none)]⟩:=by kernel_rfl
theorem c.fc:zad P F.fc=some ⟨36,2,g.fc.er,[(4,none)]⟩:=by kernel_rfl
theorem c.iu:zad P F.iu=some ⟨111,2,g.iu.er,[(4,none),(5,none)]⟩:=by kernel_rfl
theorem c.lj:zad P F.lj=some ⟨39,2,g.lj.er,[(4,none)]⟩:=by kernel_rfl
theorem c.l3:zad P F.l3=some ⟨33,2,g.l3.er,[(4,none)]⟩:=by kernel_rfl
theorem c.lm:zad P F.lm=some ⟨43,2,g.lm.er,[(4,none),(5,none)]⟩:=by kernel_rfl
theorem c.fa:zad P F.fa=some ⟨59,2,g.fa.er,[(4,none)]⟩:=by kernel_rfl
end Go.Ab
