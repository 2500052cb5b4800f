/-
Proofs for the law TransducerSumsPaths, part 20. Conditions: none.
-/
import Derived.Test.YtbhboeijjgiflaaGreatDoorDP18
import Derived.KernelRfl
set_option maxRecDepth 100000
set_option maxHeartbeats 4000000
set_option linter.all false
namespace Go.Ab
open Go.Proofs
theorem c.da:zad P F.da=some ⟨27,1,g.da.er,[(2,some 3)]⟩:=by kernel_rfl
theorem c.fa:zad P F.fa=some ⟨2,0,g.fa.er,[(0,none)]⟩:=by kernel_rfl
theorem c.lr:zad P F.lr=some ⟨15,1,g.lr.er,[(2,none)]⟩:=by kernel_rfl
theorem c.l8:zad P F.l8=some ⟨20,1,g.l8.er,[(2,none),(3,none)]⟩:=by kernel_rfl
theorem c.dm:zad P F.dm=some ⟨59,2,g.dm.er,[(4,some 3)]⟩:=by kernel_rfl
theorem c.j6:zad P F.j6=some ⟨9,2,g.j6.er,[(4,none)]⟩:=by kernel_rfl
theorem c.ft:zad P F.ft=some ⟨9,2,g.ft.er,[(4,none)]⟩:=by kernel_rfl
theorem c.jw:zad P F.jw=some ⟨21,2,g.jw.er,[(4,some 3),(5,none)]⟩:=by kernel_rfl
theorem c.fv:zad P F.fv=some ⟨25,2,g.fv.er,[(4,some 3)]⟩:=by kernel_rfl
theorem c.ln:zad P F.ln=some ⟨16,1,g.ln.er,[(2,some 3)]⟩:=by kernel_rfl
theorem c.av:zad P F.av=some ⟨14,2,g.av.er,[(4,some 3)]⟩:=by kernel_rfl
theorem c.bx:zad P F.bx=some ⟨24,2,g.bx.er,[(4,none)]⟩:=by kernel_rfl
theorem c.b7:zad P F.b7=some ⟨13,1,g.b7.er,[(2,none)]⟩:=by kernel_rfl
theorem c.kx:zad P F.kx=some ⟨9,2,g.kx.er,[(4,some 3)]⟩:=by kernel_rfl
theorem c.ba:zad P F.ba=some ⟨16,1,g.ba.er,[(2,some 3)]⟩:=by kernel_rfl
theorem c.bf:zad P F.bf=some ⟨65,1,g.bf.er,[(2,none)]⟩:=by kernel_rfl
theorem c.ki:zad P F.ki=some ⟨12,1,g.ki.er,[(2,none)]⟩:=by kernel_rfl
theorem c.gm:zad P F.gm=some ⟨45,2,g.gm.er,[(4,none)]⟩:=by kernel_rfl
theorem c.gk:zad P F.gk=some ⟨10,1,g.gk.er,[(2,none)]⟩:=by kernel_rfl
theorem c.ii:zad P F.ii=some ⟨58,2,g.ii.er,[(4,none),(5,none)]⟩:=by kernel_rfl
theorem c.ig:zad P F.ig=some ⟨19,2,g.ig.er,[(4,none)]⟩:=by kernel_rfl
theorem c.im:zad P F.im=some ⟨14,2,g.im.er,[(4,none)]⟩:=by kernel_rfl
theorem c.gn:zad P F.gn=some ⟨35,2,g.gn.er,[(4,none)]⟩:=by kernel_rfl
theorem c.kg:zad P F.kg=some ⟨10,1,g.kg.er,[(2,none)]⟩:=by kernel_rfl
theorem c.ij:zad P F.ij=some ⟨12,1,g.ij.er,[(2,none)]⟩:=by kernel_rfl
theorem c.dz:zad P F.dz=some ⟨37,3,g.dz.er,[(6,some 3)]⟩:=by kernel_rfl
theorem c.gl:zad P F.gl=some ⟨36,2,g.gl.er,[(4,none)]⟩:=by kernel_rfl
theorem c.jv:zad P F.jv=some ⟨26,2,g.jv.er,[(4,none)]⟩:=by kernel_rfl
theorem c.io:zad P F.io=some ⟨9,1,g.io.er,[(2,none)]⟩:=by kernel_rfl
theorem c.gj:zad P F.gj=some ⟨68,2,g.gj.er,[(4,none)]⟩:=by kernel_rfl
theorem c.bs:zad P F.bs=some ⟨21,1,g.bs.er,[(2,none)]⟩:=by kernel_rfl
theorem c.fu:zad P F.fu=some ⟨24,2,g.fu.er,[(4,none)]⟩:=by kernel_rfl
theorem c.bz:zad P F.bz=some ⟨7,1,g.bz.er,[(2,none)]⟩:=by kernel_rfl
theorem c.fw:zad P F.fw=some ⟨64,2,g.fw.er,[(4,none)]⟩:=by kernel_rfl
theorem c.j3:zad P F.j3=some ⟨17,1,g.j3.er,[(2,none)]⟩:=by kernel_rfl
theorem c.jn:zad P F.jn=some ⟨42,2,g.jn.er,[(4,none)]⟩:=by kernel_rfl
theorem c.j0:zad P F.j0=some ⟨9,2,g.j0.er,[(4,none)]⟩:=by kernel_rfl
theorem c.dw:zad P F.dw=some ⟨30,1,g.dw.er,[(2,none)]⟩:=by kernel_rfl
theorem c.ic:zad P F.ic=some ⟨54,1,g.ic.er,[(2,none)]⟩:=by kernel_rfl
theorem c.d4:zad P F.d4=some ⟨24,2,g.d4.er,[(4,none)]⟩:=by kernel_rfl
theorem c.ip:zad P F.ip=some ⟨26,1,g.ip.er,[(2,none)]⟩:=by kernel_rfl
theorem c.d0:zad P F.d0=some ⟨85,2,g.d0.er,[(4,none)]⟩:=by kernel_rfl
theorem c.dr:zad P F.dr=some ⟨50,2,g.dr.er,[(4,none)]⟩:=by kernel_rfl
theorem c.bv:zad P F.bv=some ⟨69,2,g.bv.er,[(4,none)]⟩:=by kernel_rfl
theorem c.j4:zad P F.j4=some ⟨9,2,g.j4.er,[(4,none)]⟩:=by kernel_rfl
theorem c.af:zad P F.af=some ⟨42,1,g.af.er,[(2,some 8)]⟩:=by kernel_rfl
theorem c.aa:zad P F.aa=some ⟨100,3,g.aa.er,[(6,some 8)]⟩:=by kernel_rfl
theorem c.ay:zad P F.ay=some ⟨48,2,g.ay.er,[(4,some 8)]⟩:=by kernel_rfl
theorem c.ae:zad P F.ae=some ⟨97,3,g.ae.er,[(6,some 8)]⟩:=by kernel_rfl
theorem c.bc:zad P F.bc=some ⟨52,1,g.bc.er,[(2,none)]⟩:=by kernel_rfl
theorem c.ar:zad P F.ar=some ⟨31,1,g.ar.er,[(2,some 8)]⟩:=by kernel_rfl
theorem c.ji:zad P F.ji=some ⟨18,2,g.ji.er,[(4,none)]⟩:=by kernel_rfl
end Go.Ab
