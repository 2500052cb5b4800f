/-
Proofs for the law TransducerWeighs, part 20. Conditions: none.
-/
import Derived.Test.YtbhboeijjgiflaaGreatDoorBP18
import Derived.KernelRfl
set_option maxRecDepth 100000
set_option maxHeartbeats 4000000
set_option linter.all false
namespace Go.Ab
open Go.Proofs
theorem c.mg:zad P F.mg=some ⟨20,1,g.mg.er,[(2,none),(3,none)]⟩:=by kernel_rfl
theorem c.dt:zad P F.dt=some ⟨59,2,g.dt.er,[(4,some 3)]⟩:=by kernel_rfl
theorem c.kd:zad P F.kd=some ⟨9,2,g.kd.er,[(4,none)]⟩:=by kernel_rfl
theorem c.fv:zad P F.fv=some ⟨9,2,g.fv.er,[(4,none)]⟩:=by kernel_rfl
theorem c.gf:zad P F.gf=some ⟨17,2,g.gf.er,[(4,none)]⟩:=by kernel_rfl
theorem c.j5:zad P F.j5=some ⟨21,2,g.j5.er,[(4,some 3),(5,none)]⟩:=by kernel_rfl
theorem c.fw:zad P F.fw=some ⟨25,2,g.fw.er,[(4,some 3)]⟩:=by kernel_rfl
theorem c.l6:zad P F.l6=some ⟨16,1,g.l6.er,[(2,some 3)]⟩:=by kernel_rfl
theorem c.bw:zad P F.bw=some ⟨14,2,g.bw.er,[(4,some 3)]⟩:=by kernel_rfl
theorem c.bv:zad P F.bv=some ⟨24,2,g.bv.er,[(4,none)]⟩:=by kernel_rfl
theorem c.bz:zad P F.bz=some ⟨13,1,g.bz.er,[(2,none)]⟩:=by kernel_rfl
theorem c.lc:zad P F.lc=some ⟨9,2,g.lc.er,[(4,some 3)]⟩:=by kernel_rfl
theorem c.ay:zad P F.ay=some ⟨16,1,g.ay.er,[(2,some 3)]⟩:=by kernel_rfl
theorem c.bc:zad P F.bc=some ⟨65,1,g.bc.er,[(2,none)]⟩:=by kernel_rfl
theorem c.kq:zad P F.kq=some ⟨12,1,g.kq.er,[(2,none)]⟩:=by kernel_rfl
theorem c.gp:zad P F.gp=some ⟨45,2,g.gp.er,[(4,none)]⟩:=by kernel_rfl
theorem c.gm:zad P F.gm=some ⟨10,1,g.gm.er,[(2,none)]⟩:=by kernel_rfl
theorem c.im:zad P F.im=some ⟨58,2,g.im.er,[(4,none),(5,none)]⟩:=by kernel_rfl
theorem c.ij:zad P F.ij=some ⟨19,2,g.ij.er,[(4,none)]⟩:=by kernel_rfl
theorem c.ip:zad P F.ip=some ⟨14,2,g.ip.er,[(4,none)]⟩:=by kernel_rfl
theorem c.gr:zad P F.gr=some ⟨35,2,g.gr.er,[(4,none)]⟩:=by kernel_rfl
theorem c.ko:zad P F.ko=some ⟨10,1,g.ko.er,[(2,none)]⟩:=by kernel_rfl
theorem c.io:zad P F.io=some ⟨12,1,g.io.er,[(2,none)]⟩:=by kernel_rfl
theorem c.d4:zad P F.d4=some ⟨37,3,g.d4.er,[(6,some 3)]⟩:=by kernel_rfl
theorem c.gn:zad P F.gn=some ⟨36,2,g.gn.er,[(4,none)]⟩:=by kernel_rfl
theorem c.j4:zad P F.j4=some ⟨26,2,g.j4.er,[(4,none)]⟩:=by kernel_rfl
theorem c.iq:zad P F.iq=some ⟨9,1,g.iq.er,[(2,none)]⟩:=by kernel_rfl
theorem c.gl:zad P F.gl=some ⟨68,2,g.gl.er,[(4,none)]⟩:=by kernel_rfl
theorem c.bq:zad P F.bq=some ⟨21,1,g.bq.er,[(2,none)]⟩:=by kernel_rfl
theorem c.jv:zad P F.jv=some ⟨24,2,g.jv.er,[(4,none)]⟩:=by kernel_rfl
theorem c.j3:zad P F.j3=some ⟨7,1,g.j3.er,[(2,none)]⟩:=by kernel_rfl
theorem c.jw:zad P F.jw=some ⟨64,2,g.jw.er,[(4,none)]⟩:=by kernel_rfl
theorem c.jt:zad P F.jt=some ⟨42,2,g.jt.er,[(4,none)]⟩:=by kernel_rfl
theorem c.d3:zad P F.d3=some ⟨30,1,g.d3.er,[(2,none)]⟩:=by kernel_rfl
theorem c.ii:zad P F.ii=some ⟨54,1,g.ii.er,[(2,none)]⟩:=by kernel_rfl
theorem c.d7:zad P F.d7=some ⟨24,2,g.d7.er,[(4,none)]⟩:=by kernel_rfl
theorem c.ir:zad P F.ir=some ⟨26,1,g.ir.er,[(2,none)]⟩:=by kernel_rfl
theorem c.d5:zad P F.d5=some ⟨85,2,g.d5.er,[(4,none)]⟩:=by kernel_rfl
theorem c.dv:zad P F.dv=some ⟨50,2,g.dv.er,[(4,none)]⟩:=by kernel_rfl
theorem c.bu:zad P F.bu=some ⟨69,2,g.bu.er,[(4,none)]⟩:=by kernel_rfl
theorem c.j8:zad P F.j8=some ⟨9,2,g.j8.er,[(4,none)]⟩:=by kernel_rfl
theorem c.af:zad P F.af=some ⟨42,1,g.af.er,[(2,some 8)]⟩:=by kernel_rfl
theorem c.aa:zad P F.aa=some ⟨100,3,g.aa.er,[(6,some 8)]⟩:=by kernel_rfl
theorem c.av:zad P F.av=some ⟨48,2,g.av.er,[(4,some 8)]⟩:=by kernel_rfl
theorem c.ae:zad P F.ae=some ⟨97,3,g.ae.er,[(6,some 8)]⟩:=by kernel_rfl
theorem c.ba:zad P F.ba=some ⟨52,1,g.ba.er,[(2,none)]⟩:=by kernel_rfl
theorem c.ar:zad P F.ar=some ⟨31,1,g.ar.er,[(2,some 8)]⟩:=by kernel_rfl
theorem c.jl:zad P F.jl=some ⟨18,2,g.jl.er,[(4,none)]⟩:=by kernel_rfl
theorem c.bl:zad P F.bl=some ⟨11,2,g.bl.er,[(4,some 2)]⟩:=by kernel_rfl
theorem c.ah:zad P F.ah=some ⟨107,2,g.ah.er,[(4,none)]⟩:=by kernel_rfl
theorem c.fy:zad P F.fy=some ⟨9,1,g.fy.er,[(2,none)]⟩:=by kernel_rfl
theorem c.ia:zad P F.ia=some ⟨40,2,g.ia.er,[(4,none)]⟩:=by kernel_rfl
end Go.Ab
