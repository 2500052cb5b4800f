/-
Proofs for the law ProjectIdentityWeighs, part 19. Conditions: none.
-/
import Derived.Test.YtalcegbealdigaaGreatDoorBP17
import Derived.KernelRfl
set_option maxRecDepth 100000
set_option maxHeartbeats 4000000
set_option linter.all false
namespace Go.Ab
open Go.Proofs
theorem c.eu:zac P F.eu=some ⟨45,1,g.eu.er,[(2,some 3)]⟩:=by kernel_rfl
theorem c.be:zac P F.be=some ⟨14,2,g.be.er,[(4,none)]⟩:=by kernel_rfl
theorem c.ar:zac P F.ar=some ⟨21,1,g.ar.er,[(2,none)]⟩:=by kernel_rfl
theorem c.cg:zac P F.cg=some ⟨34,2,g.cg.er,[(4,none)]⟩:=by kernel_rfl
theorem c.ja:zac P F.ja=some ⟨19,2,g.ja.er,[(4,none)]⟩:=by kernel_rfl
theorem c.fb:zac P F.fb=some ⟨45,2,g.fb.er,[(4,none)]⟩:=by kernel_rfl
theorem c.ng:zac P F.ng=some ⟨17,1,g.ng.er,[(2,none)]⟩:=by kernel_rfl
theorem c.fa:zac P F.fa=some ⟨36,2,g.fa.er,[(4,none)]⟩:=by kernel_rfl
theorem c.ji:zac P F.ji=some ⟨111,2,g.ji.er,[(4,none),(5,none)]⟩:=by kernel_rfl
theorem c.na:zac P F.na=some ⟨39,2,g.na.er,[(4,none)]⟩:=by kernel_rfl
theorem c.nh:zac P F.nh=some ⟨33,2,g.nh.er,[(4,none)]⟩:=by kernel_rfl
theorem c.nd:zac P F.nd=some ⟨43,2,g.nd.er,[(4,none),(5,none)]⟩:=by kernel_rfl
theorem c.je:zac P F.je=some ⟨59,2,g.je.er,[(4,none)]⟩:=by kernel_rfl
theorem c.eq:zac P F.eq=some ⟨27,1,g.eq.er,[(2,some 3)]⟩:=by kernel_rfl
theorem c.ep:zac P F.ep=some ⟨2,0,g.ep.er,[(0,none)]⟩:=by kernel_rfl
theorem c.mr:zac P F.mr=some ⟨15,1,g.mr.er,[(2,none)]⟩:=by kernel_rfl
theorem c.m9:zac P F.m9=some ⟨20,1,g.m9.er,[(2,none),(3,none)]⟩:=by kernel_rfl
theorem c.da:zac P F.da=some ⟨59,2,g.da.er,[(4,some 3)]⟩:=by kernel_rfl
theorem c.k9:zac P F.k9=some ⟨9,2,g.k9.er,[(4,none)]⟩:=by kernel_rfl
theorem c.f9:zac P F.f9=some ⟨9,2,g.f9.er,[(4,none)]⟩:=by kernel_rfl
theorem c.ki:zac P F.ki=some ⟨21,2,g.ki.er,[(4,some 3),(5,none)]⟩:=by kernel_rfl
theorem c.ge:zac P F.ge=some ⟨25,2,g.ge.er,[(4,some 3)]⟩:=by kernel_rfl
theorem c.mm:zac P F.mm=some ⟨16,1,g.mm.er,[(2,some 3)]⟩:=by kernel_rfl
theorem c.au:zac P F.au=some ⟨14,2,g.au.er,[(4,some 3)]⟩:=by kernel_rfl
theorem c.bt:zac P F.bt=some ⟨24,2,g.bt.er,[(4,none)]⟩:=by kernel_rfl
theorem c.bx:zac P F.bx=some ⟨13,1,g.bx.er,[(2,none)]⟩:=by kernel_rfl
theorem c.l6:zac P F.l6=some ⟨9,2,g.l6.er,[(4,some 3)]⟩:=by kernel_rfl
theorem c.ay:zac P F.ay=some ⟨16,1,g.ay.er,[(2,some 3)]⟩:=by kernel_rfl
theorem c.bc:zac P F.bc=some ⟨65,1,g.bc.er,[(2,none)]⟩:=by kernel_rfl
theorem c.ld:zac P F.ld=some ⟨12,1,g.ld.er,[(2,none)]⟩:=by kernel_rfl
theorem c.gn:zac P F.gn=some ⟨45,2,g.gn.er,[(4,none)]⟩:=by kernel_rfl
theorem c.gl:zac P F.gl=some ⟨10,1,g.gl.er,[(2,none)]⟩:=by kernel_rfl
theorem c.im:zac P F.im=some ⟨58,2,g.im.er,[(4,none),(5,none)]⟩:=by kernel_rfl
theorem c.ij:zac P F.ij=some ⟨19,2,g.ij.er,[(4,none)]⟩:=by kernel_rfl
theorem c.ip:zac P F.ip=some ⟨14,2,g.ip.er,[(4,none)]⟩:=by kernel_rfl
theorem c.go:zac P F.go=some ⟨35,2,g.go.er,[(4,none)]⟩:=by kernel_rfl
theorem c.lc:zac P F.lc=some ⟨10,1,g.lc.er,[(2,none)]⟩:=by kernel_rfl
theorem c.io:zac P F.io=some ⟨12,1,g.io.er,[(2,none)]⟩:=by kernel_rfl
theorem c.dh:zac P F.dh=some ⟨37,3,g.dh.er,[(6,some 3)]⟩:=by kernel_rfl
theorem c.gm:zac P F.gm=some ⟨36,2,g.gm.er,[(4,none)]⟩:=by kernel_rfl
theorem c.kg:zac P F.kg=some ⟨26,2,g.kg.er,[(4,none)]⟩:=by kernel_rfl
theorem c.iq:zac P F.iq=some ⟨9,1,g.iq.er,[(2,none)]⟩:=by kernel_rfl
theorem c.gk:zac P F.gk=some ⟨68,2,g.gk.er,[(4,none)]⟩:=by kernel_rfl
theorem c.bn:zac P F.bn=some ⟨21,1,g.bn.er,[(2,none)]⟩:=by kernel_rfl
theorem c.fx:zac P F.fx=some ⟨24,2,g.fx.er,[(4,none)]⟩:=by kernel_rfl
theorem c.bu:zac P F.bu=some ⟨7,1,g.bu.er,[(2,none)]⟩:=by kernel_rfl
theorem c.gf:zac P F.gf=some ⟨64,2,g.gf.er,[(4,none)]⟩:=by kernel_rfl
theorem c.j9:zac P F.j9=some ⟨17,1,g.j9.er,[(2,none)]⟩:=by kernel_rfl
theorem c.jz:zac P F.jz=some ⟨42,2,g.jz.er,[(4,none)]⟩:=by kernel_rfl
theorem c.j8:zac P F.j8=some ⟨9,2,g.j8.er,[(4,none)]⟩:=by kernel_rfl
theorem c.db:zac P F.db=some ⟨30,1,g.db.er,[(2,none)]⟩:=by kernel_rfl
theorem c.gp:zac P F.gp=some ⟨54,1,g.gp.er,[(2,none)]⟩:=by kernel_rfl
end Go.Ab
