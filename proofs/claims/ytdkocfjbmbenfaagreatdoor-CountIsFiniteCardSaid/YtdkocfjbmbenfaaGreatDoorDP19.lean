/-
Proofs for the law CountIsFinite, part 19. Conditions: none.
-/
import Derived.Test.YtdkocfjbmbenfaaGreatDoorDP17
import Derived.KernelRfl
set_option maxRecDepth 100000
set_option maxHeartbeats 4000000
set_option linter.all false
namespace Go.Ab
open Go.Proofs
theorem c.af:zac P F.af=some ⟨21,1,g.af.er,[(2,none)]⟩:=by kernel_rfl
theorem c.bh:zac P F.bh=some ⟨34,2,g.bh.er,[(4,none)]⟩:=by kernel_rfl
theorem c.d0:zac P F.d0=some ⟨19,2,g.d0.er,[(4,none)]⟩:=by kernel_rfl
theorem c.c9:zac P F.c9=some ⟨45,2,g.c9.er,[(4,none)]⟩:=by kernel_rfl
theorem c.i6:zac P F.i6=some ⟨17,1,g.i6.er,[(2,none)]⟩:=by kernel_rfl
theorem c.ct:zac P F.ct=some ⟨36,2,g.ct.er,[(4,none)]⟩:=by kernel_rfl
theorem c.ep:zac P F.ep=some ⟨111,2,g.ep.er,[(4,none),(5,none)]⟩:=by kernel_rfl
theorem c.ip:zac P F.ip=some ⟨39,2,g.ip.er,[(4,none)]⟩:=by kernel_rfl
theorem c.i7:zac P F.i7=some ⟨33,2,g.i7.er,[(4,none)]⟩:=by kernel_rfl
theorem c.iz:zac P F.iz=some ⟨43,2,g.iz.er,[(4,none),(5,none)]⟩:=by kernel_rfl
theorem c.eu:zac P F.eu=some ⟨59,2,g.eu.er,[(4,none)]⟩:=by kernel_rfl
theorem c.cj:zac P F.cj=some ⟨27,1,g.cj.er,[(2,some 3)]⟩:=by kernel_rfl
theorem c.ch:zac P F.ch=some ⟨2,0,g.ch.er,[(0,none)]⟩:=by kernel_rfl
theorem c.gz:zac P F.gz=some ⟨15,1,g.gz.er,[(2,none)]⟩:=by kernel_rfl
theorem c.ib:zac P F.ib=some ⟨20,1,g.ib.er,[(2,none),(3,none)]⟩:=by kernel_rfl
theorem c.gp:zac P F.gp=some ⟨59,2,g.gp.er,[(4,some 3)]⟩:=by kernel_rfl
theorem c.dv:zac P F.dv=some ⟨9,2,g.dv.er,[(4,none)]⟩:=by kernel_rfl
theorem c.b8:zac P F.b8=some ⟨21,2,g.b8.er,[(4,some 3),(5,none)]⟩:=by kernel_rfl
theorem c.ia:zac P F.ia=some ⟨16,1,g.ia.er,[(2,some 3)]⟩:=by kernel_rfl
theorem c.dz:zac P F.dz=some ⟨13,1,g.dz.er,[(2,none)]⟩:=by kernel_rfl
theorem c.go:zac P F.go=some ⟨9,2,g.go.er,[(4,some 3)]⟩:=by kernel_rfl
theorem c.ca:zac P F.ca=some ⟨16,1,g.ca.er,[(2,some 3)]⟩:=by kernel_rfl
theorem c.bg:zac P F.bg=some ⟨65,1,g.bg.er,[(2,none)]⟩:=by kernel_rfl
theorem c.g9:zac P F.g9=some ⟨12,1,g.g9.er,[(2,none)]⟩:=by kernel_rfl
theorem c.eb:zac P F.eb=some ⟨45,2,g.eb.er,[(4,none)]⟩:=by kernel_rfl
theorem c.ii:zac P F.ii=some ⟨10,1,g.ii.er,[(2,none)]⟩:=by kernel_rfl
theorem c.eq:zac P F.eq=some ⟨58,2,g.eq.er,[(4,none),(5,none)]⟩:=by kernel_rfl
theorem c.ef:zac P F.ef=some ⟨19,2,g.ef.er,[(4,none)]⟩:=by kernel_rfl
theorem c.fa:zac P F.fa=some ⟨14,2,g.fa.er,[(4,none)]⟩:=by kernel_rfl
theorem c.ec:zac P F.ec=some ⟨35,2,g.ec.er,[(4,none)]⟩:=by kernel_rfl
theorem c.g8:zac P F.g8=some ⟨10,1,g.g8.er,[(2,none)]⟩:=by kernel_rfl
theorem c.ee:zac P F.ee=some ⟨12,1,g.ee.er,[(2,none)]⟩:=by kernel_rfl
theorem c.d7:zac P F.d7=some ⟨37,3,g.d7.er,[(6,some 3)]⟩:=by kernel_rfl
theorem c.ea:zac P F.ea=some ⟨36,2,g.ea.er,[(4,none)]⟩:=by kernel_rfl
theorem c.fb:zac P F.fb=some ⟨9,1,g.fb.er,[(2,none)]⟩:=by kernel_rfl
theorem c.ig:zac P F.ig=some ⟨68,2,g.ig.er,[(4,none)]⟩:=by kernel_rfl
theorem c.az:zac P F.az=some ⟨21,1,g.az.er,[(2,none)]⟩:=by kernel_rfl
theorem c.ij:zac P F.ij=some ⟨52,1,g.ij.er,[(2,none)]⟩:=by kernel_rfl
theorem c.ay:zac P F.ay=some ⟨31,1,g.ay.er,[(2,some 8)]⟩:=by kernel_rfl
theorem c.ik:zac P F.ik=some ⟨11,2,g.ik.er,[(4,some 2)]⟩:=by kernel_rfl
theorem c.du:zac P F.du=some ⟨11,1,g.du.er,[(2,some 3)]⟩:=by kernel_rfl
theorem c.da:zac P F.da=some ⟨53,2,g.da.er,[(4,none)]⟩:=by kernel_rfl
theorem c.ah:zac P F.ah=some ⟨47,2,g.ah.er,[(4,none)]⟩:=by kernel_rfl
theorem c.fg:zac P F.fg=some ⟨17,2,g.fg.er,[(4,none)]⟩:=by kernel_rfl
theorem c.am:zac P F.am=some ⟨30,3,g.am.er,[(6,some 8)]⟩:=by kernel_rfl
theorem c.ft:zac P F.ft=some ⟨20,4,g.ft.er,[(6,some 8)]⟩:=by kernel_rfl
theorem c.bj:zac P F.bj=some ⟨31,1,g.bj.er,[(2,none)]⟩:=by kernel_rfl
theorem c.fm:zac P F.fm=some ⟨6,1,g.fm.er,[(2,none)]⟩:=by kernel_rfl
theorem c.a7:zac P F.a7=some ⟨19,1,g.a7.er,[(2,some 8)]⟩:=by kernel_rfl
theorem c.fj:zac P F.fj=some ⟨8,2,g.fj.er,[(4,some 8)]⟩:=by kernel_rfl
theorem c.jq:zac P F.jq=some ⟨10,0,g.jq.er,[(0,some 9)]⟩:=by kernel_rfl
theorem c.bm:zac P F.bm=some ⟨32,1,g.bm.er,[(2,none)]⟩:=by kernel_rfl
end Go.Ab
