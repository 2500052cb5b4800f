/-
Proofs for the law CountRanks, part 21. Conditions: none.
-/
import Derived.Test.YtdkocfjbmbenfaaGreatDoorAP17
import Derived.KernelRfl
set_option maxRecDepth 100000
set_option maxHeartbeats 4000000
set_option linter.all false
namespace Go.Ab
open Go.Proofs
theorem c.fe:zad P F.fe=some ⟨11,2,g.fe.er,[(4,some 8)]⟩:=by kernel_rfl
theorem c.d8:zad P F.d8=some ⟨2,0,g.d8.er,[(0,some 9)]⟩:=by kernel_rfl
theorem c.ej:zad P F.ej=some ⟨13,1,g.ej.er,[(2,none)]⟩:=by kernel_rfl
theorem c.a8:zad P F.a8=some ⟨2,0,g.a8.er,[(0,some 8)]⟩:=by kernel_rfl
theorem c.ep:zad P F.ep=some ⟨11,2,g.ep.er,[(4,some 8)]⟩:=by kernel_rfl
theorem c.gv:zad P F.gv=some ⟨24,2,g.gv.er,[(4,none)]⟩:=by kernel_rfl
theorem c.lm:zad P F.lm=some ⟨10,0,g.lm.er,[(0,some 9)]⟩:=by kernel_rfl
theorem c.ch:zad P F.ch=some ⟨8,1,g.ch.er,[(2,none)]⟩:=by kernel_rfl
theorem c.cj:zad P F.cj=some ⟨2,0,g.cj.er,[(0,some 8)]⟩:=by kernel_rfl
theorem c.cm:zad P F.cm=some ⟨11,2,g.cm.er,[(4,some 8)]⟩:=by kernel_rfl
theorem c.ia:zad P F.ia=some ⟨9,1,g.ia.er,[(2,none)]⟩:=by kernel_rfl
theorem c.eq:zad P F.eq=some ⟨4,1,g.eq.er,[(2,none)]⟩:=by kernel_rfl
theorem c.lc:zad P F.lc=some ⟨11,2,g.lc.er,[(4,some 8)]⟩:=by kernel_rfl
theorem c.bg:zad P F.bg=some ⟨8,1,g.bg.er,[(2,none)]⟩:=by kernel_rfl
theorem c.bb:zad P F.bb=some ⟨8,1,g.bb.er,[(2,none)]⟩:=by kernel_rfl
theorem c.az:zad P F.az=some ⟨8,1,g.az.er,[(2,none)]⟩:=by kernel_rfl
theorem c.mc:zad P F.mc=some ⟨36,1,g.mc.er,[(2,none)]⟩:=by kernel_rfl
theorem c.ki:zad P F.ki=some ⟨9,2,g.ki.er,[(4,none)]⟩:=by kernel_rfl
theorem c.k9:zad P F.k9=some ⟨9,2,g.k9.er,[(4,none)]⟩:=by kernel_rfl
theorem c.ky:zad P F.ky=some ⟨9,2,g.ky.er,[(4,none)]⟩:=by kernel_rfl
theorem c.ko:zad P F.ko=some ⟨42,2,g.ko.er,[(4,none)]⟩:=by kernel_rfl
theorem c.kr:zad P F.kr=some ⟨32,3,g.kr.er,[(6,none)]⟩:=by kernel_rfl
theorem c.ku:zad P F.ku=some ⟨32,3,g.ku.er,[(6,none)]⟩:=by kernel_rfl
theorem c.lh:zad P F.lh=some ⟨26,2,g.lh.er,[(4,none)]⟩:=by kernel_rfl
theorem c.me:zad P F.me=some ⟨27,2,g.me.er,[(4,none)]⟩:=by kernel_rfl
theorem c.ic:zad P F.ic=some ⟨19,2,g.ic.er,[(4,none)]⟩:=by kernel_rfl
theorem c.lx:zad P F.lx=some ⟨19,2,g.lx.er,[(4,none)]⟩:=by kernel_rfl
theorem c.lr:zad P F.lr=some ⟨19,2,g.lr.er,[(4,none)]⟩:=by kernel_rfl
theorem c.cq:zad P F.cq=some ⟨14,2,g.cq.er,[]⟩:=by kernel_rfl
theorem c.kn:zad P F.kn=some ⟨9,2,g.kn.er,[]⟩:=by kernel_rfl
theorem c.im:zad P F.im=some ⟨53,4,g.im.er,[]⟩:=by kernel_rfl
theorem c.mh:zad P F.mh=some ⟨53,4,g.mh.er,[]⟩:=by kernel_rfl
theorem c.iz:zad P F.iz=some ⟨148,5,g.iz.er,[]⟩:=by kernel_rfl
theorem c.ld:zad P F.ld=some ⟨63,3,g.ld.er,[]⟩:=by kernel_rfl
theorem c.ji:zad P F.ji=some ⟨62,1,g.ji.er,[(2,some 8),(3,none)]⟩:=by kernel_rfl
theorem c.fi:zad P F.fi=some ⟨14,2,g.fi.er,[(4,none)]⟩:=by kernel_rfl
theorem c.jk:zad P F.jk=some ⟨62,1,g.jk.er,[(2,none)]⟩:=by kernel_rfl
theorem c.jj:zad P F.jj=some ⟨17,1,g.jj.er,[(2,none)]⟩:=by kernel_rfl
theorem c.fk:zad P F.fk=some ⟨14,2,g.fk.er,[(4,none)]⟩:=by kernel_rfl
theorem c.dj:zad P F.dj=some ⟨20,2,g.dj.er,[(4,none)]⟩:=by kernel_rfl
theorem c.gf:zad P F.gf=some ⟨11,2,g.gf.er,[(4,none)]⟩:=by kernel_rfl
theorem c.bj:zad P F.bj=some ⟨45,2,g.bj.er,[(4,none)]⟩:=by kernel_rfl
theorem c.jc:zad P F.jc=some ⟨185,3,g.jc.er,[(6,some 7)]⟩:=by kernel_rfl
theorem c.ai:zad P F.ai=some ⟨35,2,g.ai.er,[(4,none)]⟩:=by kernel_rfl
theorem c.aj:zad P F.aj=some ⟨16,2,g.aj.er,[(4,none)]⟩:=by kernel_rfl
theorem c.de:zad P F.de=some ⟨41,2,g.de.er,[(4,some 8)]⟩:=by kernel_rfl
theorem c.je:zad P F.je=some ⟨32,2,g.je.er,[(4,none)]⟩:=by kernel_rfl
end Go.Ab
