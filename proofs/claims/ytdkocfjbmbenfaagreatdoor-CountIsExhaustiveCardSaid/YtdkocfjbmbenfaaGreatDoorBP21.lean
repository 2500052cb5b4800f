/-
Proofs for the law CountIsExhaustive, part 21. Conditions: none.
-/
import Derived.Test.YtdkocfjbmbenfaaGreatDoorBP17
import Derived.KernelRfl
set_option maxRecDepth 100000
set_option maxHeartbeats 4000000
set_option linter.all false
namespace Go.Ab
open Go.Proofs
theorem c.ff:zad P F.ff=some ⟨2,0,g.ff.er,[(0,some 8)]⟩:=by kernel_rfl
theorem c.fg:zad P F.fg=some ⟨11,2,g.fg.er,[(4,some 8)]⟩:=by kernel_rfl
theorem c.ee:zad P F.ee=some ⟨2,0,g.ee.er,[(0,some 9)]⟩:=by kernel_rfl
theorem c.eq:zad P F.eq=some ⟨13,1,g.eq.er,[(2,none)]⟩:=by kernel_rfl
theorem c.a8:zad P F.a8=some ⟨2,0,g.a8.er,[(0,some 8)]⟩:=by kernel_rfl
theorem c.eu:zad P F.eu=some ⟨11,2,g.eu.er,[(4,some 8)]⟩:=by kernel_rfl
theorem c.gz:zad P F.gz=some ⟨24,2,g.gz.er,[(4,none)]⟩:=by kernel_rfl
theorem c.lm:zad P F.lm=some ⟨10,0,g.lm.er,[(0,some 9)]⟩:=by kernel_rfl
theorem c.ch:zad P F.ch=some ⟨8,1,g.ch.er,[(2,none)]⟩:=by kernel_rfl
theorem c.cj:zad P F.cj=some ⟨2,0,g.cj.er,[(0,some 8)]⟩:=by kernel_rfl
theorem c.cm:zad P F.cm=some ⟨11,2,g.cm.er,[(4,some 8)]⟩:=by kernel_rfl
theorem c.ic:zad P F.ic=some ⟨9,1,g.ic.er,[(2,none)]⟩:=by kernel_rfl
theorem c.fa:zad P F.fa=some ⟨4,1,g.fa.er,[(2,none)]⟩:=by kernel_rfl
theorem c.lc:zad P F.lc=some ⟨11,2,g.lc.er,[(4,some 8)]⟩:=by kernel_rfl
theorem c.bi:zad P F.bi=some ⟨8,1,g.bi.er,[(2,none)]⟩:=by kernel_rfl
theorem c.be:zad P F.be=some ⟨8,1,g.be.er,[(2,none)]⟩:=by kernel_rfl
theorem c.az:zad P F.az=some ⟨8,1,g.az.er,[(2,none)]⟩:=by kernel_rfl
theorem c.mc:zad P F.mc=some ⟨36,1,g.mc.er,[(2,none)]⟩:=by kernel_rfl
theorem c.ki:zad P F.ki=some ⟨9,2,g.ki.er,[(4,none)]⟩:=by kernel_rfl
theorem c.k9:zad P F.k9=some ⟨9,2,g.k9.er,[(4,none)]⟩:=by kernel_rfl
theorem c.ky:zad P F.ky=some ⟨9,2,g.ky.er,[(4,none)]⟩:=by kernel_rfl
theorem c.ko:zad P F.ko=some ⟨42,2,g.ko.er,[(4,none)]⟩:=by kernel_rfl
theorem c.kr:zad P F.kr=some ⟨32,3,g.kr.er,[(6,none)]⟩:=by kernel_rfl
theorem c.ku:zad P F.ku=some ⟨32,3,g.ku.er,[(6,none)]⟩:=by kernel_rfl
theorem c.lh:zad P F.lh=some ⟨26,2,g.lh.er,[(4,none)]⟩:=by kernel_rfl
theorem c.me:zad P F.me=some ⟨27,2,g.me.er,[(4,none)]⟩:=by kernel_rfl
theorem c.ii:zad P F.ii=some ⟨19,2,g.ii.er,[(4,none)]⟩:=by kernel_rfl
theorem c.lx:zad P F.lx=some ⟨19,2,g.lx.er,[(4,none)]⟩:=by kernel_rfl
theorem c.lr:zad P F.lr=some ⟨19,2,g.lr.er,[(4,none)]⟩:=by kernel_rfl
theorem c.cq:zad P F.cq=some ⟨14,2,g.cq.er,[]⟩:=by kernel_rfl
theorem c.kn:zad P F.kn=some ⟨9,2,g.kn.er,[]⟩:=by kernel_rfl
theorem c.ip:zad P F.ip=some ⟨53,4,g.ip.er,[]⟩:=by kernel_rfl
theorem c.mh:zad P F.mh=some ⟨53,4,g.mh.er,[]⟩:=by kernel_rfl
theorem c.i7:zad P F.i7=some ⟨148,5,g.i7.er,[]⟩:=by kernel_rfl
theorem c.ld:zad P F.ld=some ⟨63,3,g.ld.er,[]⟩:=by kernel_rfl
theorem c.ji:zad P F.ji=some ⟨62,1,g.ji.er,[(2,some 8),(3,none)]⟩:=by kernel_rfl
theorem c.fk:zad P F.fk=some ⟨14,2,g.fk.er,[(4,none)]⟩:=by kernel_rfl
theorem c.jk:zad P F.jk=some ⟨62,1,g.jk.er,[(2,none)]⟩:=by kernel_rfl
theorem c.jj:zad P F.jj=some ⟨17,1,g.jj.er,[(2,none)]⟩:=by kernel_rfl
theorem c.fo:zad P F.fo=some ⟨14,2,g.fo.er,[(4,none)]⟩:=by kernel_rfl
theorem c.dq:zad P F.dq=some ⟨20,2,g.dq.er,[(4,none)]⟩:=by kernel_rfl
theorem c.gh:zad P F.gh=some ⟨11,2,g.gh.er,[(4,none)]⟩:=by kernel_rfl
theorem c.ba:zad P F.ba=some ⟨45,2,g.ba.er,[(4,none)]⟩:=by kernel_rfl
theorem c.jc:zad P F.jc=some ⟨185,3,g.jc.er,[(6,some 7)]⟩:=by kernel_rfl
theorem c.ai:zad P F.ai=some ⟨35,2,g.ai.er,[(4,none)]⟩:=by kernel_rfl
theorem c.an:zad P F.an=some ⟨16,2,g.an.er,[(4,none)]⟩:=by kernel_rfl
theorem c.dh:zad P F.dh=some ⟨41,2,g.dh.er,[(4,some 8)]⟩:=by kernel_rfl
theorem c.je:zad P F.je=some ⟨32,2,g.je.er,[(4,none)]⟩:=by kernel_rfl
end Go.Ab
