/-
Proofs for the law CountGoesOn, part 21. Conditions: none.
-/
import Derived.Test.YtdkocfjbmbenfaaGreatDoorCP17
import Derived.KernelRfl
set_option maxRecDepth 100000
set_option maxHeartbeats 4000000
set_option linter.all false
namespace Go.Ab
open Go.Proofs
theorem c.fe:zad P F.fe=some ⟨11,2,g.fe.er,[(4,some 8)]⟩:=by kernel_rfl
theorem c.d8:zad P F.d8=some ⟨2,0,g.d8.er,[(0,some 9)]⟩:=by kernel_rfl
theorem c.ej:zad P F.ej=some ⟨13,1,g.ej.er,[(2,none)]⟩:=by kernel_rfl
theorem c.ba:zad P F.ba=some ⟨2,0,g.ba.er,[(0,some 8)]⟩:=by kernel_rfl
theorem c.ep:zad P F.ep=some ⟨11,2,g.ep.er,[(4,some 8)]⟩:=by kernel_rfl
theorem c.gz:zad P F.gz=some ⟨24,2,g.gz.er,[(4,none)]⟩:=by kernel_rfl
theorem c.ln:zad P F.ln=some ⟨10,0,g.ln.er,[(0,some 9)]⟩:=by kernel_rfl
theorem c.ch:zad P F.ch=some ⟨8,1,g.ch.er,[(2,none)]⟩:=by kernel_rfl
theorem c.cj:zad P F.cj=some ⟨2,0,g.cj.er,[(0,some 8)]⟩:=by kernel_rfl
theorem c.cm:zad P F.cm=some ⟨11,2,g.cm.er,[(4,some 8)]⟩:=by kernel_rfl
theorem c.ic:zad P F.ic=some ⟨9,1,g.ic.er,[(2,none)]⟩:=by kernel_rfl
theorem c.eq:zad P F.eq=some ⟨4,1,g.eq.er,[(2,none)]⟩:=by kernel_rfl
theorem c.ld:zad P F.ld=some ⟨11,2,g.ld.er,[(4,some 8)]⟩:=by kernel_rfl
theorem c.bh:zad P F.bh=some ⟨8,1,g.bh.er,[(2,none)]⟩:=by kernel_rfl
theorem c.ah:zad P F.ah=some ⟨8,1,g.ah.er,[(2,none)]⟩:=by kernel_rfl
theorem c.a7:zad P F.a7=some ⟨8,1,g.a7.er,[(2,none)]⟩:=by kernel_rfl
theorem c.me:zad P F.me=some ⟨36,1,g.me.er,[(2,none)]⟩:=by kernel_rfl
theorem c.kj:zad P F.kj=some ⟨9,2,g.kj.er,[(4,none)]⟩:=by kernel_rfl
theorem c.lc:zad P F.lc=some ⟨9,2,g.lc.er,[(4,none)]⟩:=by kernel_rfl
theorem c.kz:zad P F.kz=some ⟨9,2,g.kz.er,[(4,none)]⟩:=by kernel_rfl
theorem c.kq:zad P F.kq=some ⟨42,2,g.kq.er,[(4,none)]⟩:=by kernel_rfl
theorem c.ku:zad P F.ku=some ⟨32,3,g.ku.er,[(6,none)]⟩:=by kernel_rfl
theorem c.kw:zad P F.kw=some ⟨32,3,g.kw.er,[(6,none)]⟩:=by kernel_rfl
theorem c.lj:zad P F.lj=some ⟨26,2,g.lj.er,[(4,none)]⟩:=by kernel_rfl
theorem c.mf:zad P F.mf=some ⟨27,2,g.mf.er,[(4,none)]⟩:=by kernel_rfl
theorem c.ii:zad P F.ii=some ⟨19,2,g.ii.er,[(4,none)]⟩:=by kernel_rfl
theorem c.ly:zad P F.ly=some ⟨19,2,g.ly.er,[(4,none)]⟩:=by kernel_rfl
theorem c.lx:zad P F.lx=some ⟨19,2,g.lx.er,[(4,none)]⟩:=by kernel_rfl
theorem c.cq:zad P F.cq=some ⟨14,2,g.cq.er,[]⟩:=by kernel_rfl
theorem c.ko:zad P F.ko=some ⟨9,2,g.ko.er,[]⟩:=by kernel_rfl
theorem c.ip:zad P F.ip=some ⟨53,4,g.ip.er,[]⟩:=by kernel_rfl
theorem c.mi:zad P F.mi=some ⟨53,4,g.mi.er,[]⟩:=by kernel_rfl
theorem c.i7:zad P F.i7=some ⟨148,5,g.i7.er,[]⟩:=by kernel_rfl
theorem c.lg:zad P F.lg=some ⟨63,3,g.lg.er,[]⟩:=by kernel_rfl
theorem c.jj:zad P F.jj=some ⟨62,1,g.jj.er,[(2,some 8),(3,none)]⟩:=by kernel_rfl
theorem c.fk:zad P F.fk=some ⟨14,2,g.fk.er,[(4,none)]⟩:=by kernel_rfl
theorem c.jl:zad P F.jl=some ⟨62,1,g.jl.er,[(2,none)]⟩:=by kernel_rfl
theorem c.jk:zad P F.jk=some ⟨17,1,g.jk.er,[(2,none)]⟩:=by kernel_rfl
theorem c.fo:zad P F.fo=some ⟨14,2,g.fo.er,[(4,none)]⟩:=by kernel_rfl
theorem c.dj:zad P F.dj=some ⟨20,2,g.dj.er,[(4,none)]⟩:=by kernel_rfl
theorem c.gh:zad P F.gh=some ⟨11,2,g.gh.er,[(4,none)]⟩:=by kernel_rfl
theorem c.bj:zad P F.bj=some ⟨45,2,g.bj.er,[(4,none)]⟩:=by kernel_rfl
theorem c.jd:zad P F.jd=some ⟨185,3,g.jd.er,[(6,some 7)]⟩:=by kernel_rfl
theorem c.aj:zad P F.aj=some ⟨35,2,g.aj.er,[(4,none)]⟩:=by kernel_rfl
theorem c.ar:zad P F.ar=some ⟨16,2,g.ar.er,[(4,none)]⟩:=by kernel_rfl
theorem c.de:zad P F.de=some ⟨41,2,g.de.er,[(4,some 8)]⟩:=by kernel_rfl
theorem c.jc:zad P F.jc=some ⟨43,2,g.jc.er,[(4,none),(5,none)]⟩:=by kernel_rfl
theorem c.fi:zad P F.fi=some ⟨32,2,g.fi.er,[(4,none)]⟩:=by kernel_rfl
end Go.Ab
