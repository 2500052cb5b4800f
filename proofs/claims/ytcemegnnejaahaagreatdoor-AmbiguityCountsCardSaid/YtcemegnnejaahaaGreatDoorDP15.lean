/- Lemmas for the law AmbiguityCounts, part 15. No conditions. -/
import Derived.Test.YtcemegnnejaahaaGreatDoorDP13
import Derived.KernelRfl
set_option maxRecDepth 100000
set_option maxHeartbeats 4000000
set_option linter.all false
namespace Go.Ab
open Go.Proofs
theorem c.ai:zac P F.ai=some ⟨11,2,g.ai.er,[(4,some 3)]⟩:=by kernel_rfl
theorem c.gr:zac P F.gr=some ⟨9,2,g.gr.er,[(4,none)]⟩:=by kernel_rfl
theorem c.ba:zac P F.ba=some ⟨30,2,g.ba.er,[(4,some 3),(5,none)]⟩:=by kernel_rfl
theorem c.be:zac P F.be=some ⟨14,1,g.be.er,[(2,none)]⟩:=by kernel_rfl
theorem c.kx:zac P F.kx=some ⟨12,2,g.kx.er,[(4,some 3)]⟩:=by kernel_rfl
theorem c.di:zac P F.di=some ⟨48,1,g.di.er,[(2,none)]⟩:=by kernel_rfl
theorem c.ld:zac P F.ld=some ⟨11,1,g.ld.er,[(2,some 3)]⟩:=by kernel_rfl
theorem c.ej:zac P F.ej=some ⟨53,2,g.ej.er,[(4,some 3)]⟩:=by kernel_rfl
theorem c.da:zac P F.da=some ⟨45,1,g.da.er,[(2,some 3)]⟩:=by kernel_rfl
theorem c.au:zac P F.au=some ⟨14,2,g.au.er,[(4,none)]⟩:=by kernel_rfl
theorem c.ah:zac P F.ah=some ⟨21,1,g.ah.er,[(2,none)]⟩:=by kernel_rfl
theorem c.bq:zac P F.bq=some ⟨34,2,g.bq.er,[(4,none)]⟩:=by kernel_rfl
theorem c.fk:zac P F.fk=some ⟨19,2,g.fk.er,[(4,none)]⟩:=by kernel_rfl
theorem c.dm:zac P F.dm=some ⟨45,2,g.dm.er,[(4,none)]⟩:=by kernel_rfl
theorem c.jz:zac P F.jz=some ⟨17,1,g.jz.er,[(2,none)]⟩:=by kernel_rfl
theorem c.dj:zac P F.dj=some ⟨36,2,g.dj.er,[(4,none)]⟩:=by kernel_rfl
theorem c.fm:zac P F.fm=some ⟨111,2,g.fm.er,[(4,none),(5,none)]⟩:=by kernel_rfl
theorem c.jq:zac P F.jq=some ⟨39,2,g.jq.er,[(4,none)]⟩:=by kernel_rfl
theorem c.j0:zac P F.j0=some ⟨33,2,g.j0.er,[(4,none)]⟩:=by kernel_rfl
theorem c.jy:zac P F.jy=some ⟨43,2,g.jy.er,[(4,none),(5,none)]⟩:=by kernel_rfl
theorem c.fo:zac P F.fo=some ⟨59,2,g.fo.er,[(4,none)]⟩:=by kernel_rfl
theorem c.db:zac P F.db=some ⟨27,1,g.db.er,[(2,some 3)]⟩:=by kernel_rfl
theorem c.dh:zac P F.dh=some ⟨2,0,g.dh.er,[(0,none)]⟩:=by kernel_rfl
theorem c.j3:zac P F.j3=some ⟨15,1,g.j3.er,[(2,none)]⟩:=by kernel_rfl
theorem c.jf:zac P F.jf=some ⟨20,1,g.jf.er,[(2,none),(3,none)]⟩:=by kernel_rfl
theorem c.iz:zac P F.iz=some ⟨59,2,g.iz.er,[(4,some 3)]⟩:=by kernel_rfl
theorem c.ea:zac P F.ea=some ⟨9,2,g.ea.er,[(4,none)]⟩:=by kernel_rfl
theorem c.jh:zac P F.jh=some ⟨16,1,g.jh.er,[(2,some 3)]⟩:=by kernel_rfl
theorem c.iu:zac P F.iu=some ⟨13,1,g.iu.er,[(2,none)]⟩:=by kernel_rfl
theorem c.iy:zac P F.iy=some ⟨9,2,g.iy.er,[(4,some 3)]⟩:=by kernel_rfl
theorem c.de:zac P F.de=some ⟨16,1,g.de.er,[(2,some 3)]⟩:=by kernel_rfl
theorem c.bp:zac P F.bp=some ⟨65,1,g.bp.er,[(2,none)]⟩:=by kernel_rfl
theorem c.fb:zac P F.fb=some ⟨45,2,g.fb.er,[(4,none)]⟩:=by kernel_rfl
theorem c.jj:zac P F.jj=some ⟨10,1,g.jj.er,[(2,none)]⟩:=by kernel_rfl
theorem c.eq:zac P F.eq=some ⟨58,2,g.eq.er,[(4,none),(5,none)]⟩:=by kernel_rfl
theorem c.ep:zac P F.ep=some ⟨19,2,g.ep.er,[(4,none)]⟩:=by kernel_rfl
theorem c.fq:zac P F.fq=some ⟨14,2,g.fq.er,[(4,none)]⟩:=by kernel_rfl
theorem c.fc:zac P F.fc=some ⟨35,2,g.fc.er,[(4,none)]⟩:=by kernel_rfl
theorem c.eu:zac P F.eu=some ⟨12,1,g.eu.er,[(2,none)]⟩:=by kernel_rfl
theorem c.ir:zac P F.ir=some ⟨37,3,g.ir.er,[(6,some 3)]⟩:=by kernel_rfl
theorem c.fa:zac P F.fa=some ⟨36,2,g.fa.er,[(4,none)]⟩:=by kernel_rfl
theorem c.ft:zac P F.ft=some ⟨9,1,g.ft.er,[(2,none)]⟩:=by kernel_rfl
theorem c.ji:zac P F.ji=some ⟨68,2,g.ji.er,[(4,none)]⟩:=by kernel_rfl
theorem c.bk:zac P F.bk=some ⟨21,1,g.bk.er,[(2,none)]⟩:=by kernel_rfl
theorem c.iq:zac P F.iq=some ⟨52,1,g.iq.er,[(2,none)]⟩:=by kernel_rfl
theorem c.a7:zac P F.a7=some ⟨31,1,g.a7.er,[(2,some 8)]⟩:=by kernel_rfl
theorem c.je:zac P F.je=some ⟨11,2,g.je.er,[(4,some 2)]⟩:=by kernel_rfl
theorem c.dr:zac P F.dr=some ⟨53,2,g.dr.er,[(4,none)]⟩:=by kernel_rfl
theorem c.af:zac P F.af=some ⟨47,2,g.af.er,[(4,none)]⟩:=by kernel_rfl
theorem c.fx:zac P F.fx=some ⟨17,2,g.fx.er,[(4,none)]⟩:=by kernel_rfl
theorem c.ax:zac P F.ax=some ⟨30,3,g.ax.er,[(6,some 8)]⟩:=by kernel_rfl
theorem c.gn:zac P F.gn=some ⟨20,4,g.gn.er,[(6,some 8)]⟩:=by kernel_rfl
end Go.Ab
