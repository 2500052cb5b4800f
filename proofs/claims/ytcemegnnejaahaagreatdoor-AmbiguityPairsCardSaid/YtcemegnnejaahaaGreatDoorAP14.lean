/- Lemmas for the law AmbiguityOfDeterministic, part 14. No conditions. -/
import Derived.Test.YtcemegnnejaahaaGreatDoorAP13
import Derived.KernelRfl
set_option maxRecDepth 100000
set_option maxHeartbeats 4000000
set_option linter.all false
namespace Go.Ab
open Go.Proofs
theorem c.az:zac P F.az=some ⟨119,2,g.az.er,[(4,some 3),(5,none)]⟩:=by kernel_rfl
theorem c.dz:zac P F.dz=some ⟨45,1,g.dz.er,[(2,none),(3,none)]⟩:=by kernel_rfl
theorem c.gk:zac P F.gk=some ⟨28,1,g.gk.er,[(2,none),(3,none),(4,none),(5,none)]⟩:=by kernel_rfl
theorem c.gm:zac P F.gm=some ⟨24,1,g.gm.er,[(2,none),(3,none),(4,none)]⟩:=by kernel_rfl
theorem c.j5:zac P F.j5=some ⟨32,1,g.j5.er,[(2,none),(3,none),(4,none),(5,none),(6,none)]⟩:=by kernel_rfl
theorem c.an:zac P F.an=some ⟨33,2,g.an.er,[(4,some 9),(5,none)]⟩:=by kernel_rfl
theorem c.d6:zac P F.d6=some ⟨28,1,g.d6.er,[(2,none),(3,none),(4,none)]⟩:=by kernel_rfl
theorem c.ee:zac P F.ee=some ⟨7,2,g.ee.er,[(3,none)]⟩:=by kernel_rfl
theorem c.gn:zac P F.gn=some ⟨14,1,g.gn.er,[(2,none),(3,none)]⟩:=by kernel_rfl
theorem c.go:zac P F.go=some ⟨56,1,g.go.er,[(2,none),(3,none),(4,none),(5,none)]⟩:=by kernel_rfl
theorem c.ko:zac P F.ko=some ⟨37,3,g.ko.er,[(6,none),(7,none)]⟩:=by kernel_rfl
theorem c.iq:zac P F.iq=some ⟨17,5,g.iq.er,[]⟩:=by kernel_rfl
theorem c.lx:zac P F.lx=some ⟨16,6,g.lx.er,[]⟩:=by kernel_rfl
theorem c.ly:zac P F.ly=some ⟨15,7,g.ly.er,[]⟩:=by kernel_rfl
theorem c.lz:zac P F.lz=some ⟨17,5,g.lz.er,[]⟩:=by kernel_rfl
theorem c.fe:zac P F.fe=some ⟨17,4,g.fe.er,[(5,none)]⟩:=by kernel_rfl
theorem c.ax:zac P F.ax=some ⟨31,4,g.ax.er,[]⟩:=by kernel_rfl
theorem c.ec:zac P F.ec=some ⟨71,3,g.ec.er,[(6,none),(7,none)]⟩:=by kernel_rfl
theorem c.bw:zac P F.bw=some ⟨24,4,g.bw.er,[(7,none)]⟩:=by kernel_rfl
theorem c.ip:zac P F.ip=some ⟨17,6,g.ip.er,[]⟩:=by kernel_rfl
theorem c.lm:zac P F.lm=some ⟨16,7,g.lm.er,[]⟩:=by kernel_rfl
theorem c.ln:zac P F.ln=some ⟨15,5,g.ln.er,[]⟩:=by kernel_rfl
theorem c.a8:zac P F.a8=some ⟨24,3,g.a8.er,[(4,none)]⟩:=by kernel_rfl
theorem c.jd:zac P F.jd=some ⟨24,2,g.jd.er,[(4,none)]⟩:=by kernel_rfl
theorem c.kg:zac P F.kg=some ⟨9,2,g.kg.er,[(4,none)]⟩:=by kernel_rfl
theorem c.lg:zac P F.lg=some ⟨31,1,g.lg.er,[(2,some 7),(3,none)]⟩:=by kernel_rfl
theorem c.mh:zac P F.mh=some ⟨64,2,g.mh.er,[(4,none)]⟩:=by kernel_rfl
theorem c.jm:zac P F.jm=some ⟨8,2,g.jm.er,[(3,none)]⟩:=by kernel_rfl
theorem c.mf:zac P F.mf=some ⟨65,1,g.mf.er,[(2,none)]⟩:=by kernel_rfl
theorem c.jl:zac P F.jl=some ⟨8,2,g.jl.er,[(3,none)]⟩:=by kernel_rfl
theorem c.my:zac P F.my=some ⟨36,2,g.my.er,[(4,none)]⟩:=by kernel_rfl
theorem c.nk:zac P F.nk=some ⟨12,2,g.nk.er,[(3,none)]⟩:=by kernel_rfl
theorem c.dg:zac P F.dg=some ⟨22,2,g.dg.er,[(4,none)]⟩:=by kernel_rfl
theorem c.mg:zac P F.mg=some ⟨9,1,g.mg.er,[(2,some 2)]⟩:=by kernel_rfl
theorem c.mz:zac P F.mz=some ⟨9,2,g.mz.er,[(4,none)]⟩:=by kernel_rfl
theorem c.jp:zac P F.jp=some ⟨8,2,g.jp.er,[(3,none)]⟩:=by kernel_rfl
theorem c.jr:zac P F.jr=some ⟨20,2,g.jr.er,[(4,none)]⟩:=by kernel_rfl
theorem c.nq:zac P F.nq=some ⟨18,1,g.nq.er,[(2,none)]⟩:=by kernel_rfl
theorem c.n7:zac P F.n7=some ⟨6,1,g.n7.er,[(2,none)]⟩:=by kernel_rfl
theorem c.ot:zac P F.ot=some ⟨154,2,g.ot.er,[(4,none)]⟩:=by kernel_rfl
theorem c.oq:zac P F.oq=some ⟨68,2,g.oq.er,[(4,none)]⟩:=by kernel_rfl
theorem c.ou:zac P F.ou=some ⟨120,2,g.ou.er,[(4,none)]⟩:=by kernel_rfl
theorem c.cd:zac P F.cd=some ⟨41,3,g.cd.er,[(6,some 7)]⟩:=by kernel_rfl
theorem c.d0:zac P F.d0=some ⟨56,0,g.d0.er,[(0,none)]⟩:=by kernel_rfl
theorem c.j6:zac P F.j6=some ⟨30,2,g.j6.er,[(4,none)]⟩:=by kernel_rfl
theorem c.cg:zac P F.cg=some ⟨16,2,g.cg.er,[(4,none)]⟩:=by kernel_rfl
theorem c.nj:zac P F.nj=some ⟨6,1,g.nj.er,[(2,none)]⟩:=by kernel_rfl
theorem c.ol:zac P F.ol=some ⟨8,1,g.ol.er,[(2,none)]⟩:=by kernel_rfl
theorem c.gi:zac P F.gi=some ⟨19,1,g.gi.er,[(2,none)]⟩:=by kernel_rfl
theorem c.oj:zac P F.oj=some ⟨25,1,g.oj.er,[(2,none)]⟩:=by kernel_rfl
theorem c.ny:zac P F.ny=some ⟨29,2,g.ny.er,[(4,none)]⟩:=by kernel_rfl
theorem c.jv:zac P F.jv=some ⟨32,1,g.jv.er,[(2,none)]⟩:=by kernel_rfl
end Go.Ab
