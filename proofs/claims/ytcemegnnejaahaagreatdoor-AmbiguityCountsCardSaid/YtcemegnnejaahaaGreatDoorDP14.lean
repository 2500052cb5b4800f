/- Lemmas for the law AmbiguityCounts, part 14. No conditions. -/
import Derived.Test.YtcemegnnejaahaaGreatDoorDP13
import Derived.KernelRfl
set_option maxRecDepth 100000
set_option maxHeartbeats 4000000
set_option linter.all false
namespace Go.Ab
open Go.Proofs
theorem c.ik:zac P F.ik=some ⟨119,2,g.ik.er,[(4,some 3),(5,none)]⟩:=by kernel_rfl
theorem c.ic:zac P F.ic=some ⟨45,1,g.ic.er,[(2,none),(3,none)]⟩:=by kernel_rfl
theorem c.ij:zac P F.ij=some ⟨28,1,g.ij.er,[(2,none),(3,none),(4,none),(5,none)]⟩:=by kernel_rfl
theorem c.ak:zac P F.ak=some ⟨33,2,g.ak.er,[(4,some 9),(5,none)]⟩:=by kernel_rfl
theorem c.cm:zac P F.cm=some ⟨28,1,g.cm.er,[(2,none),(3,none),(4,none)]⟩:=by kernel_rfl
theorem c.c9:zac P F.c9=some ⟨7,2,g.c9.er,[(3,none)]⟩:=by kernel_rfl
theorem c.io:zac P F.io=some ⟨14,1,g.io.er,[(2,none),(3,none)]⟩:=by kernel_rfl
theorem c.ip:zac P F.ip=some ⟨56,1,g.ip.er,[(2,none),(3,none),(4,none),(5,none)]⟩:=by kernel_rfl
theorem c.jd:zac P F.jd=some ⟨37,3,g.jd.er,[(6,none),(7,none)]⟩:=by kernel_rfl
theorem c.fj:zac P F.fj=some ⟨17,5,g.fj.er,[]⟩:=by kernel_rfl
theorem c.jn:zac P F.jn=some ⟨16,6,g.jn.er,[]⟩:=by kernel_rfl
theorem c.jo:zac P F.jo=some ⟨15,7,g.jo.er,[]⟩:=by kernel_rfl
theorem c.jp:zac P F.jp=some ⟨17,5,g.jp.er,[]⟩:=by kernel_rfl
theorem c.dg:zac P F.dg=some ⟨17,4,g.dg.er,[(5,none)]⟩:=by kernel_rfl
theorem c.aj:zac P F.aj=some ⟨31,4,g.aj.er,[]⟩:=by kernel_rfl
theorem c.ct:zac P F.ct=some ⟨71,3,g.ct.er,[(6,none),(7,none)]⟩:=by kernel_rfl
theorem c.bg:zac P F.bg=some ⟨24,4,g.bg.er,[(7,none)]⟩:=by kernel_rfl
theorem c.fi:zac P F.fi=some ⟨17,6,g.fi.er,[]⟩:=by kernel_rfl
theorem c.jl:zac P F.jl=some ⟨16,7,g.jl.er,[]⟩:=by kernel_rfl
theorem c.jm:zac P F.jm=some ⟨15,5,g.jm.er,[]⟩:=by kernel_rfl
theorem c.an:zac P F.an=some ⟨24,3,g.an.er,[(4,none)]⟩:=by kernel_rfl
theorem c.fu:zac P F.fu=some ⟨24,2,g.fu.er,[(4,none)]⟩:=by kernel_rfl
theorem c.cr:zac P F.cr=some ⟨9,2,g.cr.er,[(4,none)]⟩:=by kernel_rfl
theorem c.fe:zac P F.fe=some ⟨31,1,g.fe.er,[(2,some 7),(3,none)]⟩:=by kernel_rfl
theorem c.ju:zac P F.ju=some ⟨64,2,g.ju.er,[(4,none)]⟩:=by kernel_rfl
theorem c.gi:zac P F.gi=some ⟨8,2,g.gi.er,[(3,none)]⟩:=by kernel_rfl
theorem c.jr:zac P F.jr=some ⟨65,1,g.jr.er,[(2,none)]⟩:=by kernel_rfl
theorem c.gh:zac P F.gh=some ⟨8,2,g.gh.er,[(3,none)]⟩:=by kernel_rfl
theorem c.j4:zac P F.j4=some ⟨36,2,g.j4.er,[(4,none)]⟩:=by kernel_rfl
theorem c.kg:zac P F.kg=some ⟨12,2,g.kg.er,[(3,none)]⟩:=by kernel_rfl
theorem c.bu:zac P F.bu=some ⟨22,2,g.bu.er,[(4,none)]⟩:=by kernel_rfl
theorem c.jt:zac P F.jt=some ⟨9,1,g.jt.er,[(2,some 2)]⟩:=by kernel_rfl
theorem c.j5:zac P F.j5=some ⟨9,2,g.j5.er,[(4,none)]⟩:=by kernel_rfl
theorem c.gm:zac P F.gm=some ⟨8,2,g.gm.er,[(3,none)]⟩:=by kernel_rfl
theorem c.go:zac P F.go=some ⟨20,2,g.go.er,[(4,none)]⟩:=by kernel_rfl
theorem c.km:zac P F.km=some ⟨18,1,g.km.er,[(2,none)]⟩:=by kernel_rfl
theorem c.kw:zac P F.kw=some ⟨6,1,g.kw.er,[(2,none)]⟩:=by kernel_rfl
theorem c.ln:zac P F.ln=some ⟨46,2,g.ln.er,[(4,none)]⟩:=by kernel_rfl
theorem c.ii:zac P F.ii=some ⟨56,0,g.ii.er,[(0,none)]⟩:=by kernel_rfl
theorem c.kf:zac P F.kf=some ⟨6,1,g.kf.er,[(2,none)]⟩:=by kernel_rfl
theorem c.lj:zac P F.lj=some ⟨8,1,g.lj.er,[(2,none)]⟩:=by kernel_rfl
theorem c.d9:zac P F.d9=some ⟨19,1,g.d9.er,[(2,none)]⟩:=by kernel_rfl
theorem c.lh:zac P F.lh=some ⟨25,1,g.lh.er,[(2,none)]⟩:=by kernel_rfl
theorem c.kr:zac P F.kr=some ⟨29,2,g.kr.er,[(4,none)]⟩:=by kernel_rfl
theorem c.gv:zac P F.gv=some ⟨32,1,g.gv.er,[(2,none)]⟩:=by kernel_rfl
theorem c.ia:zac P F.ia=some ⟨15,1,g.ia.er,[(2,none)]⟩:=by kernel_rfl
theorem c.kz:zac P F.kz=some ⟨32,1,g.kz.er,[(2,none)]⟩:=by kernel_rfl
theorem c.gz:zac P F.gz=some ⟨21,2,g.gz.er,[(4,none)]⟩:=by kernel_rfl
theorem c.k9:zac P F.k9=some ⟨16,3,g.k9.er,[]⟩:=by kernel_rfl
theorem c.g8:zac P F.g8=some ⟨25,1,g.g8.er,[(2,none)]⟩:=by kernel_rfl
theorem c.bj:zac P F.bj=some ⟨10,2,g.bj.er,[(4,none)]⟩:=by kernel_rfl
theorem c.g9:zac P F.g9=some ⟨6,1,g.g9.er,[(2,none)]⟩:=by kernel_rfl
end Go.Ab
