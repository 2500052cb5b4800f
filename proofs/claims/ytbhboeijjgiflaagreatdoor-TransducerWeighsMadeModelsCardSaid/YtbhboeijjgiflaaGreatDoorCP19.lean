/-
Proofs for the law TransducerWeighsMadeModels, part 19. Conditions: none.
-/
import Derived.Test.YtbhboeijjgiflaaGreatDoorCP18
import Derived.KernelRfl
set_option maxRecDepth 100000
set_option maxHeartbeats 4000000
set_option linter.all false
namespace Go.Ab
open Go.Proofs
theorem c.gh:zad P F.gh=some ⟨24,2,g.gh.er,[(4,none)]⟩:=by kernel_rfl
theorem c.gl:zad P F.gl=some ⟨9,2,g.gl.er,[(4,none)]⟩:=by kernel_rfl
theorem c.im:zad P F.im=some ⟨20,2,g.im.er,[(4,none)]⟩:=by kernel_rfl
theorem c.ku:zad P F.ku=some ⟨18,1,g.ku.er,[(2,none)]⟩:=by kernel_rfl
theorem c.l5:zad P F.l5=some ⟨6,1,g.l5.er,[(2,none)]⟩:=by kernel_rfl
theorem c.nc:zad P F.nc=some ⟨49,4,g.nc.er,[(8,none)]⟩:=by kernel_rfl
theorem c.jm:zad P F.jm=some ⟨47,0,g.jm.er,[(0,none)]⟩:=by kernel_rfl
theorem c.aj:zad P F.aj=some ⟨15,2,g.aj.er,[(4,none)]⟩:=by kernel_rfl
theorem c.jn:zad P F.jn=some ⟨144,5,g.jn.er,[(10,some 8)]⟩:=by kernel_rfl
theorem c.kd:zad P F.kd=some ⟨11,1,g.kd.er,[(2,some 3)]⟩:=by kernel_rfl
theorem c.jo:zad P F.jo=some ⟨18,1,g.jo.er,[(2,some 2)]⟩:=by kernel_rfl
theorem c.ak:zad P F.ak=some ⟨83,2,g.ak.er,[(4,some 8)]⟩:=by kernel_rfl
theorem c.bz:zad P F.bz=some ⟨31,3,g.bz.er,[(6,none)]⟩:=by kernel_rfl
theorem c.fy:zad P F.fy=some ⟨28,4,g.fy.er,[(8,some 8)]⟩:=by kernel_rfl
theorem c.m9:zad P F.m9=some ⟨6,1,g.m9.er,[(2,none)]⟩:=by kernel_rfl
theorem c.m8:zad P F.m8=some ⟨8,1,g.m8.er,[(2,none)]⟩:=by kernel_rfl
theorem c.ft:zad P F.ft=some ⟨19,1,g.ft.er,[(2,none)]⟩:=by kernel_rfl
theorem c.my:zad P F.my=some ⟨25,1,g.my.er,[(2,none)]⟩:=by kernel_rfl
theorem c.k9:zad P F.k9=some ⟨30,2,g.k9.er,[(4,none),(5,none)]⟩:=by kernel_rfl
theorem c.l7:zad P F.l7=some ⟨51,2,g.l7.er,[(4,none),(5,none)]⟩:=by kernel_rfl
theorem c.l9:zad P F.l9=some ⟨29,2,g.l9.er,[(4,none)]⟩:=by kernel_rfl
theorem c.me:zad P F.me=some ⟨54,2,g.me.er,[(4,none)]⟩:=by kernel_rfl
theorem c.jd:zad P F.jd=some ⟨32,1,g.jd.er,[(2,none)]⟩:=by kernel_rfl
theorem c.jk:zad P F.jk=some ⟨15,1,g.jk.er,[(2,none)]⟩:=by kernel_rfl
theorem c.mj:zad P F.mj=some ⟨32,1,g.mj.er,[(2,none)]⟩:=by kernel_rfl
theorem c.ji:zad P F.ji=some ⟨21,2,g.ji.er,[(4,none)]⟩:=by kernel_rfl
theorem c.bv:zad P F.bv=some ⟨16,3,g.bv.er,[]⟩:=by kernel_rfl
theorem c.fk:zad P F.fk=some ⟨25,1,g.fk.er,[(2,none)]⟩:=by kernel_rfl
theorem c.bw:zad P F.bw=some ⟨10,2,g.bw.er,[(4,none)]⟩:=by kernel_rfl
theorem c.dq:zad P F.dq=some ⟨6,1,g.dq.er,[(2,none)]⟩:=by kernel_rfl
theorem c.eu:zad P F.eu=some ⟨11,2,g.eu.er,[(4,some 3)]⟩:=by kernel_rfl
theorem c.jc:zad P F.jc=some ⟨9,2,g.jc.er,[(4,none)]⟩:=by kernel_rfl
theorem c.jg:zad P F.jg=some ⟨30,2,g.jg.er,[(4,some 3),(5,none)]⟩:=by kernel_rfl
theorem c.ja:zad P F.ja=some ⟨28,2,g.ja.er,[(4,some 3)]⟩:=by kernel_rfl
theorem c.da:zad P F.da=some ⟨14,1,g.da.er,[(2,none)]⟩:=by kernel_rfl
theorem c.mh:zad P F.mh=some ⟨12,2,g.mh.er,[(4,some 3)]⟩:=by kernel_rfl
theorem c.ep:zad P F.ep=some ⟨48,1,g.ep.er,[(2,none)]⟩:=by kernel_rfl
theorem c.mo:zad P F.mo=some ⟨11,1,g.mo.er,[(2,some 3)]⟩:=by kernel_rfl
theorem c.jh:zad P F.jh=some ⟨53,2,g.jh.er,[(4,some 3)]⟩:=by kernel_rfl
theorem c.dm:zad P F.dm=some ⟨45,1,g.dm.er,[(2,some 3)]⟩:=by kernel_rfl
theorem c.bk:zad P F.bk=some ⟨14,2,g.bk.er,[(4,none)]⟩:=by kernel_rfl
theorem c.av:zad P F.av=some ⟨21,1,g.av.er,[(2,none)]⟩:=by kernel_rfl
theorem c.di:zad P F.di=some ⟨34,2,g.di.er,[(4,none)]⟩:=by kernel_rfl
theorem c.jf:zad P F.jf=some ⟨19,2,g.jf.er,[(4,none)]⟩:=by kernel_rfl
theorem c.fq:zad P F.fq=some ⟨45,2,g.fq.er,[(4,none)]⟩:=by kernel_rfl
theorem c.mu:zad P F.mu=some ⟨17,1,g.mu.er,[(2,none)]⟩:=by kernel_rfl
theorem c.fm:zad P F.fm=some ⟨36,2,g.fm.er,[(4,none)]⟩:=by kernel_rfl
theorem c.jj:zad P F.jj=some ⟨111,2,g.jj.er,[(4,none),(5,none)]⟩:=by kernel_rfl
theorem c.mn:zad P F.mn=some ⟨39,2,g.mn.er,[(4,none)]⟩:=by kernel_rfl
theorem c.mw:zad P F.mw=some ⟨33,2,g.mw.er,[(4,none)]⟩:=by kernel_rfl
theorem c.mq:zad P F.mq=some ⟨43,2,g.mq.er,[(4,none),(5,none)]⟩:=by kernel_rfl
theorem c.fj:zad P F.fj=some ⟨59,2,g.fj.er,[(4,none)]⟩:=by kernel_rfl
end Go.Ab
