/-
Proofs for the law TransducerWeighs, part 19. Conditions: none.
-/
import Derived.Test.YtbhboeijjgiflaaGreatDoorBP18
import Derived.KernelRfl
set_option maxRecDepth 100000
set_option maxHeartbeats 4000000
set_option linter.all false
namespace Go.Ab
open Go.Proofs
theorem c.fx:zad P F.fx=some ⟨24,2,g.fx.er,[(4,none)]⟩:=by kernel_rfl
theorem c.gg:zad P F.gg=some ⟨9,2,g.gg.er,[(4,none)]⟩:=by kernel_rfl
theorem c.ib:zad P F.ib=some ⟨20,2,g.ib.er,[(4,none)]⟩:=by kernel_rfl
theorem c.kj:zad P F.kj=some ⟨18,1,g.kj.er,[(2,none)]⟩:=by kernel_rfl
theorem c.lk:zad P F.lk=some ⟨6,1,g.lk.er,[(2,none)]⟩:=by kernel_rfl
theorem c.mw:zad P F.mw=some ⟨68,3,g.mw.er,[(6,none)]⟩:=by kernel_rfl
theorem c.ji:zad P F.ji=some ⟨47,0,g.ji.er,[(0,none)]⟩:=by kernel_rfl
theorem c.dm:zad P F.dm=some ⟨50,1,g.dm.er,[(2,none)]⟩:=by kernel_rfl
theorem c.dk:zad P F.dk=some ⟨22,2,g.dk.er,[(4,none)]⟩:=by kernel_rfl
theorem c.jn:zad P F.jn=some ⟨7,1,g.jn.er,[(2,none)]⟩:=by kernel_rfl
theorem c.jh:zad P F.jh=some ⟨41,1,g.jh.er,[(2,none)]⟩:=by kernel_rfl
theorem c.mr:zad P F.mr=some ⟨6,1,g.mr.er,[(2,none)]⟩:=by kernel_rfl
theorem c.mq:zad P F.mq=some ⟨8,1,g.mq.er,[(2,none)]⟩:=by kernel_rfl
theorem c.fk:zad P F.fk=some ⟨19,1,g.fk.er,[(2,none)]⟩:=by kernel_rfl
theorem c.mo:zad P F.mo=some ⟨25,1,g.mo.er,[(2,none)]⟩:=by kernel_rfl
theorem c.kr:zad P F.kr=some ⟨30,2,g.kr.er,[(4,none),(5,none)]⟩:=by kernel_rfl
theorem c.ln:zad P F.ln=some ⟨51,2,g.ln.er,[(4,none),(5,none)]⟩:=by kernel_rfl
theorem c.l4:zad P F.l4=some ⟨29,2,g.l4.er,[(4,none)]⟩:=by kernel_rfl
theorem c.l5:zad P F.l5=some ⟨54,2,g.l5.er,[(4,none)]⟩:=by kernel_rfl
theorem c.i6:zad P F.i6=some ⟨32,1,g.i6.er,[(2,none)]⟩:=by kernel_rfl
theorem c.jf:zad P F.jf=some ⟨15,1,g.jf.er,[(2,none)]⟩:=by kernel_rfl
theorem c.me:zad P F.me=some ⟨32,1,g.me.er,[(2,none)]⟩:=by kernel_rfl
theorem c.jd:zad P F.jd=some ⟨21,2,g.jd.er,[(4,none)]⟩:=by kernel_rfl
theorem c.bs:zad P F.bs=some ⟨16,3,g.bs.er,[]⟩:=by kernel_rfl
theorem c.fh:zad P F.fh=some ⟨25,1,g.fh.er,[(2,none)]⟩:=by kernel_rfl
theorem c.bt:zad P F.bt=some ⟨10,2,g.bt.er,[(4,none)]⟩:=by kernel_rfl
theorem c.dh:zad P F.dh=some ⟨6,1,g.dh.er,[(2,none)]⟩:=by kernel_rfl
theorem c.ej:zad P F.ej=some ⟨11,2,g.ej.er,[(4,some 3)]⟩:=by kernel_rfl
theorem c.iz:zad P F.iz=some ⟨9,2,g.iz.er,[(4,none)]⟩:=by kernel_rfl
theorem c.ja:zad P F.ja=some ⟨30,2,g.ja.er,[(4,some 3),(5,none)]⟩:=by kernel_rfl
theorem c.iy:zad P F.iy=some ⟨28,2,g.iy.er,[(4,some 3)]⟩:=by kernel_rfl
theorem c.cn:zad P F.cn=some ⟨14,1,g.cn.er,[(2,none)]⟩:=by kernel_rfl
theorem c.l8:zad P F.l8=some ⟨12,2,g.l8.er,[(4,some 3)]⟩:=by kernel_rfl
theorem c.d9:zad P F.d9=some ⟨48,1,g.d9.er,[(2,none)]⟩:=by kernel_rfl
theorem c.mi:zad P F.mi=some ⟨11,1,g.mi.er,[(2,some 3)]⟩:=by kernel_rfl
theorem c.jc:zad P F.jc=some ⟨53,2,g.jc.er,[(4,some 3)]⟩:=by kernel_rfl
theorem c.dg:zad P F.dg=some ⟨45,1,g.dg.er,[(2,some 3)]⟩:=by kernel_rfl
theorem c.bh:zad P F.bh=some ⟨14,2,g.bh.er,[(4,none)]⟩:=by kernel_rfl
theorem c.ap:zad P F.ap=some ⟨21,1,g.ap.er,[(2,none)]⟩:=by kernel_rfl
theorem c.db:zad P F.db=some ⟨34,2,g.db.er,[(4,none)]⟩:=by kernel_rfl
theorem c.i9:zad P F.i9=some ⟨19,2,g.i9.er,[(4,none)]⟩:=by kernel_rfl
theorem c.fj:zad P F.fj=some ⟨45,2,g.fj.er,[(4,none)]⟩:=by kernel_rfl
theorem c.mm:zad P F.mm=some ⟨17,1,g.mm.er,[(2,none)]⟩:=by kernel_rfl
theorem c.fi:zad P F.fi=some ⟨36,2,g.fi.er,[(4,none)]⟩:=by kernel_rfl
theorem c.je:zad P F.je=some ⟨111,2,g.je.er,[(4,none),(5,none)]⟩:=by kernel_rfl
theorem c.mh:zad P F.mh=some ⟨39,2,g.mh.er,[(4,none)]⟩:=by kernel_rfl
theorem c.mn:zad P F.mn=some ⟨33,2,g.mn.er,[(4,none)]⟩:=by kernel_rfl
theorem c.mj:zad P F.mj=some ⟨43,2,g.mj.er,[(4,none),(5,none)]⟩:=by kernel_rfl
theorem c.fg:zad P F.fg=some ⟨59,2,g.fg.er,[(4,none)]⟩:=by kernel_rfl
theorem c.de:zad P F.de=some ⟨27,1,g.de.er,[(2,some 3)]⟩:=by kernel_rfl
theorem c.ff:zad P F.ff=some ⟨2,0,g.ff.er,[(0,none)]⟩:=by kernel_rfl
theorem c.l7:zad P F.l7=some ⟨15,1,g.l7.er,[(2,none)]⟩:=by kernel_rfl
end Go.Ab
