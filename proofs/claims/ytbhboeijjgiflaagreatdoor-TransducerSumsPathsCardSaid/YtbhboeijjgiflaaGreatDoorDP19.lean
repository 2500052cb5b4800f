/-
Proofs for the law TransducerSumsPaths, part 19. Conditions: none.
-/
import Derived.Test.YtbhboeijjgiflaaGreatDoorDP18
import Derived.KernelRfl
set_option maxRecDepth 100000
set_option maxHeartbeats 4000000
set_option linter.all false
namespace Go.Ab
open Go.Proofs
theorem c.fx:zad P F.fx=some ⟨24,2,g.fx.er,[(4,none)]⟩:=by kernel_rfl
theorem c.ge:zad P F.ge=some ⟨9,2,g.ge.er,[(4,none)]⟩:=by kernel_rfl
theorem c.g9:zad P F.g9=some ⟨20,2,g.g9.er,[(4,none)]⟩:=by kernel_rfl
theorem c.ke:zad P F.ke=some ⟨18,1,g.ke.er,[(2,none)]⟩:=by kernel_rfl
theorem c.ld:zad P F.ld=some ⟨6,1,g.ld.er,[(2,none)]⟩:=by kernel_rfl
theorem c.mq:zad P F.mq=some ⟨181,4,g.mq.er,[(8,none)]⟩:=by kernel_rfl
theorem c.fh:zad P F.fh=some ⟨47,0,g.fh.er,[(0,none)]⟩:=by kernel_rfl
theorem c.aj:zad P F.aj=some ⟨15,2,g.aj.er,[(4,none)]⟩:=by kernel_rfl
theorem c.jf:zad P F.jf=some ⟨144,5,g.jf.er,[(10,some 8)]⟩:=by kernel_rfl
theorem c.jz:zad P F.jz=some ⟨11,1,g.jz.er,[(2,some 3)]⟩:=by kernel_rfl
theorem c.jg:zad P F.jg=some ⟨18,1,g.jg.er,[(2,some 2)]⟩:=by kernel_rfl
theorem c.ak:zad P F.ak=some ⟨83,2,g.ak.er,[(4,some 8)]⟩:=by kernel_rfl
theorem c.bw:zad P F.bw=some ⟨31,3,g.bw.er,[(6,none)]⟩:=by kernel_rfl
theorem c.fq:zad P F.fq=some ⟨28,4,g.fq.er,[(8,some 8)]⟩:=by kernel_rfl
theorem c.mn:zad P F.mn=some ⟨6,1,g.mn.er,[(2,none)]⟩:=by kernel_rfl
theorem c.ml:zad P F.ml=some ⟨8,1,g.ml.er,[(2,none)]⟩:=by kernel_rfl
theorem c.fg:zad P F.fg=some ⟨19,1,g.fg.er,[(2,none)]⟩:=by kernel_rfl
theorem c.mj:zad P F.mj=some ⟨25,1,g.mj.er,[(2,none)]⟩:=by kernel_rfl
theorem c.kj:zad P F.kj=some ⟨30,2,g.kj.er,[(4,none),(5,none)]⟩:=by kernel_rfl
theorem c.lh:zad P F.lh=some ⟨51,2,g.lh.er,[(4,none),(5,none)]⟩:=by kernel_rfl
theorem c.lk:zad P F.lk=some ⟨29,2,g.lk.er,[(4,none)]⟩:=by kernel_rfl
theorem c.lm:zad P F.lm=some ⟨54,2,g.lm.er,[(4,none)]⟩:=by kernel_rfl
theorem c.iy:zad P F.iy=some ⟨32,1,g.iy.er,[(2,none)]⟩:=by kernel_rfl
theorem c.jd:zad P F.jd=some ⟨15,1,g.jd.er,[(2,none)]⟩:=by kernel_rfl
theorem c.l6:zad P F.l6=some ⟨32,1,g.l6.er,[(2,none)]⟩:=by kernel_rfl
theorem c.ja:zad P F.ja=some ⟨21,2,g.ja.er,[(4,none)]⟩:=by kernel_rfl
theorem c.bt:zad P F.bt=some ⟨16,3,g.bt.er,[]⟩:=by kernel_rfl
theorem c.fc:zad P F.fc=some ⟨25,1,g.fc.er,[(2,none)]⟩:=by kernel_rfl
theorem c.bu:zad P F.bu=some ⟨10,2,g.bu.er,[(4,none)]⟩:=by kernel_rfl
theorem c.de:zad P F.de=some ⟨6,1,g.de.er,[(2,none)]⟩:=by kernel_rfl
theorem c.d8:zad P F.d8=some ⟨11,2,g.d8.er,[(4,some 3)]⟩:=by kernel_rfl
theorem c.iu:zad P F.iu=some ⟨9,2,g.iu.er,[(4,none)]⟩:=by kernel_rfl
theorem c.i7:zad P F.i7=some ⟨30,2,g.i7.er,[(4,some 3),(5,none)]⟩:=by kernel_rfl
theorem c.ir:zad P F.ir=some ⟨28,2,g.ir.er,[(4,some 3)]⟩:=by kernel_rfl
theorem c.cj:zad P F.cj=some ⟨14,1,g.cj.er,[(2,none)]⟩:=by kernel_rfl
theorem c.l4:zad P F.l4=some ⟨12,2,g.l4.er,[(4,some 3)]⟩:=by kernel_rfl
theorem c.d6:zad P F.d6=some ⟨48,1,g.d6.er,[(2,none)]⟩:=by kernel_rfl
theorem c.me:zad P F.me=some ⟨11,1,g.me.er,[(2,some 3)]⟩:=by kernel_rfl
theorem c.i9:zad P F.i9=some ⟨53,2,g.i9.er,[(4,some 3)]⟩:=by kernel_rfl
theorem c.db:zad P F.db=some ⟨45,1,g.db.er,[(2,some 3)]⟩:=by kernel_rfl
theorem c.bj:zad P F.bj=some ⟨14,2,g.bj.er,[(4,none)]⟩:=by kernel_rfl
theorem c.au:zad P F.au=some ⟨21,1,g.au.er,[(2,none)]⟩:=by kernel_rfl
theorem c.c9:zad P F.c9=some ⟨34,2,g.c9.er,[(4,none)]⟩:=by kernel_rfl
theorem c.i6:zad P F.i6=some ⟨19,2,g.i6.er,[(4,none)]⟩:=by kernel_rfl
theorem c.ff:zad P F.ff=some ⟨45,2,g.ff.er,[(4,none)]⟩:=by kernel_rfl
theorem c.mh:zad P F.mh=some ⟨17,1,g.mh.er,[(2,none)]⟩:=by kernel_rfl
theorem c.fe:zad P F.fe=some ⟨36,2,g.fe.er,[(4,none)]⟩:=by kernel_rfl
theorem c.jc:zad P F.jc=some ⟨111,2,g.jc.er,[(4,none),(5,none)]⟩:=by kernel_rfl
theorem c.l9:zad P F.l9=some ⟨39,2,g.l9.er,[(4,none)]⟩:=by kernel_rfl
theorem c.mi:zad P F.mi=some ⟨33,2,g.mi.er,[(4,none)]⟩:=by kernel_rfl
theorem c.mf:zad P F.mf=some ⟨43,2,g.mf.er,[(4,none),(5,none)]⟩:=by kernel_rfl
theorem c.fb:zad P F.fb=some ⟨59,2,g.fb.er,[(4,none)]⟩:=by kernel_rfl
end Go.Ab
