/-
Proofs for the law TransducerHasAForm, part 19. Conditions: none.
-/
import Derived.Test.YtbhboeijjgiflaaGreatDoorAP18
import Derived.KernelRfl
set_option maxRecDepth 100000
set_option maxHeartbeats 4000000
set_option linter.all false
namespace Go.Ab
open Go.Proofs
theorem c.fw:zad P F.fw=some ⟨24,2,g.fw.er,[(4,none)]⟩:=by kernel_rfl
theorem c.f9:zad P F.f9=some ⟨9,2,g.f9.er,[(4,none)]⟩:=by kernel_rfl
theorem c.g8:zad P F.g8=some ⟨20,2,g.g8.er,[(4,none)]⟩:=by kernel_rfl
theorem c.kg:zad P F.kg=some ⟨18,1,g.kg.er,[(2,none)]⟩:=by kernel_rfl
theorem c.lk:zad P F.lk=some ⟨6,1,g.lk.er,[(2,none)]⟩:=by kernel_rfl
theorem c.mw:zad P F.mw=some ⟨67,2,g.mw.er,[(4,none)]⟩:=by kernel_rfl
theorem c.jf:zad P F.jf=some ⟨47,0,g.jf.er,[(0,none)]⟩:=by kernel_rfl
theorem c.dk:zad P F.dk=some ⟨50,1,g.dk.er,[(2,none)]⟩:=by kernel_rfl
theorem c.dj:zad P F.dj=some ⟨22,2,g.dj.er,[(4,none)]⟩:=by kernel_rfl
theorem c.jj:zad P F.jj=some ⟨7,1,g.jj.er,[(2,none)]⟩:=by kernel_rfl
theorem c.je:zad P F.je=some ⟨41,1,g.je.er,[(2,none)]⟩:=by kernel_rfl
theorem c.mr:zad P F.mr=some ⟨6,1,g.mr.er,[(2,none)]⟩:=by kernel_rfl
theorem c.mq:zad P F.mq=some ⟨8,1,g.mq.er,[(2,none)]⟩:=by kernel_rfl
theorem c.fj:zad P F.fj=some ⟨19,1,g.fj.er,[(2,none)]⟩:=by kernel_rfl
theorem c.mo:zad P F.mo=some ⟨25,1,g.mo.er,[(2,none)]⟩:=by kernel_rfl
theorem c.kq:zad P F.kq=some ⟨30,2,g.kq.er,[(4,none),(5,none)]⟩:=by kernel_rfl
theorem c.ln:zad P F.ln=some ⟨51,2,g.ln.er,[(4,none),(5,none)]⟩:=by kernel_rfl
theorem c.lx:zad P F.lx=some ⟨29,2,g.lx.er,[(4,none)]⟩:=by kernel_rfl
theorem c.ly:zad P F.ly=some ⟨54,2,g.ly.er,[(4,none)]⟩:=by kernel_rfl
theorem c.iu:zad P F.iu=some ⟨32,1,g.iu.er,[(2,none)]⟩:=by kernel_rfl
theorem c.jc:zad P F.jc=some ⟨15,1,g.jc.er,[(2,none)]⟩:=by kernel_rfl
theorem c.me:zad P F.me=some ⟨32,1,g.me.er,[(2,none)]⟩:=by kernel_rfl
theorem c.i9:zad P F.i9=some ⟨21,2,g.i9.er,[(4,none)]⟩:=by kernel_rfl
theorem c.bs:zad P F.bs=some ⟨16,3,g.bs.er,[]⟩:=by kernel_rfl
theorem c.fg:zad P F.fg=some ⟨25,1,g.fg.er,[(2,none)]⟩:=by kernel_rfl
theorem c.bt:zad P F.bt=some ⟨10,2,g.bt.er,[(4,none)]⟩:=by kernel_rfl
theorem c.da:zad P F.da=some ⟨6,1,g.da.er,[(2,none)]⟩:=by kernel_rfl
theorem c.ef:zad P F.ef=some ⟨11,2,g.ef.er,[(4,some 3)]⟩:=by kernel_rfl
theorem c.ir:zad P F.ir=some ⟨9,2,g.ir.er,[(4,none)]⟩:=by kernel_rfl
theorem c.i6:zad P F.i6=some ⟨30,2,g.i6.er,[(4,some 3),(5,none)]⟩:=by kernel_rfl
theorem c.iq:zad P F.iq=some ⟨28,2,g.iq.er,[(4,some 3)]⟩:=by kernel_rfl
theorem c.cg:zad P F.cg=some ⟨14,1,g.cg.er,[(2,none)]⟩:=by kernel_rfl
theorem c.l8:zad P F.l8=some ⟨12,2,g.l8.er,[(4,some 3)]⟩:=by kernel_rfl
theorem c.d9:zad P F.d9=some ⟨48,1,g.d9.er,[(2,none)]⟩:=by kernel_rfl
theorem c.mi:zad P F.mi=some ⟨11,1,g.mi.er,[(2,some 3)]⟩:=by kernel_rfl
theorem c.i7:zad P F.i7=some ⟨53,2,g.i7.er,[(4,some 3)]⟩:=by kernel_rfl
theorem c.c9:zad P F.c9=some ⟨45,1,g.c9.er,[(2,some 3)]⟩:=by kernel_rfl
theorem c.bg:zad P F.bg=some ⟨14,2,g.bg.er,[(4,none)]⟩:=by kernel_rfl
theorem c.an:zad P F.an=some ⟨21,1,g.an.er,[(2,none)]⟩:=by kernel_rfl
theorem c.cq:zad P F.cq=some ⟨34,2,g.cq.er,[(4,none)]⟩:=by kernel_rfl
theorem c.iz:zad P F.iz=some ⟨19,2,g.iz.er,[(4,none)]⟩:=by kernel_rfl
theorem c.fi:zad P F.fi=some ⟨45,2,g.fi.er,[(4,none)]⟩:=by kernel_rfl
theorem c.mm:zad P F.mm=some ⟨17,1,g.mm.er,[(2,none)]⟩:=by kernel_rfl
theorem c.fh:zad P F.fh=some ⟨36,2,g.fh.er,[(4,none)]⟩:=by kernel_rfl
theorem c.ja:zad P F.ja=some ⟨111,2,g.ja.er,[(4,none),(5,none)]⟩:=by kernel_rfl
theorem c.mh:zad P F.mh=some ⟨39,2,g.mh.er,[(4,none)]⟩:=by kernel_rfl
theorem c.mn:zad P F.mn=some ⟨33,2,g.mn.er,[(4,none)]⟩:=by kernel_rfl
theorem c.mj:zad P F.mj=some ⟨43,2,g.mj.er,[(4,none),(5,none)]⟩:=by kernel_rfl
theorem c.ff:zad P F.ff=some ⟨59,2,g.ff.er,[(4,none)]⟩:=by kernel_rfl
theorem c.cr:zad P F.cr=some ⟨27,1,g.cr.er,[(2,some 3)]⟩:=by kernel_rfl
theorem c.fe:zad P F.fe=some ⟨2,0,g.fe.er,[(0,none)]⟩:=by kernel_rfl
theorem c.l7:zad P F.l7=some ⟨15,1,g.l7.er,[(2,none)]⟩:=by kernel_rfl
end Go.Ab
