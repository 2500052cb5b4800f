/-
Proofs for the law TransducerNormalKeepsWeights, part 22. Conditions: none.
-/
import Derived.Test.YtbhboeijjgiflaaGreatDoorEP18
import Derived.KernelRfl
set_option maxRecDepth 100000
set_option maxHeartbeats 4000000
set_option linter.all false
namespace Go.Ab
open Go.Proofs
theorem c.jz:zad P F.jz=some ⟨32,3,g.jz.er,[(6,none)]⟩:=by kernel_rfl
theorem c.jk:zad P F.jk=some ⟨32,3,g.jk.er,[(6,none)]⟩:=by kernel_rfl
theorem c.dr:zad P F.dr=some ⟨32,3,g.dr.er,[(6,none)]⟩:=by kernel_rfl
theorem c.j0:zad P F.j0=some ⟨26,2,g.j0.er,[(4,none)]⟩:=by kernel_rfl
theorem c.km:zad P F.km=some ⟨26,2,g.km.er,[(4,none)]⟩:=by kernel_rfl
theorem c.ln:zad P F.ln=some ⟨27,2,g.ln.er,[(4,none)]⟩:=by kernel_rfl
theorem c.kf:zad P F.kf=some ⟨19,2,g.kf.er,[(4,none)]⟩:=by kernel_rfl
theorem c.ki:zad P F.ki=some ⟨19,2,g.ki.er,[(4,none)]⟩:=by kernel_rfl
theorem c.kg:zad P F.kg=some ⟨19,2,g.kg.er,[(4,none)]⟩:=by kernel_rfl
theorem c.jn:zad P F.jn=some ⟨48,2,g.jn.er,[(4,none)]⟩:=by kernel_rfl
theorem c.de:zad P F.de=some ⟨14,2,g.de.er,[]⟩:=by kernel_rfl
theorem c.ju:zad P F.ju=some ⟨9,2,g.ju.er,[]⟩:=by kernel_rfl
theorem c.l7:zad P F.l7=some ⟨53,4,g.l7.er,[]⟩:=by kernel_rfl
theorem c.im:zad P F.im=some ⟨53,4,g.im.er,[]⟩:=by kernel_rfl
theorem c.iz:zad P F.iz=some ⟨148,5,g.iz.er,[]⟩:=by kernel_rfl
theorem c.ke:zad P F.ke=some ⟨63,3,g.ke.er,[]⟩:=by kernel_rfl
theorem c.ja:zad P F.ja=some ⟨20,1,g.ja.er,[(2,none)]⟩:=by kernel_rfl
theorem c.bk:zad P F.bk=some ⟨33,1,g.bk.er,[(2,some 8),(3,none)]⟩:=by kernel_rfl
theorem c.fg:zad P F.fg=some ⟨54,2,g.fg.er,[(4,none)]⟩:=by kernel_rfl
theorem c.dq:zad P F.dq=some ⟨16,2,g.dq.er,[(4,none)]⟩:=by kernel_rfl
theorem c.jf:zad P F.jf=some ⟨64,2,g.jf.er,[(4,none)]⟩:=by kernel_rfl
theorem c.gi:zad P F.gi=some ⟨8,2,g.gi.er,[(3,none)]⟩:=by kernel_rfl
theorem c.di:zad P F.di=some ⟨103,1,g.di.er,[(2,none)]⟩:=by kernel_rfl
theorem c.ax:zad P F.ax=some ⟨132,3,g.ax.er,[(6,some 8),(7,none)]⟩:=by kernel_rfl
theorem c.bx:zad P F.bx=some ⟨27,2,g.bx.er,[(4,none)]⟩:=by kernel_rfl
theorem c.dj:zad P F.dj=some ⟨96,1,g.dj.er,[(2,none)]⟩:=by kernel_rfl
theorem c.dt:zad P F.dt=some ⟨5,1,g.dt.er,[(2,none)]⟩:=by kernel_rfl
theorem c.jg:zad P F.jg=some ⟨9,1,g.jg.er,[(2,none)]⟩:=by kernel_rfl
theorem c.jo:zad P F.jo=some ⟨61,5,g.jo.er,[]⟩:=by kernel_rfl
theorem c.jd:zad P F.jd=some ⟨104,2,g.jd.er,[]⟩:=by kernel_rfl
theorem c.bc:zad P F.bc=some ⟨59,4,g.bc.er,[(8,none)]⟩:=by kernel_rfl
theorem c.jh:zad P F.jh=some ⟨17,3,g.jh.er,[(6,none)]⟩:=by kernel_rfl
theorem c.gl:zad P F.gl=some ⟨8,2,g.gl.er,[(3,none)]⟩:=by kernel_rfl
theorem c.jc:zad P F.jc=some ⟨10,2,g.jc.er,[(4,none)]⟩:=by kernel_rfl
theorem c.fh:zad P F.fh=some ⟨32,2,g.fh.er,[(4,none)]⟩:=by kernel_rfl
end Go.Ab
