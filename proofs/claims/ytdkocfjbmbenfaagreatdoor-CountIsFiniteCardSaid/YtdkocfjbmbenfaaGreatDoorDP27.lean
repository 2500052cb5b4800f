/-
Proofs for the law CountIsFinite, part 27. Conditions: none.
-/
import Derived.Test.YtdkocfjbmbenfaaGreatDoorDP13
import Derived.Test.YtdkocfjbmbenfaaGreatDoorDP26
set_option maxRecDepth 100000
set_option maxHeartbeats 4000000
set_option linter.all false
namespace Go.Ab
open Enc (enc)
section
variable {P:Program} {K:Ctx} {Z Z':Cz} {st st' st1 st2:St} {w w':World} {a:Act} {N:Nat} {ex:Exit} {A B:Option FA} {Post:Exit->St->Option FA->Prop} {PostI:St->Option FA->Prop}
theorem zl3 {c:Callee} {ts:Array TypeId} {aq:List Opd} {f0:FuncId} {xs0:List Opd} (h:zck P c ts aq=some (.call f0 xs0)):∃ g,c=.value g/\zag g=some (.c (.p (.fn f0 [])))/\aq=xs0:=by
 unfold zck at h
 split at h
 ·rename_i g
  split at h
  ·rename_i hg; cases h; exact ⟨g,rfl,hg,rfl⟩
  ·cases h
  ·cases h
 ·cases h
 ·exfalso
  repeat' split at h
  all_goals first
   | cases h
   | (obtain ⟨_,_,h⟩:=mapS h; cases h)
theorem za6 {α : Type} {x:Option α} {f : α -> Option IOp} {f0:FuncId} {xs0:List Opd} (h:x.bind f=some (.call f0 xs0)) (k:∀ y,f y≠some (.call f0 xs0)):False:=by
 obtain ⟨y,_,h⟩:=zch h; exact k y h
theorem zeb {α : Type} {x:Option α} {f : α -> IOp} {f0:FuncId} {xs0:List Opd} (h:x.map f=some (.call f0 xs0)) (k:∀ y,f y ≠ .call f0 xs0):False:=by
 obtain ⟨y,_,h⟩:=mapS h; exact k y h
theorem zqk {t:TypeId} {m k:Operand} {c:Bool} {f0:FuncId} {xs0:List Opd} (h:zfm P t m k c=some (.call f0 xs0)):False:=by
 unfold zfm at h
 repeat' split at h
 all_goals first
  | exact za6 h fun _ h=>za6 h fun _ h=>za6 h fun _ h=>zeb h fun _ h=>by cases h
  | cases h
theorem zoq {t:TypeId} {x:Operand} {lo hi mx:Option Operand} {f0:FuncId} {xs0:List Opd} (h:ze5 P t x lo hi mx=some (.call f0 xs0)):False:=by
 unfold ze5 at h
 repeat' split at h
 all_goals first
  | exact za6 h fun _ h=>za6 h fun _ h=>zeb h fun _ h=>by cases h
  | cases h
theorem zr0 {op:BinOp} {x y:Opd} {f0:FuncId} {xs0:List Opd} (h:zhe op x y=some (.call f0 xs0)):False:=by
 unfold zhe at h
 repeat' split at h
 all_goals cases h
theorem zqi {fn:Fn} {x y:Array Operand} {f0:FuncId} {xs0:List Opd} (h:zgs fn x y=some (.call f0 xs0)):False:=by
 unfold zgs at h
 repeat' split at h
 all_goals first
  | exact zeb h fun _ h=>by cases h
  | cases h
theorem zm7 {op:Op} {f0:FuncId} {xs0:List Opd} (h:zbv P op=some (.call f0 xs0)):∃ cc h,op=.call cc/\cc.callee=.value h/\zag h=some (.c (.p (.fn f0 [])))/\za0 cc.args.toList=some xs0:=by
 cases op
 case call c =>
  simp only [zbv] at h
  obtain ⟨aq,ha,h⟩:=zch h
  obtain ⟨g,h1,h2,rfl⟩:=zl3 h
  exact ⟨c,g,rfl,h1,h2,ha⟩
 case makeMap|mapUpdate|range|next|entry=>cases h
 case lookup t m k c=>exact (zqk h).elim
 case slice=>exact (zoq h).elim
 case makeFunc=>exact (zqi h).elim
 case move|assign|alloc|box|nilCheck|extract=>exact (zeb h fun _ h=>by cases h).elim
 case pick=>exact (za6 h fun _ h=>za6 h fun _ h=>zeb h fun _ h=>by cases h).elim
 case binOp =>
  refine (za6 h fun _ h=>za6 h fun _ h=>?_).elim
  split at h
  ·cases h
  ·cases h
  ·exact zr0 h
  ·exact zeb h fun _ h=>by cases h
 case unOp =>
  refine (za6 h fun _ h=>?_).elim
  split at h<;>cases h
 case convert =>
  refine (za6 h fun _ h=>?_).elim
  split at h<;>cases h
 case load=>refine (za6 h fun _ h=>?_).elim; split at h<;>cases h
 case store=>refine (za6 h fun _ h=>za6 h fun _ h=>?_).elim; split at h<;>cases h
 case build =>
  simp only [zbv] at h
  split at h
  ·refine (za6 h fun _ h=>za6 h fun _ h=>?_).elim
   split at h
   ·exact zeb h fun _ h=>by cases h
   ·cases h
  ·refine (za6 h fun _ h=>za6 h fun _ h=>?_).elim
   split at h
   ·exact zeb h fun _ h=>by cases h
   ·cases h
  ·cases h
 case buildSlice =>
  simp only [zbv] at h
  split at h
  ·exact (za6 h fun _ h=>zeb h fun _ h=>by cases h).elim
  ·cases h
 case makeSlice =>
  simp only [zbv] at h
  split at h
  ·refine (za6 h fun _ h=>za6 h fun _ h=>za6 h fun _ h=>?_).elim
   split at h<;>cases h
  ·cases h
 case fieldAddr =>
  simp only [zbv] at h
  split at h
  ·split at h
   ·split at h
    ·exact (zeb h fun _ h=>by cases h).elim
    ·cases h
   ·cases h
  ·cases h
 case field =>
  simp only [zbv] at h
  split at h
  ·split at h
   ·split at h
    ·exact (zeb h fun _ h=>by cases h).elim
    ·cases h
   ·cases h
  ·cases h
 case indexAddr =>
  simp only [zbv] at h
  split at h
  ·split at h
   ·exact (za6 h fun _ h=>zeb h fun _ h=>by cases h).elim
   ·cases h
  ·split at h
   ·exact (za6 h fun _ h=>zeb h fun _ h=>by cases h).elim
   ·cases h
  ·cases h
 case index =>
  simp only [zbv] at h
  split at h
  ·split at h
   ·exact (za6 h fun _ h=>zeb h fun _ h=>by cases h).elim
   ·cases h
  ·exact (za6 h fun _ h=>zeb h fun _ h=>by cases h).elim
  ·cases h
 all_goals cases h
theorem zxw {d:Option Nat} {f:FuncId} {xs:List Opd} {r:Nat} {ks vs args ks' vs':List PV} (hsp:SpU P f ks vs args ks' vs') (hxs:xs.map st.ev=.p (.mapv r)::args.map .p) (hn1:zdz ks'=true) (hn2:zdz vs'=true)
  (k:PostI (st.put d (.p (.tup []))) (some (zha r ks' vs'))):MOp P N ⟨d,.call f xs,none⟩ st (some (zha r ks vs)) PostI:=by
 intro ops j o K Z w a Q Kt hN hj hcc hs hA hK
 obtain ⟨h1,h2,h3,h4⟩:=zdh hcc
 obtain ⟨cc,h,hop,hf,hh,hops⟩:=zm7 h1
 have hg:o.guard=none:=by
  cases hg:o.guard with
  | none=>rfl
  | some jb =>
   obtain ⟨j,b⟩:=jb
   rw [hg] at h2; simp only [zdi] at h2
   split at h2<;>cases h2
 have hw:Region.wanted o (yielded ops a.tmps)=true:=by simp [Region.wanted,hg]
 have hd:d=o.dst:=h3
 obtain ⟨hfn,hsp⟩:=hsp
 have hr:=zih hops hs
 rw [hxs] at hr
 have hfr:=zap hh hs
 simp only [St.ev] at hfr
 have hfv:a.eval h=.func (.func f) #[] #[]:=by
  have hp:=hfr.inv_p
  generalize a.eval h=F at hp ⊢
  cases hp with
  | fn _ _ vals h=>cases h; rfl
 have hrun:(execOp a.eval o).run P w=.ok (.enter f ((cc.args.toList.map a.eval).toArray)) w:=by
  have:=zen (P:=P) (w:=w) (args:=(cc.args.toList.map a.eval).toArray) hfn
  simp only [execOp,hop,resolve,hf,hfv,Deferred.ofValue,Sem.run_bind,Sem.run_pure,Result.andThen_ok,invoke]
  have e : #[]++cc.args.map a.eval ++ #[]=(cc.args.toList.map a.eval).toArray:=by simp [<- Array.toList_map]
  rw [e]; exact this
 have hp0:PReps Z.M (.mapv r::args) (cc.args.toList.map a.eval):=AReps.to_p (by simpa using hr)
 generalize cc.args.toList.map a.eval=vals at hp0 hrun
 obtain ⟨hF,hX,es,clock,q0,q1,q2,q3,q4,q5⟩:=hA
 simp only [zha] at hF hX q0
 let Mp:Nat->Option Obj:=fun b=>if b=r then w.heap[r]? else Z.M b
 have hsub:∀ b o,Z.M b=some o->Mp b=some o:=fun b o ho=>by
  simp only [Mp]; rw [if_neg]; · exact ho
  ·rintro rfl; rw [hF.m] at ho; cases ho
 have hMp:∀ b o,Mp b=some o->w.heap[b]?=some o:=fun b o ho=>by
  simp only [Mp] at ho; split at ho
  ·rename_i hb; subst hb; exact ho
  ·exact hs.heap.mem b o ho
 have hvals:PReps Mp (.mp r ks vs::args) vals:=by
  cases hp0 with
  | cons _ _ _ _ h0 h1 =>
   cases h0
   exact .cons _ _ _ _ (.mp r ks vs es clock (by simp only [Mp,if_true]; exact q0) (q1.mono hsub) (q2.mono hsub) q3 q4 q5) (h1.mono hsub)
 refine (show o.wp P a w Kt Q from ?_) |> fun h=>by unfold wpOp; simp only [hj,hw,if_true]; exact .inl h
 unfold Oper.wp
 rw [hrun,Oper.upon_enter]
 refine (hsp w Mp r vals hMp hvals).mono ?_
 rintro e w' ⟨M',rfl,p1,p2,p3,p4,p5⟩
 obtain ⟨es',clock',t0,t1,t2,t3,t4,t5⟩:∃ es' clock',M' r=some (.map es' clock')/\PReps M' ks' (es'.toList.map (·.key))/\PReps M' vs' (es'.toList.map (·.val))/\(es'.toList.map (·.key)).Nodup/\(∀ e∈es'.toList,e.born<clock')/\(es'.toList.map (·.born)).Nodup:=by
  cases p5 with
  | mp _ _ _ es clock m0 m1 m2 m3 m4 m5=>exact ⟨es,clock,m0,m1,m2,m3,m4,m5⟩
 let M1:Nat->Option Obj:=fun b=>if b=r then none else M' b
 have hM1:∀ b o,M1 b=some o->b≠r/\M' b=some o:=fun b o h=>by
  simp only [M1] at h; split at h
  ·cases h
  ·exact ⟨by assumption,h⟩
 have hcells:∀ b cur T fr,M' b=some (.cells cur T fr)->M1 b=some (.cells cur T fr):=fun b cur T fr h=>by
  simp only [M1]; rw [if_neg]; · exact h
  ·rintro rfl; rw [t0] at h; cases h
 have hold:∀ b o,M1 b=some o->Z.M b=some o\/w.heap.size<=b:=fun b o h=>by
  obtain ⟨g1,g2⟩:=hM1 b o h
  rcases p3 b o g2 with h|h|h
  ·exact absurd h g1
  ·simp only [Mp] at h; rw [if_neg g1] at h; exact .inl h
  ·exact .inr h
 have hHw:HRep K Z st w':=hs.heap.world p4 fun b hb=>by subst hb; exact ⟨hF.m,hF.o,hX⟩
 have hZM1:∀ b o,Z.M b=some o->M1 b=some o:=fun b o hb=>by
  have hbr:b≠r:=by rintro rfl; rw [hF.m] at hb; cases hb
  simp only [M1]; rw [if_neg hbr]; exact p1 b o hbr (hsub b o hb)
 have hH1:HRep K { Z with M:=M1 } st w':=by
  refine hHw.grow (Keep.refl _ _) M1 hZM1 (fun b o hb=>p2 b o (hM1 b o hb).2) (fun b o hb=>?_) (fun s g o b ho hb=>?_)
  ·rcases hold b o hb with h|h
   ·exact .inl h
   ·exact .inr (.inr (Nat.le_trans hs.heap.keep.size h))
  ·cases hm:M1 b with
   | none=>rfl
   | some y =>
    rcases hold b y hm with h|h
    ·rw [hs.heap.sep s g o b ho hb] at h; cases h
    ·have:=hs.heap.lt ho hb; omega
 have hz:ZLe Z st { Z with M:=M1 } st:=.growM hZM1
 refine hK _ _ _ _ _ k (?_:StRep K { Z with M:=M1 } (st.put d (.p (.tup []))) w' _) (zec.site ?_ fun s=>za5 st d _ s)
 ·rw [hd]
  exact hs.put rfl hz hH1 (.p _ _ (.tup [] [] .nil)) (by subst hN; exact h4) hs.defers
 ·refine ⟨⟨by simp [M1,zha],hF.o,?_⟩,hX,es',clock',p2 _ _ t0,t1.nomp hcells hn1,t2.nomp hcells hn2,t3,t4,t5⟩
  exact Nat.lt_of_lt_of_le hF.lt p4.size
theorem MR.freeze {ac:AC} {t r:Nat} {ks vs:List PV} (ht:st.get t=.p (.mapv r)) (k:MR P N ac (st.put (some t) (.p (.mp r ks vs))) none Post):MR P N ac st (some (zha r ks vs)) Post:=by
 intro code hc K Z w a Q hN hs hA hQ
 obtain ⟨hF,hX,es,clock,q0,q1,q2,q3,q4,q5⟩:=hA
 simp only [zha] at hF hX q0
 let M1:Nat->Option Obj:=fun b=>if b=r then w.heap[r]? else Z.M b
 have hsub:∀ b o,Z.M b=some o->M1 b=some o:=fun b o ho=>by
  simp only [M1]; rw [if_neg]; · exact ho
  ·rintro rfl; rw [hF.m] at ho; cases ho
 have hH1:HRep K { Z with M:=M1 } st w:=by
  refine hs.heap.grow (Keep.refl _ _) M1 hsub (fun b o hb=>?_) (fun b o hb=>?_) (fun s g o b ho hb=>?_)
  ·simp only [M1] at hb; split at hb
   ·rename_i hbr; subst hbr; exact hb
   ·exact hs.heap.mem b o hb
  ·simp only [M1] at hb; split at hb
   ·rename_i hbr; subst hbr; exact .inr hX
   ·exact .inl hb
  ·simp only [M1]; rw [if_neg]; · exact hs.heap.sep s g o b ho hb
   ·rintro rfl; exact hF.o s g o ho hb
 have hz:ZLe Z st { Z with M:=M1 } st:=.growM hsub
 have hs1:StRep K { Z with M:=M1 } (st.put (some t) (.p (.mp r ks vs))) w a:=by
  refine ⟨fun u=>?_,hs.defers,hs.size,hH1.of_site fun i=>za5 _ _ _ i⟩
  rw [zdm]
  split
  ·rename_i hu; cases hu
   have h0:=hs.slots t
   rw [ht] at h0
   have h0:=h0.inv_p
   generalize a.tmps.getD t Go.undef=X at h0
   cases h0
   exact .p _ _ (.mp r ks vs es clock (by simp only [M1,if_true]; exact q0) (q1.mono hsub) (q2.mono hsub) q3 q4 q5)
  ·exact ARep.mono (zbf (fun i=>za5 _ _ _ i) _) (ARep.mono hz (hs.slots u))
 exact k code hc K _ w a Q hN hs1 trivial hQ
theorem Sp.of_mr {f:FuncId} {args:List PV} {res:RV} {n np:Nat} {b:GC} {rs:List (Nat × Option Nat)} (hc:zac P f=some ⟨n,np,b.er,rs⟩) (hn:args.length<=n)
  (h:MR P n b.er (zel args) none fun ex s _=>retP rs res ex s):Sp P f args res:=by
 unfold zac at hc
 split at hc
 ·rename_i fn hf
  split at hc
  ·rename_i hname
   split at hc
   ·rename_i c hb
    split at hc
    ·rename_i bd rs' h1 h2
     simp only [Option.some.injEq,FnC.mk.injEq] at hc
     obtain ⟨rfl,_,rfl,rfl⟩:=hc
     refine ⟨⟨fn,hf,by rw [hb]; rfl,hname⟩,fun w M vals hM hv=>?_⟩
     refine calls_of_wp hf hb ?_
     refine h _ h1 ⟨w,M,fun _=>False,fn.ntmps⟩ _ w _ _ rfl (zoe hM hv hn) trivial (fun ex st' A' Z' w' a' hp hs _=>?_)
     have hr:(ex=.ret\/ex=.normal)/\∃ vs,zbc st' rs'=some vs/\ResOk st' (resOf vs) res:=by
      have key:(ex=.ret\/ex=.normal)/\∃ vs,zbc st' rs'=some vs/\resP st' (resOf vs) res:=by
       cases ex with
       | ret=>exact ⟨.inl rfl,hp⟩
       | normal=>exact ⟨.inr rfl,hp⟩
       | _=>exact hp.elim
      obtain ⟨k1,vs,r3,r4⟩:=key
      refine ⟨k1,vs,r3,?_⟩
      unfold resP at r4
      split at r4
      ·exact .pure _ _ r4
      ·split at r4
       ·rename_i sz es s' g off len hv
        obtain ⟨o,h1,rfl,h2,rfl,h4⟩:=r4
        rw [hv]
        exact .fresh _ _ _ _ _ h1 h2 h4
       ·rename_i hv; rw [hv,r4]; exact .nil _
       ·exact r4.elim
      ·exact r4.elim
     obtain ⟨hex,vs,hvs,hres⟩:=hr
     have hfin:a'.defers=[]/\∃ v,(results fn a'.tmps).run P w'=.ok v w'/\∃ x M',Ending.returned v=.returned x/\(∀ b o,M b=some o->M' b=some o)/\(∀ b o,M' b=some o->w'.heap[b]?=some o) /\
       (∀ b o,M' b=some o->M b=some o\/w.heap.size<=b)/\Keep w w' (fun _=>False)/\RRep M' w w' res x:=by
      obtain ⟨xs,e1,e2⟩:=zif hs h2 hvs
      obtain ⟨M',m1,m2,m3,m4,m5⟩:=zno hs.heap e2.resOf hres
      refine ⟨hs.defers,_,?_,_,M',rfl,m1,m2,m3,m4,m5⟩
      unfold results
      rw [Array.mapM_eq_mapM_toList]
      simp only [Sem.run_bind,map_eq_pure_bind,Sem.run_pure]
      exact congrArg (fun r=>(Result.andThen r fun a w'=>Result.ok a.toArray w').andThen fun (a:Array Value) w'=>Result.ok (if h:a.size=1 then a[0] else Value.tuple a) w') e1
     rcases hex with rfl|rfl
     ·exact hfin
     ·exact hfin
    ·cases hc
   ·cases hc
  ·cases hc
 ·cases hc
end
end Go.Ab
namespace Go.Ab
open Enc (enc)
section
variable {P:Program} {K:Ctx} {st st' st1:St} {N:Nat} {A B:Option FA} {Post:Exit->St->Option FA->Prop} {PostI:St->Option FA->Prop}
theorem MR.gseq {a b:GC} (h:vm P N (fun ex s=>(ex=.normal->MR P N b.er s A Post)/\(ex ≠ .normal->Post ex s A)) [.code a] st):MR P N (GC.seq a b).er st A Post :=
 .seq (.of_vm h)
theorem MR.gseq' {a b:GC} (h:MR P N a.er st A fun ex s B=>(ex=.normal->MR P N b.er s B Post)/\(ex ≠ .normal->Post ex s B)):MR P N (GC.seq a b).er st A Post:=.seq h
theorem MR.gcond {a b:GC} {c:Opd} {dl:List Nat} {t:Bool} (hv:st.ev c=.p (.bool t)) (h1:t=true->MR P N a.er (st.drop dl) A Post) (h2:t=false->MR P N b.er (st.drop dl) A Post):MR P N (GC.cond c dl a b).er st A Post:=by
 refine .cond hv ?_
 cases t with
 | true=>exact .weak (zhh _ _) (h1 rfl)
 | false=>exact .weak (zhh _ _) (h2 rfl)
theorem MR.gregD {ops:List Ins} {pre dead:List (List Nat)} {i:Ins} (ho:ops.getLast?=some i) (hl:zya pre ops.dropLast.length=true)
  (h:vm P N (fun ex s=>ex=.normal->MOp P N i s A fun s B=>Post .normal s B) [.insD ops.dropLast [] pre dead] st):MR P N (GC.regD ops pre dead).er st A Post:=by
 obtain ⟨gs,s1,s2,r1,r2,r3,r4⟩:=zcv _ (Nat.le_refl _) h
 have e:ops=ops.dropLast++[i]:=by
  have hne:ops≠[]:=by rintro rfl; simp at ho
  rw [List.getLast?_eq_getLast hne] at ho
  rw [<- Option.some.inj ho]; exact (List.dropLast_concat_getLast hne).symm
 show MR P N (.regD ops pre) st A Post
 rw [e]
 exact .regDL r1 (by simpa using r2) hl (.weak r3 (r4 rfl))
theorem MR.greg {ops:List Ins} {dead:List (List Nat)} (h:MIns P N ops st A fun s B=>Post .normal s B):MR P N (GC.reg ops dead).er st A Post:=.reg h
theorem zn1 (n:Nat) (dead:List (List Nat)) {ops:List Ins} (h:Go.Ab.vm P N (fun ex s=>ex=.normal->MIns P N (ops.drop n) s A PostI) [.ins (ops.take n) dead] st):MIns P N ops st A PostI:=by
 have:=MIns.vm h
 rwa [List.take_append_drop] at this
theorem MIns.cons {i:Ins} {is:List Ins} (h:MOp P N i st A fun s B=>MIns P N is s B PostI):MIns P N (i::is) st A PostI:=h
theorem MR.gblk {b:GC} {id:Nat} (h:MR P N b.er st A fun ex s B=>Post (exB id ex) s B):MR P N (GC.blk id b).er st A Post:=.blk h
theorem MR.gloop {b:GC} {I:Nat->St->Option FA->Prop} (n:Nat) (hI:I n st A) (step:∀ n st A,I n st A->MR P N b.er st A fun ex s B=>(ex=.normal->∃ m,m<n/\I m s B)/\(ex ≠ .normal->Post ex s B)):MR P N (GC.loop b).er st A Post:=.loop n hI step
theorem MR.gscp {b:GC} (h:MR P N b.er st A fun ex s B=>(∀ l,ex ≠ .goto l)/\Post ex s B):MR P N (GC.scp b).er st A Post:=.scp h
theorem MR.gext {id:Nat} (h:Post (.exit id) st A):MR P N (GC.ext id).er st A Post:=.ext h
theorem MR.gnop (h:Post .normal st A):MR P N GC.nop.er st A Post:=.nop h
attribute [go_sem] zdz PV.nomp
end
section
variable {κ α : Type} [Enc κ] [Enc α] [DecidableEq κ]
def mget (e : κ):List (κ × α)->Option α
 | []=>none
 | (e',c)::L=>if e'=e then some c else mget e L
def mset (e : κ) (c : α):List (κ × α)->List (κ × α)
 | []=>[(e,c)]
 | (e',c')::L=>if e'=e then (e',c)::L else (e',c')::mset e c L
def mks (L:List (κ × α)):List PV:=L.map fun p=>enc p.1
def mvs (L:List (κ × α)):List PV:=L.map fun p=>enc p.2
theorem zi4 {kc : κ -> List PV} (hk:∀ e,enc e=.agg (kc e)) (heq:∀ e e',eqI (kc e) (kc e')=true ↔ e=e') (e : κ):∀ L:List (κ × α),zbp (kc e) (mks L) (mvs L)=(mget e L).map enc
 | []=>rfl
 | (e',c)::L=>by
  simp only [mks,mvs,List.map_cons,hk,zbp,heq,mget]
  split
  ·rfl
  ·have:=zi4 hk heq e L; simp only [mks,mvs,hk] at this; exact this
theorem zkx {kc : κ -> List PV} (hk:∀ e,enc e=.agg (kc e)) (heq:∀ e e',eqI (kc e) (kc e')=true ↔ e=e') (e : κ) (c : α):∀ L:List (κ × α),zcb (kc e) (enc c) (mks L) (mvs L)=(mks (mset e c L),mvs (mset e c L))
 | []=>by simp [mks,mvs,zcb,mset,hk]
 | (e',c')::L=>by
  have ih:=zkx hk heq e c L
  simp only [mks,mvs,hk] at ih
  simp only [mks,mvs,List.map_cons,hk,zcb,heq,mset]
  split
  ·rfl
  ·simp only [ih,List.map_cons,hk]
theorem zkv (e : κ) (c : α) (e' : κ):∀ L:List (κ × α),mget e' (mset e c L)=if e=e' then some c else mget e' L
 | []=>rfl
 | (e1,c1)::L=>by
  have ih:=zkv e c e' L
  by_cases h:e1=e
  ·subst h
   simp only [mset,if_true,mget]
   by_cases h2:e1=e'
   ·simp [h2]
   ·simp [h2]
  ·simp only [mset,if_neg h,mget,ih]
   by_cases h2:e1=e'
   ·subst h2; simp [Ne.symm h]
   ·simp [h2]
theorem zps (e : κ) (c : α):∀ L:List (κ × α),(mset e c L).map (·.1)=if e∈L.map (·.1) then L.map (·.1) else L.map (·.1)++[e]
 | []=>rfl
 | (e1,c1)::L=>by
  have ih:=zps e c L
  simp only [mset]
  split
  ·rename_i h; subst h; simp
  ·rename_i h
   simp only [List.map_cons,ih,List.mem_cons,Ne.symm h,false_or]
   split<;>rfl
theorem zs9 {e : κ} {c : α}:∀ {L:List (κ × α)},mget e L=some c->(e,c)∈L
 | (e1,c1)::L,h=>by
  simp only [mget] at h
  split at h
  ·rename_i h1; subst h1; cases h; simp
  ·exact List.mem_cons_of_mem _ (zs9 h)
theorem zuw (e : κ) (c : α) {L:List (κ × α)} (h:(L.map (·.1)).Nodup):((mset e c L).map (·.1)).Nodup:=by
 rw [zps]
 split
 ·exact h
 ·rename_i he
  exact List.nodup_append.2 ⟨h,by simp,fun a ha b hb=>by simp at hb; subst hb; rintro rfl; exact he ha⟩
end
end Go.Ab
namespace Go.Ab
open Enc (enc)
def SpV (P:Program) (f:FuncId) (vals:List Value) (res:RV):Prop :=
 (∃ fn,P.funcs[f]?=some fn/\fn.body.isSome=true/\fn.name ≠ "runtime.NumGoroutine") /\
 ∀ (w:World) (M:Nat->Option Obj),(∀ b o,M b=some o->w.heap[b]?=some o) ->
  Calls P f vals.toArray w fun e w'=>∃ x M',e=.returned x/\(∀ b o,M b=some o->M' b=some o)/\(∀ b o,M' b=some o->w'.heap[b]?=some o) /\
   (∀ b o,M' b=some o->M b=some o\/w.heap.size<=b)/\Keep w w' (fun _=>False)/\RRep M' w w' res x
section
variable {P:Program} {K:Ctx} {Z Z':Cz} {st st' st1:St} {w w':World} {a:Act} {N:Nat} {A B:Option FA} {Post:Exit->St->Option FA->Prop} {PostI:St->Option FA->Prop} {v:AV}
theorem zxv {d:Option Nat} {f:FuncId} {xs:List Opd} {vals:List Value} {res:RV} (hsp:SpV P f vals res) (hv:∀ (Z:Cz) (ys:List Value),AReps Z st (xs.map st.ev) ys->ys=vals) (hres:zev ⟨f,[],res,none⟩ st (d.getD 0) []=some (v,st1)) (hsl:st1.sl=st.sl)
  (k:PostI (st1.put d v) none):MOp P N ⟨d,.call f xs,none⟩ st none PostI:=by
 intro ops j o K Z w a Q Kt hN hj hcc hs hA hK
 obtain ⟨h1,h2,h3,h4⟩:=zdh hcc
 obtain ⟨cc,h,hop,hf,hh,hops⟩:=zm7 h1
 have hg:o.guard=none:=by
  cases hg:o.guard with
  | none=>rfl
  | some jb =>
   obtain ⟨j,b⟩:=jb
   rw [hg] at h2; simp only [zdi] at h2
   split at h2<;>cases h2
 have hw:Region.wanted o (yielded ops a.tmps)=true:=by simp [Region.wanted,hg]
 have hd:d=o.dst:=h3
 obtain ⟨hfn,hsp⟩:=hsp
 have hr:=zih hops hs
 have hfr:=zap hh hs
 simp only [St.ev] at hfr
 have hfv:a.eval h=.func (.func f) #[] #[]:=by
  have hp:=hfr.inv_p
  generalize a.eval h=F at hp ⊢
  cases hp with
  | fn _ _ vals h=>cases h; rfl
 have hvs:cc.args.toList.map a.eval=vals:=hv Z _ (by simpa using hr)
 have hrun:(execOp a.eval o).run P w=.ok (.enter f vals.toArray) w:=by
  have:=zen (P:=P) (w:=w) (args:=(cc.args.toList.map a.eval).toArray) hfn
  simp only [execOp,hop,resolve,hf,hfv,Deferred.ofValue,Sem.run_bind,Sem.run_pure,Result.andThen_ok,invoke]
  have e : #[]++cc.args.map a.eval ++ #[]=(cc.args.toList.map a.eval).toArray:=by simp [<- Array.toList_map]
  rw [e,this,hvs]
 refine (show o.wp P a w Kt Q from ?_) |> fun h=>by unfold wpOp; simp only [hj,hw,if_true]; exact .inl h
 unfold Oper.wp
 rw [hrun,Oper.upon_enter]
 have hmx:∀ b o,Mx Z st w [] b=some o->Z.M b=some o:=fun b o hb=>by
  rcases zbs hb with h|⟨_,_,s,g,ob,h,_⟩
  ·exact h
  ·cases h
 refine (hsp w (Mx Z st w []) (fun b o hb=>hs.heap.mem b o (hmx b o hb))).mono ?_
 rintro e w' ⟨x,M',rfl,p1,p2,p3,p4,p5⟩
 obtain ⟨Z',q1,q2,q3⟩:=zqn (c:=⟨f,[],res,none⟩) (vs:=[]) hs.heap p1 p2 p3 p4 p5 hres
 refine hK _ _ Z' _ _ k ?_ trivial
 rw [hd]
 exact hs.put hsl q3 q1 q2 (by subst hN; exact h4) hs.defers
theorem Weak.trunc0 {t s sz:Nat} {es:List AV} (hp:s<PINB):Weak ⟨[(t,.own s 0 0 0)],[(s,[some ⟨sz,es⟩])]⟩ ⟨[(t,.own s 0 0 0)],[(s,[some ⟨sz,[]⟩])]⟩:=by
 intro K Z w a hs
 have hobj:∀ (es:List AV) s' g' o',(⟨[(t,.own s 0 0 0)],[(s,[some ⟨sz,es⟩])]⟩:St).obj s' g'=some o'->s'=s/\g'=0/\o'=⟨sz,es⟩:=by
  intro es s' g' o' h
  simp only [St.obj,St.site,look] at h
  split at h
  ·rename_i hs0
   cases g' with
   | zero=>simp at h; exact ⟨hs0.symm,rfl,h.symm⟩
   | succ g=>simp at h
  ·simp at h
 have h00:∀ es:List AV,(⟨[(t,.own s 0 0 0)],[(s,[some ⟨sz,es⟩])]⟩:St).obj s 0=some ⟨sz,es⟩:=fun es=>by simp [St.obj,St.site,look]
 have hO:=hs.heap.objs s 0 _ (h00 es)
 refine ⟨Z,⟨fun u=>?_,hs.defers,hs.size,⟨fun s' g' o' h=>?_,fun s1 g1 s2 g2 o1 o2 b h1 h2 _ _=>?_,hs.heap.mem,fun s' g' o' b h hb=>?_,fun s' g' o' b h hb=>?_,hs.heap.m0,hs.heap.prov,hs.heap.keep⟩⟩,⟨fun u a _=>?_,fun u g a _ hg _=>?_,fun u g o a _ ho=>?_⟩⟩
 case refine_6=>simp only [St.site,look]; split<;>simp
 case refine_7 =>
  simp only [St.site,look] at hg
  split at hg
  ·omega
  ·simp at hg
 case refine_8=>have:=(hobj _ _ _ _ ho).1; omega
 ·have hu:=hs.slots u
  simp only [St.get,look] at hu ⊢
  split at hu
  ·rename_i hut; simp only [hut,if_true]
   generalize a.tmps.getD u Go.undef=x at hu
   cases hu with
   | own0 _ _ o ho hb=>exact .own0 _ _ _ (h00 []) hb
   | own _ _ _ _ o b ad c ho hb h1 h2 h3 h4=>exact .own _ _ _ _ _ b ad c (h00 []) hb h1 (fun h=>absurd h (by omega)) (by simp) h4
   | ownD _ _ _ _ _ _ _ hd=>rw [h00] at hd; cases hd
  ·rename_i hut; simp only [hut,if_false]; exact .undef _
 ·obtain ⟨rfl,rfl,rfl⟩:=hobj _ _ _ _ h
  refine ⟨hO.pos,by simp,by simp,fun _=>rfl,fun b hb=>?_⟩
  obtain ⟨cur,T,vals,k1,k2,k3,k4,k5,k6⟩:=hO.blk b hb
  exact ⟨cur,T,[],k1,.nil,by simp,k4,by simp,k6⟩
 ·obtain ⟨rfl,rfl,_⟩:=hobj _ _ _ _ h1
  obtain ⟨rfl,rfl,_⟩:=hobj _ _ _ _ h2
  exact ⟨rfl,rfl⟩
 ·obtain ⟨rfl,rfl,rfl⟩:=hobj _ _ _ _ h; exact hs.heap.sep _ _ _ b (h00 es) hb
 ·obtain ⟨rfl,rfl,rfl⟩:=hobj _ _ _ _ h; exact hs.heap.own _ _ _ b (h00 es) hb
theorem SpV.of_vm {f:FuncId} {vals:List Value} {res:RV} {n np:Nat} {b:GC} {rs:List (Nat × Option Nat)} (hc:zac P f=some ⟨n,np,b.er,rs⟩) (hn:vals.length<=n)
  (hst:st.hp=[]) (hreps:∀ (M:Nat->Option Obj) (t:Nat),ARep ⟨M,fun _ _=>none,fun _ _=>0⟩ st (st.get t) ((vals.toArray++Array.replicate (n - vals.toArray.size) Go.undef).getD t Go.undef))
  (h:vm P n (fun ex s=>∃ s',Weak s s'/\retP rs res ex s') [.code b] st):SpV P f vals res:=by
 have hno:∀ s g,st.obj s g=none:=fun s g=>by simp [St.obj,St.site,hst,look]
 obtain ⟨ex,s,hrun,s',hw,hret⟩:=zcv _ (Nat.le_refl _) h
 have hrun:=hrun.weakR hw
 have hr:(ex=.ret\/ex=.normal)/\∃ vs,zbc s' rs=some vs/\ResOk s' (resOf vs) res:=by
  have key:(ex=.ret\/ex=.normal)/\∃ vs,zbc s' rs=some vs/\resP s' (resOf vs) res:=by
   cases ex with
   | ret=>exact ⟨.inl rfl,hret⟩
   | normal=>exact ⟨.inr rfl,hret⟩
   | _=>exact hret.elim
  obtain ⟨k1,vs,r3,r4⟩:=key
  refine ⟨k1,vs,r3,?_⟩
  unfold resP at r4
  split at r4
  ·exact .pure _ _ r4
  ·split at r4
   ·rename_i sz es s' g off len hv
    obtain ⟨o,h1,rfl,h2,rfl,h4⟩:=r4
    rw [hv]
    exact .fresh _ _ _ _ _ h1 h2 h4
   ·rename_i hv; rw [hv,r4]; exact .nil _
   ·exact r4.elim
  ·exact r4.elim
 obtain ⟨hex,vs,hvs,hres⟩:=hr
 unfold zac at hc
 split at hc
 ·rename_i fn hf
  split at hc
  ·rename_i hname
   split at hc
   ·rename_i c hb
    split at hc
    ·rename_i bd rs' h1 h2
     simp only [Option.some.injEq,FnC.mk.injEq] at hc
     obtain ⟨rfl,_,rfl,rfl⟩:=hc
     refine ⟨⟨fn,hf,by rw [hb]; rfl,hname⟩,fun w M hM=>?_⟩
     refine calls_of_wp hf hb ?_
     refine hrun _ h1 ⟨w,M,fun _=>False,fn.ntmps⟩ ⟨M,fun _ _=>none,fun _ _=>0⟩ w _ _ rfl ⟨hreps M,rfl,by simp; omega,⟨fun s g o ho=>(by rw [hno] at ho; cases ho),fun s g _ _ o _ b ho=>(by rw [hno] at ho; cases ho),hM,fun s g o b ho=>(by rw [hno] at ho; cases ho),fun s g o b ho=>(by rw [hno] at ho; cases ho),fun _ _ h=>h,fun _ _ h=>.inl h,Keep.refl w _⟩⟩ (fun Z' w' a' hs _=>?_)
     have hfin:a'.defers=[]/\∃ v,(results fn a'.tmps).run P w'=.ok v w'/\∃ x M',Ending.returned v=.returned x/\(∀ b o,M b=some o->M' b=some o)/\(∀ b o,M' b=some o->w'.heap[b]?=some o) /\
       (∀ b o,M' b=some o->M b=some o\/w.heap.size<=b)/\Keep w w' (fun _=>False)/\RRep M' w w' res x:=by
      obtain ⟨xs,e1,e2⟩:=zif hs h2 hvs
      obtain ⟨M',m1,m2,m3,m4,m5⟩:=zno hs.heap e2.resOf hres
      refine ⟨hs.defers,_,?_,_,M',rfl,m1,m2,m3,m4,m5⟩
      unfold results
      rw [Array.mapM_eq_mapM_toList]
      simp only [Sem.run_bind,map_eq_pure_bind,Sem.run_pure]
      exact congrArg (fun r=>(Result.andThen r fun a w'=>Result.ok a.toArray w').andThen fun (a:Array Value) w'=>Result.ok (if h:a.size=1 then a[0] else Value.tuple a) w') e1
     rcases hex with rfl|rfl
     ·exact hfin
     ·exact hfin
    ·cases hc
   ·cases hc
  ·cases hc
 ·cases hc
end
end Go.Ab
namespace Go.Ab
section
variable {P:Program} {K:Ctx} {Z Z':Cz} {st st':St} {w w':World} {a:Act}
theorem HRep.same2 (h:HRep K Z st w) {s g:Nat} {o:AObj} (ho:st.obj s g=some o) {es:List AV} (hl:es.length=o.es.length) (h2:∀ e∈es,e.sz=o.sz) (h3:∀ c∈es.flatMap AV.cells,c.one=true)
  (h4:∀ b,Z.B s g=some b->∃ (cur:Array Value) (T:TypeId) (vals:List Value),w.heap[b]?=some (.cells cur T (0,0))/\AReps Z st (es.flatMap AV.cells) vals /\
   (∀ (i:Nat) (v:Value),vals[i]?=some v->cur[i]?=some v)/\cur.size=Z.cap s g*o.sz/\o.es.length<=Z.cap s g/\Z.cap s g<=maxLen):HRep K Z (st.setObj s g ⟨o.sz,es⟩) w:=by
 have hg:=zbt ho
 have hz:=ZLe.setObj Z st s g o ⟨o.sz,es⟩ ho rfl hl
 have old:∀ {s' g':Nat} {o':AObj},(st.setObj s g ⟨o.sz,es⟩).obj s' g'=some o'->∃ o0,st.obj s' g'=some o0:=by
  intro s' g' o' ho'
  rw [za8 _ _ _ _ _ _ hg] at ho'
  split at ho'
  ·rename_i hc; obtain ⟨rfl,rfl⟩:=hc; exact ⟨o,ho⟩
  ·exact ⟨o',ho'⟩
 refine ⟨fun s' g' o' ho'=>?_,fun s' g' s'' g'' o' o'' b a1 a2 b1 b2=>?_,h.mem,fun s' g' o' b a1 b1=>?_,fun s' g' o' b a1 b1=>?_,h.m0,h.prov,h.keep⟩
 ·rw [za8 _ _ _ _ _ _ hg] at ho'
  split at ho'
  ·rename_i hc
   obtain ⟨rfl,rfl⟩:=hc
   cases ho'
   obtain ⟨k1,k2,k3,k4,k5⟩:=h.objs s' g' o ho
   refine ⟨k1,h2,h3,fun hb=>List.eq_nil_of_length_eq_zero (by rw [hl,k4 hb]; rfl),fun b hb=>?_⟩
   obtain ⟨cur,T,vals,e1,e2,e3,e4,e5,e6⟩:=h4 b hb
   exact ⟨cur,T,vals,e1,AReps.mono hz e2,e3,e4,by simpa [hl] using e5,e6⟩
  ·exact (h.objs s' g' o' ho').later hz rfl rfl (fun _ _=>rfl)
 ·obtain ⟨o1,c1⟩:=old a1
  obtain ⟨o2,c2⟩:=old a2
  exact h.inj _ _ _ _ _ _ b c1 c2 b1 b2
 ·obtain ⟨o1,c1⟩:=old a1; exact h.sep _ _ _ b c1 b1
 ·obtain ⟨o1,c1⟩:=old a1; exact h.own _ _ _ b c1 b1
theorem zg1:∀ (ids:List (Nat × Nat)) {st:St} {s g:Nat} {o:AObj},st.obj s g=some o->(s,g)∉ids->(killAll st ids).obj s g=some o
 | [],_,_,_,_,h,_=>h
 | (s',g')::r,st,s,g,o,h,hn=>by
  simp only [List.mem_cons,Prod.mk.injEq,not_or] at hn
  rw [zej]
  refine zg1 r ?_ hn.2
  rw [zeg,if_neg hn.1]; exact h
end
end Go.Ab
namespace Go.Ab
section
variable {P:Program} {K:Ctx} {Z Z':Cz} {st st':St} {w w':World} {a:Act}
def zd8:List AV->List AV->Prop
 | [],[]=>True
 | x::l,y::r=>(x=y\/(x=.p .any/\y.one=true))/\zd8 l r
 | _,_=>False
theorem zd8.reps:∀ {l r:List AV} {vals:List Value},zd8 l r->AReps Z st r vals->AReps Z st l vals
 | [],[],_,_,h=>h
 | [],_::_,_,h,_=>h.elim
 | _::_,[],_,h,_=>h.elim
 | x::l,y::r,_,h,.cons _ v _ vs h1 h2=>by
  refine .cons _ _ _ _ ?_ (zd8.reps h.2 h2)
  rcases h.1 with rfl|⟨rfl,ho⟩
  ·exact h1
  ·exact .p _ _ (.any _ (ARep.one_val h1 ho))
theorem zd8.one:∀ {l r:List AV},zd8 l r->(∀ c∈r,c.one=true)->∀ c∈l,c.one=true
 | [],[],_,_,c,hc=>by cases hc
 | [],_::_,h,_,_,_=>h.elim
 | _::_,[],h,_,_,_=>h.elim
 | x::l,y::r,h,hr,c,hc=>by
  rcases List.mem_cons.1 hc with rfl|hc
  ·rcases h.1 with rfl|⟨rfl,_⟩
   ·exact hr _ List.mem_cons_self
   ·rfl
  ·exact zd8.one h.2 (fun c hc=>hr c (List.mem_cons_of_mem _ hc)) c hc
theorem Weak.anyCells {s g:Nat} {o:AObj} (es:List AV) (ho:st.obj s g=some o) (hl:es.length=o.es.length) (h2:∀ e∈es,e.sz=o.sz) (hc:zd8 (es.flatMap AV.cells) (o.es.flatMap AV.cells)):Weak st (st.setObj s g ⟨o.sz,es⟩):=by
 intro K Z w a hs
 have hO:=hs.heap.objs s g o ho
 have hz:=ZLe.setObj Z st s g o ⟨o.sz,es⟩ ho rfl hl
 have hss:=hs.heap.same2 ho hl h2 (hc.one hO.one) (fun b hb=>by
  obtain ⟨cur,T,vals,e1,e2,e3,e4,e5,e6⟩:=hO.blk b hb
  exact ⟨cur,T,vals,e1,hc.reps e2,e3,e4,e5,e6⟩)
 refine ⟨Z,⟨fun u=>?_,hs.defers,hs.size,hss⟩,.of_zle hz⟩
 rw [show (st.setObj s g ⟨o.sz,es⟩).get u=st.get u from rfl]
 exact ARep.mono hz (hs.slots u)
end
def endW (rs:List (Nat × Option Nat)) (res:RV) (ex:Exit) (s:St):Prop:=∃ s1,Weak s s1/\retP rs res ex s1
theorem Sp.of_vmE {P:Program} {f:FuncId} {args:List PV} {res:RV} {n np:Nat} {b:GC} {rs:List (Nat × Option Nat)} (hc:zac P f=some ⟨n,np,b.er,rs⟩) (hn:args.length<=n) (h:vm P n (endW rs res) [.code b] (zel args)):Sp P f args res:=by
 obtain ⟨ex,s0,r1,s,hw,r2⟩:=zcv _ (Nat.le_refl _) h
 have key:(ex=.ret\/ex=.normal)/\∃ vs,zbc s rs=some vs/\resP s (resOf vs) res:=by
  cases ex with
  | ret=>exact ⟨.inl rfl,r2⟩
  | normal=>exact ⟨.inr rfl,r2⟩
  | _=>exact r2.elim
 obtain ⟨k1,vs,r3,r4⟩:=key
 refine Sp.of_runs hc hn (Runs.weakR r1 hw) k1 r3 ?_
 unfold resP at r4
 split at r4
 ·exact .pure _ _ r4
 ·split at r4
  ·rename_i sz es s' g off len hv
   obtain ⟨o,h1,rfl,h2,rfl,h4⟩:=r4
   rw [hv]
   exact .fresh _ _ _ _ _ h1 h2 h4
  ·rename_i hv; rw [hv,r4]; exact .nil _
  ·exact r4.elim
 ·exact r4.elim
end Go.Ab
namespace Go.Ab
open Enc (enc)
attribute [local go_sem] zal Opd.slots
def ratA:PV:=.agg [.fn F.dg [],.fn F.an [],.fn F.fx [],.fn F.dh [],.fn F.ko [],.fn F.na [],.fn F.kj [],.fn F.kx [],.fn F.nc []]
def polA:PV:=.agg [.fn F.dq [],.fn F.dr [],.fn F.ly [],.fn F.dt [],.fn F.lz [],.fn F.nh [],.fn F.kj [],.fn F.ni [],.fn F.nj []]
def fraB (x:PV):PV:=.agg [.fn F.bs [],.fn F.an [],.fn F.fx [],.fn F.dm [x],.fn F.ko [],.fn F.j0 [.ref (.fn F.fx [])],.fn F.dj [],.fn F.kx [],.fn F.ne [x]]
def cosB (x:PV):PV:=.agg [.fn F.bm [],.fn F.bn [],.fn F.km [],.fn F.bp [],.fn F.ky [],.fn F.j0 [.ref (.fn F.km [])],.fn F.bq [],.fn F.lr [],.fn F.nd [x]]
def setB (x:PV):PV:=.agg [.fn F.bu [],.fn F.bv [],.fn F.kn [],.fn F.bw [],.fn F.kz [],.fn F.j0 [.ref (.fn F.kn [])],.fn F.kj [],.fn F.lx [],.fn F.ng [x]]
def fraZ:PV:=.agg [.fn F.bs [],.fn F.an [],.fn F.fx [],.any,.fn F.ko [],.fn F.j0 [.ref (.fn F.fx [])],.fn F.dj [],.fn F.kx [],.any]
def cosZ:PV:=.agg [.fn F.bm [],.fn F.bn [],.fn F.km [],.fn F.bp [],.fn F.ky [],.fn F.j0 [.ref (.fn F.km [])],.fn F.bq [],.fn F.lr [],.any]
def setZ:PV:=.agg [.fn F.bu [],.fn F.bv [],.fn F.kn [],.fn F.bw [],.fn F.kz [],.fn F.j0 [.ref (.fn F.kn [])],.fn F.kj [],.fn F.lx [],.any]
def fraA:PV:=fraB (.ref fraZ)
def cosA:PV:=cosB (.ref cosZ)
def setA:PV:=setB (.ref setZ)
theorem zf1:Sp P F.db [] (.pure ratA):=by
 refine Sp.vz c.db fun _=>?_
 simp [g.db,go_sem,ratA]
theorem zlv:Sp P F.ju [] (.pure polA):=by
 refine Sp.vz c.ju fun _=>?_
 simp [g.ju,go_sem,polA]
theorem zqv (f:FuncId):Sp P F.di [.fn f []] (.pure (.fn F.j0 [.ref (.fn f [])])):=by
 refine Sp.vz c.di fun _=>?_
 simp [g.di,go_sem,toPV]
theorem zp4:Sp P F.jr [] (.pure fraA):=by
 refine Sp.of_vmE c.jr (by simp) ?_
 simp [g.jr,go_sem]
 refine zaa zf1 rfl ?_
 simp [go_sem,ratA]
 refine zaa (zqv F.fx) rfl ?_
 simp [go_sem]
 refine ⟨_,Weak.anyCells (s:=1) (g:=0) [.p fraZ] rfl rfl (by simp [fraZ,go_sem]) ?_,?_⟩
 ·simp [fraZ,zd8,AV.cells,PV.cells]; decide
 simp [go_sem,toPV,retP,resP,zbc,ziz,resOf,fraA,fraB,St.setObj]
theorem z2f:Sp P F.jq [] (.pure cosA):=by
 refine Sp.of_vmE c.jq (by simp) ?_
 simp [g.jq,go_sem]
 refine zaa (zqv F.km) rfl ?_
 simp [go_sem]
 refine ⟨_,Weak.anyCells (s:=1) (g:=0) [.p cosZ] rfl rfl (by simp [cosZ,go_sem]) ?_,?_⟩
 ·simp [cosZ,zd8,AV.cells,PV.cells]; decide
 simp [go_sem,toPV,retP,resP,zbc,ziz,resOf,cosA,cosB,St.setObj]
theorem z3y:Sp P F.jt [] (.pure setA):=by
 refine Sp.of_vmE c.jt (by simp) ?_
 simp [g.jt,go_sem]
 refine zaa (zqv F.kn) rfl ?_
 simp [go_sem]
 refine ⟨_,Weak.anyCells (s:=1) (g:=0) [.p setZ] rfl rfl (by simp [setZ,go_sem]) ?_,?_⟩
 ·simp [setZ,zd8,AV.cells,PV.cells]; decide
 simp [go_sem,toPV,retP,resP,zbc,ziz,resOf,setA,setB,St.setObj]
def zlx (k:Int):PV:=if k=1 then ratA else if k=2 then cosA else if k=3 then fraA else if k=4 then setA else polA
theorem zk3 (k:Int) (hk:1<=k/\k<=5):Sp P F.aa [.int .i64 k] (.pure (zlx k)):=by
 have:k=1\/k=2\/k=3\/k=4\/k=5:=by omega
 rcases this with rfl|rfl|rfl|rfl|rfl
 ·refine Sp.vz c.aa fun _=>?_
  simp [g.aa,go_sem]
  refine zaa zf1 rfl ?_
  simp [go_sem,zlx,ratA]
 ·refine Sp.vz c.aa fun _=>?_
  simp [g.aa,go_sem]
  refine zaa z2f rfl ?_
  simp [go_sem,zlx,cosA,cosB]
 ·refine Sp.vz c.aa fun _=>?_
  simp [g.aa,go_sem]
  refine zaa zp4 rfl ?_
  simp [go_sem,zlx,fraA,fraB]
 ·refine Sp.vz c.aa fun _=>?_
  simp [g.aa,go_sem]
  refine zaa z3y rfl ?_
  simp [go_sem,zlx,setA,setB]
 ·refine Sp.vz c.aa fun _=>?_
  simp [g.aa,go_sem]
  refine zaa zlv rfl ?_
  simp [go_sem,zlx,polA]
theorem zpa (k:Int):Sp P F.fk [.int .i64 k] (.pure (.bool (decide (1<=k/\k<=5)))):=by
 refine Sp.vz c.fk fun _=>?_
 simp [g.fk,go_sem]
 refine ⟨fun h=>by simp [h],fun h=>by simp [show ¬ 1<=k by omega]⟩
theorem zub (k:Int):Sp P F.fm [.int .i64 k] (.pure (.bool (!decide (1<=k/\k<=5)))):=by
 refine Sp.vz c.fm fun _=>?_
 simp [g.fm,go_sem]
 refine zaa (zpa k) rfl ?_
 simp [go_sem]
theorem zft (r:GRing):Sp P F.bj [enc r] (.pure (.bool r.ok)):=by
 refine Sp.vz c.bj fun hok=>?_
 simp [g.bj,go_sem]
 refine ⟨fun h6=>⟨fun h2=>⟨fun h3=>?_,fun h3=>?_⟩,fun h2=>?_⟩,fun h6=>?_⟩
 ·refine zaa (z48 r.parts F.fm [] (fun k => !decide (1<=k/\k<=5)) (by omega) fun k _=>zub k) rfl ?_
  have:r.ok = !(r.parts.any fun k => !decide (1<=k/\k<=5)):=by
   rw [Bool.eq_iff_iff]
   simp only [GRing.ok,if_pos h6,decide_eq_true_eq,Bool.not_eq_true',List.any_eq_false]
   constructor
   ·intro h x hx; have:=h.2.2 x hx; simp [this]
   ·intro h; exact ⟨by omega,by omega,fun k hk=>by have:=h k hk; simpa using this⟩
  simp [go_sem,this]
 ·simp [GRing.ok,h6]; intro h; omega
 ·simp [GRing.ok,h6]; intro h; omega
 ·refine zaa (zpa r.kind) rfl ?_
  by_cases hk:1<=r.kind/\r.kind<=5
  ·simp [go_sem,hk,GRing.ok,h6]
  ·have:r.ok=false:=by simp only [GRing.ok,if_neg h6,decide_eq_false_iff_not]; omega
   simp [go_sem,hk,this]
end Go.Ab
namespace Go.Ab
open Enc (enc)
attribute [local go_sem] zal Opd.slots
theorem zpy (w:GW) (q:GRat) (c:Int) (i:Bool) (s:UInt64) (p:List GMono) (ps:List GW):w=.mk q c i s p ps ↔ w.q=q/\w.cost=c/\w.inf=i/\w.set=s/\w.poly=p/\w.parts=ps:=by
 cases w; simp [GW.q,GW.cost,GW.inf,GW.set,GW.poly,GW.parts]
theorem zsq (w:GW) (hw:w.sm 1048576):Sp P F.dg [enc w] (.pure (.bool (decide (w.si 1)))):=by
 refine Sp.vz c.dg fun _=>?_
 simp [g.dg,go_sem]
 refine zaa (zho w.q (hw.q.mono (by omega))) rfl ?_
 rcases Bool.eq_false_or_eq_true w.q.valid with hv|hv
 ·simp [go_sem,hv]
  refine zaf (zdf w hw (.mk w.q 0 false 0 [] [])) ?_
  simp [go_sem]
  rw [si1,zpy]
  simp [hv]
  exact ⟨fun ⟨a,b,c,d,e⟩=>⟨e,b,a,c,d⟩,fun ⟨e,b,a,c,d⟩=>⟨a,b,c,d,e⟩⟩
 ·have:¬ w.si 1:=fun h=>by have:=(si1.1 h).2.2.2.2.2; rw [hv] at this; cases this
  simp [go_sem,hv,this]
theorem z0z (w:GW) (hw:w.sm 1048576):Sp P F.dq [enc w] (.pure (.bool (decide (w.si 5)))):=by
 refine Sp.vz c.dq fun _=>?_
 simp [g.dq,go_sem]
 refine zaa (zpj w.poly hw.poly (by have:=hw.len; omega)) rfl ?_
 by_cases hv:PVal w.poly
 ·simp [go_sem,hv]
  refine zaf (zdf w hw (.mk gr0 0 false 0 w.poly [])) ?_
  simp [go_sem]
  rw [si5,zpy]
  simp [hv]
  exact ⟨fun ⟨a,b,c,d,e⟩=>⟨e,a,c,b,d⟩,fun ⟨e,a,c,b,d⟩=>⟨a,b,c,d,e⟩⟩
 ·have:¬ w.si 5:=fun h=>hv (si5.1 h).2.2.2.2.2
  simp [go_sem,hv,this]
theorem z0l (w:GW) (hw:w.sm 1048576):Sp P F.bu [enc w] (.pure (.bool (decide (w.si 4)))):=by
 refine Sp.vz c.bu fun _=>?_
 simp [g.bu,go_sem]
 refine zaf (zdf w hw (.mk gr0 0 false w.set [] [])) ?_
 simp [go_sem]
 rw [si4,zpy]
 simp
 exact ⟨fun ⟨a,b,c,d,e⟩=>⟨e,a,c,b,d⟩,fun ⟨e,a,c,b,d⟩=>⟨a,b,c,d,e⟩⟩
theorem z2i (w:GW) (hw:w.sm 1048576):Sp P F.bm [enc w] (.pure (.bool (decide (w.si 2)))):=by
 refine Sp.vz c.bm fun _=>?_
 simp [g.bm,go_sem]
 have no:¬ (0<=w.cost/\w.cost<=1099511627776/\(w.inf=true->w.cost=0))->¬ w.si 2:=fun h h2=>h (si2.1 h2).2.2.2.2
 refine ⟨fun h1=>⟨fun h2=>?_,fun h2=>?_⟩,fun h1=>?_⟩
 ·rcases Bool.eq_false_or_eq_true w.inf with hi|hi
  ·simp [go_sem,hi]
   refine ⟨fun h3=>?_,fun h3=>no (fun h=>h3 (h.2.2 hi))⟩
   refine zaa (zdf w hw (.mk gr0 w.cost true 0 [] [])) (by simp [go_sem,hi]) ?_
   simp [go_sem]
   rw [si2,zpy]
   simp [hi,h3]
   exact ⟨fun ⟨a,b,c,d⟩=>⟨d,a,b,c⟩,fun ⟨d,a,b,c⟩=>⟨a,b,c,d⟩⟩
  ·simp [go_sem,hi]
   refine zaa (zdf w hw (.mk gr0 w.cost false 0 [] [])) (by simp [go_sem,hi]) ?_
   simp [go_sem]
   rw [si2,zpy]
   simp [hi,h1,h2]
   exact ⟨fun ⟨a,b,c,d⟩=>⟨d,a,b,c⟩,fun ⟨d,a,b,c⟩=>⟨a,b,c,d⟩⟩
 ·exact no (by omega)
 ·exact no (by omega)
theorem z30:Sp P F.be [.int .i64 1,.int .i64 1] (.pure (.tup [enc (rto 1),.int .i64 0])):=by
 have h:=zso 1 1 (by omega) (by omega)
 have hd:Rat.divInt 1 1=1:=rfl
 simp [hd] at h
 exact h
theorem zur:Sp P F.jy [.int .i64 1] (.pure (enc (.mk (rto 1) 0 false 0 [] []:GW))):=by
 refine Sp.vz c.jy fun _=>?_
 simp [g.jy,go_sem]
 refine zaa z30 rfl ?_
 simp [go_sem]
theorem z7y {x y:Rat}:x<y ↔ (x - y).num<0:=by
 rw [Rat.lt_iff_sub_pos]
 have:(x - y) = -(y - x):=by rw [Rat.neg_sub]
 rw [this,Rat.neg_num]
 have h1:0<=y - x ↔ 0<=(y - x).num:=Rat.num_nonneg.symm
 have h2:(y - x)=0 ↔ (y - x).num=0:=Rat.num_eq_zero.symm
 rw [Rat.lt_iff_le_and_ne,h1,ne_comm,Ne,h2]; omega
theorem z09 (x y:Rat):(x - y).num = -(y - x).num:=by
 have:(x - y) = -(y - x):=by rw [Rat.neg_sub]
 rw [this,Rat.neg_num]
theorem zwq {x y:Rat}:0<sgnR (x - y) ↔ y<x:=by
 rw [z7y]
 have:=z09 x y
 unfold sgnR; (repeat' split)<;>omega
theorem z7d {x y:Rat}:sgnR (x - y)<=0 ↔ x<=y:=by
 rw [<- Rat.not_lt,<- zwq]; omega
theorem z1v (w:GW) (hw:w.sm 1048576):Sp P F.bs [enc w] (.pure (.bool (decide (w.si 3)))):=by
 refine Sp.vz c.bs fun _=>?_
 simp [g.bs,go_sem]
 refine zaa zf1 rfl ?_
 simp [go_sem,ratA]
 refine zaf (zsq w hw) ?_
 have i3:w.si 3 ↔ w.si 1/\0<=w.q.v/\w.q.v<=1:=by
  rw [si3,si1]; exact ⟨fun ⟨a,b,c,d,e,f,g,h⟩=>⟨⟨a,b,c,d,e,f⟩,g,h⟩,fun ⟨⟨a,b,c,d,e,f⟩,g,h⟩=>⟨a,b,c,d,e,f,g,h⟩⟩
 by_cases h1:w.si 1
 ·simp [go_sem,h1]
  refine zaa (zhp w.q (hw.q.mono (by omega))) rfl ?_
  simp [go_sem]
  refine ⟨fun h2=>?_,fun h2=>?_⟩
  ·refine zaa zur rfl ?_
   simp [go_sem]
   refine zaa (zfc w.q (rto 1) hw.q (z31.mono (by omega))) rfl ?_
   simp [go_sem]
   rw [zg3]
   have a1:=zkd.1 h2
   rw [z7d,i3]
   simp [h1,a1]
  ·have:¬ 0<=w.q.v:=fun h=>by have:=zkd.2 h; omega
   simp [i3,this]
 ·simp [go_sem,i3,h1]
end Go.Ab
namespace Go.Ab
open Enc (enc)
attribute [local go_sem] zal Opd.slots
def zcx (k:Int):GW:=.mk gr0 0 (decide (k=2)) 0 [] []
def GRing.zero (r:GRing):GW:=if r.ok then .mk gr0 0 (decide (r.kind=2)) 0 [] (r.parts.map zcx) else gw0
theorem z3k (r:GRing) (h:r.parts=[]):Sp P F.ay [enc r] (.pure (enc r.zero)):=by
 refine Sp.vz c.ay fun _=>?_
 simp [g.ay,go_sem]
 refine zaa (zo3 r) rfl ?_
 rcases Bool.eq_false_or_eq_true r.ok with hr0|hr0
 rotate_left
 ·simp [hr0,GRing.zero,gw0,go_sem]
 simp [hr0,go_sem]
 refine zbm fun R hn hr hx=>?_
 simp [g.mh,h,go_sem]
 refine hx _ _ ?_
 simp [hr0,GRing.zero,h,go_sem]
theorem zz2 (r:GRing):Sp P F.ay [enc r] (.pure (enc r.zero)):=by
 refine Sp.vz c.ay fun _=>?_
 simp [g.ay,go_sem]
 refine zaa (zo3 r) rfl ?_
 rcases Bool.eq_false_or_eq_true r.ok with hr0|hr0
 rotate_left
 ·simp [hr0,GRing.zero,gw0,go_sem]
 simp [hr0,go_sem]
 refine zai (S:=fun k:Nat=>mkSt [(1,.ptr 1 0 0 0),(2,.ptr 2 0 0 0),(3,.ptr 3 0 0 0),(4,.p (.int .i64 k))]
   [(1,⟨2,[.p (enc r)]⟩),(2,⟨8,[.agg [.p (.bool false),.nil,.nil,.p (.int .i64 0),.p (.bool false),.p (.int .u64 0),.nil,.nil]]⟩),
    (3,⟨8,[.agg [.p (.bool false),.nil,.nil,.p (.int .i64 0),.p (.bool (decide (r.kind=2))),.p (.int .u64 0),.nil,.own 4 0 0 k]]⟩),(4,⟨8,avs ((r.parts.map zcx).take k)⟩)])
  (I:=fun k=>k<=r.parts.length) (m:=fun k=>r.parts.length - k) 0
  ((Weak.nilCell (s0:=3) (g0:=0) (i:=7) (s:=77) (sz:=8) rfl).trans (Weak.to [1,2,3,4] [((1,0),1),((2,0),2),((3,0),3),((77,0),4)] (by simp [go_sem]))) (by omega) ?_
 rintro k h1 R hn hr hx
 have hlen:r.parts.length<=3:=by
  by_cases h6:r.kind=6
  ·exact (GRing.ok_parts hr0 h6).2.1
  ·simp [(GRing.ok_kind hr0 h6).2.2]
 have e1:=i64s k (by omega)
 simp [g.mh,mkSt,go_sem]
 refine ⟨fun hk=>?_,fun hk=>hx _ _ ?_⟩
 ·have h6:r.kind=6:=by
   by_cases h6:r.kind=6
   ·exact h6
   ·have:=(GRing.ok_kind hr0 h6).2.2; rw [this] at hk; simp at hk
  have hpk:=(GRing.ok_parts hr0 h6).2.2 _ (List.getElem_mem hk)
  refine zaa (z05 r k hk) rfl ?_
  simp [go_sem]
  refine zaa (z3k ⟨r.parts[k],[]⟩ rfl) rfl ?_
  have hz:(⟨r.parts[k],[]⟩:GRing).zero=zcx r.parts[k]:=by
   have h7:r.parts[k]≠6:=by omega
   simp [GRing.zero,GRing.ok,h7,hpk,zcx]
  have hk':k<(r.parts.map zcx).length:=by simpa using hk
  rw [hz]
  simp [e1,go_sem]
  refine ⟨by omega,hn (k+1) _ (Weak.to [1,2,3,4] [((1,0),1),((2,0),2),((3,0),3),((28,0),4)] (by simp [go_sem,List.take_succ_eq_append_getElem hk',zm8])) (by omega) (by omega)⟩
 ·have:k=r.parts.length:=by omega
  subst this
  have ht:(r.parts.map zcx).take r.parts.length=r.parts.map zcx:=by rw [List.take_of_length_le (by simp)]
  simp [hr0,GRing.zero,go_sem]
  simp only [ht]
end Go.Ab
namespace Go.Ab
open Enc (enc)
attribute [local go_sem] zal Opd.slots
noncomputable def GW.tk (r:GRing) (w:GW):GW:=if w.chk r then w else r.zero
theorem zyo:gr0.valid=true:=by have:=zd5 0; rw [zdv] at this; exact this
theorem si_p {k:Int} {w:GW} (h:w.si k):PVal w.poly:=by
 by_cases h1:k=5
 ·exact h.2.2.2.2.2.2.2.2 h1
 ·rw [h.2.2.2.2.1 h1]; exact zrb
theorem z84 {r:GRing} {w:GW} (h:w.chk r):PVal w.poly:=by
 by_cases h6:r.kind=6
 ·have:=(h.2.2 h6).2.1; rw [this]; exact zrb
 ·exact si_p (h.2.1 h6)
theorem z7w {k:Int} (h:1<=k/\k<=5):(⟨k,[]⟩:GRing).ok=true:=by
 have h7:k≠6:=by omega
 simp [GRing.ok,h7,h]
theorem zt5 {r:GRing} {w:GW} (h:w.chk r) (h6:r.kind=6) {i:Nat} (hi:i<r.parts.length) (hi':i<w.parts.length):w.parts[i].chk ⟨r.parts[i],[]⟩:=by
 have hp:=(GRing.ok_parts h.1 h6).2.2 _ (List.getElem_mem hi)
 refine ⟨z7w hp,fun _=>(h.2.2 h6).2.2 i hi hi',fun h'=>?_⟩
 simp at h'; omega
end Go.Ab
namespace Go.Ab
open Enc (enc)
attribute [local go_sem] zal Opd.slots
def kF (a b c d e:FuncId) (k:Int):FuncId:=if k=1 then a else if k=2 then b else if k=3 then c else if k=4 then d else e
def kF0:=kF F.dg F.bm F.bs F.bu F.dq
def kF1:=kF F.an F.bn F.an F.bv F.dr
def kF2:=kF F.fx F.km F.fx F.kn F.ly
def kF3:=kF F.dh F.bp F.dm F.bw F.dt
def kC3 (k:Int):List PV:=if k=3 then [.ref fraZ] else []
def kF4:=kF F.ko F.ky F.ko F.kz F.lz
theorem zfj (k:Int) (hk:1<=k/\k<=5):∃ f5 f6 f7 f8 c5 c8,zlx k=.agg [.fn (kF0 k) [],.fn (kF1 k) [],.fn (kF2 k) [],.fn (kF3 k) (kC3 k),.fn (kF4 k) [],.fn f5 c5,.fn f6 [],.fn f7 [],.fn f8 c8]:=by
 have:k=1\/k=2\/k=3\/k=4\/k=5:=by omega
 rcases this with rfl|rfl|rfl|rfl|rfl<;>exact ⟨_,_,_,_,_,_,rfl⟩
theorem zzi (k:Int) (hk:1<=k/\k<=5) (w:GW) (hw:w.sm 1048576):Sp P (kF0 k) [enc w] (.pure (.bool (decide (w.si k)))):=by
 have:k=1\/k=2\/k=3\/k=4\/k=5:=by omega
 rcases this with rfl|rfl|rfl|rfl|rfl
 ·exact zsq w hw
 ·exact z2i w hw
 ·exact z1v w hw
 ·exact z0l w hw
 ·exact z0z w hw
theorem zsp:Sp P F.an [] (.pure (enc (.mk gr0 0 false 0 [] []:GW))):=by
 refine Sp.vz c.an fun _=>?_
 simp [g.an,go_sem]
theorem z0k:Sp P F.bv [] (.pure (enc (.mk gr0 0 false 0 [] []:GW))):=by
 refine Sp.vz c.bv fun _=>?_
 simp [g.bv,go_sem]
theorem z0y:Sp P F.dr [] (.pure (enc (.mk gr0 0 false 0 [] []:GW))):=by
 refine Sp.vz c.dr fun _=>?_
 simp [g.dr,go_sem]
theorem z2h:Sp P F.bn [] (.pure (enc (.mk gr0 0 true 0 [] []:GW))):=by
 refine Sp.vz c.bn fun _=>?_
 simp [g.bn,go_sem]
theorem zr8 (k:Int) (hk:1<=k/\k<=5):Sp P (kF1 k) [] (.pure (enc (zcx k))):=by
 have:k=1\/k=2\/k=3\/k=4\/k=5:=by omega
 rcases this with rfl|rfl|rfl|rfl|rfl
 ·exact zsp
 ·exact z2h
 ·exact zsp
 ·exact z0k
 ·exact z0y
theorem zzc (r:GRing) (hp:∀ k∈r.parts,1<=k/\k<=5) (hl:r.parts.length<=3) (f:FuncId) (caps:List PV) (out:List GW) (ho:out.length=r.parts.length)
  (hf:∀ i,(h:i<r.parts.length)->(h':i<out.length)->Sp P f (zlx r.parts[i]::.int .i64 i::caps) (.pure (enc out[i]))) :
  Sp P F.fi [enc r,.fn f caps] (.pure (enc (.mk gr0 0 false 0 [] out:GW))):=by
 refine Sp.vz c.fi fun _=>?_
 simp [g.fi,go_sem]
 refine zai (S:=fun k:Nat=>mkSt [(1,.p (.fn f caps)),(4,.ptr 1 0 0 0),(5,.ptr 2 0 0 0),(9,.p (.sl (ens r.parts))),(10,.p (.int .i64 r.parts.length)),(11,.p (.int .i64 k))]
   [(1,⟨8,[.agg [.p (.bool false),.nil,.nil,.p (.int .i64 0),.p (.bool false),.p (.int .u64 0),.nil,.nil]]⟩),
    (2,⟨8,[.agg [.p (.bool false),.nil,.nil,.p (.int .i64 0),.p (.bool false),.p (.int .u64 0),.nil,.own 3 0 0 k]]⟩),(3,⟨8,avs (out.take k)⟩)])
  (I:=fun k=>k<=r.parts.length) (m:=fun k=>r.parts.length - k) 0
  ((Weak.nilCell (s0:=5) (g0:=0) (i:=7) (s:=77) (sz:=8) rfl).trans (Weak.to [1,4,5,9,10,11] [((4,0),1),((5,0),2),((77,0),3)] (by simp [go_sem]))) (by omega) ?_
 rintro k h1 R hn hr hx
 have e1:=i64s k (by omega)
 simp [g.o5,mkSt,go_sem]
 refine ⟨fun hk=>?_,fun hk=>hx _ _ ?_⟩
 ·have hk':k<out.length:=by omega
  refine zae hk ?_
  try simp [go_sem]
  refine zaa (zk3 r.parts[k] (hp _ (List.getElem_mem hk))) rfl ?_
  obtain ⟨f5,f6,f7,f8,c5,c8,hA⟩:=zfj r.parts[k] (hp _ (List.getElem_mem hk))
  have hf':=hf k hk hk'
  rw [hA] at hf'
  simp [hA,go_sem]
  refine zaa hf' (zbz rfl (zbz rfl (zfg _ _))) ?_
  have hts:avs (out.take (k+1))=avs (out.take k)++[.p (enc out[k])]:=by
   rw [List.take_succ_eq_append_getElem hk',zm8]; rfl
  simp [e1,go_sem]
  exact ⟨⟨by omega,by omega⟩,hn (k+1) _ (Weak.to [1,4,5,9,10,11] [((1,0),1),((2,0),2),((24,0),3)] (by simp [go_sem,hts])) (by omega) (by omega)⟩
 ·have:k=out.length:=by omega
  subst this
  simp [go_sem]
end Go.Ab
