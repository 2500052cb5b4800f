/- Lemmas for the law AmbiguityCounts, part 9. No conditions. -/
import Derived.Test.YtcemegnnejaahaaGreatDoorDP08
set_option maxRecDepth 100000
set_option maxHeartbeats 4000000
set_option linter.all false
namespace Go.Ab
open Enc (enc)
section
variable {P:Program} {K:Ctx} {Z Z':Cz} {st st' st1 st2:St} {w w':World} {a:Act} {N:Nat} {ex:Exit} {A B:Option FA} {Post:Exit->St->Option FA->Prop} {ops:Array Oper} {Q:Exit->Act->World->Prop}
theorem zmc{md:Region.Mode}{it:Nat->Item}{pre:Nat->List Nat}{n0:Nat}(hpre:∀ x o,ops[x]?=some o->∀ y∈pre x,Bef ops y x)
  (hc:∀ i,i<ops.size->∃ o,ops[i]?=some o/\zdx P K.N ops o=some (it i).1.2/\zjs P (it i).1.1) {L:List Nat} (htopo:topo md ops L []=true) (hn0:ops.size=n0+1) (hlast:∀ y,y<n0->Bef ops y n0) :
  ∀ (n:Nat) (R:List Nat) {listed:Array Bool} {st st':St} {Z:Cz} {w:World} {a:Act},R.length=n->R.Nodup->listed.size=ops.size->(∀ y z,listed.getD z false=true->Bef ops y z->listed.getD y false=true)->(∀ i,i∈R ↔ i<n0/\listed.getD i true=false)->listed.getD n0 true=false ->
   R.Pairwise (fun y x=>y∈pre x\/zli (it y).2 (it x).2=true)->RunL (R.map it) st st'->StRep K Z st w a ->
   (∀ Z' w' a',StRep K Z' st' w' a'->PinLe Z st Z' st'->wpOp P ops Q n0 (fun a w=>Q .normal a w) a' w')->wpAny P md ops Q (n+1) listed a w
 | n,R,listed,st,st',Z,w,a,hn,hnd,hsz,hcl,hR,hl0,hpw,hrun,hs,hQ=>by
  have hbefl:∀ {i:Nat} {o:Oper},ops[i]?=some o->(∀ e∈o.after,Region.binds md e=true->listed.getD e.on false=true)->∀ y,Bef ops y i->listed.getD y false=true:=by
   intro i o h2 h3 y hy;have gd:∀ e∈o.after,Region.binds .any e=true->listed.getD e.on false=true:=fun e he hb=>h3 e he (zqy hb);cases hy with
   | one k1 k2 k3 k4=>rw[h2]at k1;cases k1;rw[<- k3];exact gd _ k2 k4
   | more k0 k1 k2 k3 k4=>rw[h2]at k1;cases k1;exact hcl _ _ (by rw[<- k3];exact gd _ k2 k4) k0
  have hnot:∀ y,listed.getD y true=false->listed.getD y false=true->False:=by
   intro y h5 h4;rcases yg1 y listed.size with h'|h'
   ·simp[h']at h4 h5;rw[h4]at h5;cases h5
   ·simp[yik h']at h4
  refine⟨fun hr=>?_,fun i hi=>?_⟩
  ·exact absurd hr (zig L [] hsz htopo (by simp) ⟨n0,by omega,hl0⟩)
  ·obtain⟨h1,o,h2,h3⟩:=mem_ready.1 hi;have h3':∀ e∈o.after,Region.binds md e=true->listed.getD e.on false=true:=by
    intro e he hb;have h4:=h3 e he hb;rcases yg1 e.on listed.size with h'|h'
    ·simp[h']at h4 ⊢;exact h4
    ·simp[yik h']at h4
   have hbef:=hbefl h2 h3';have hisz:=(ygh.1 h2).1;by_cases hi0:i=n0
   ·subst hi0;cases R with
    | cons y R =>
     exfalso;have hy:=(hR y).1 (by simp);exact hnot y hy.2 (hbef y (hlast y hy.1))
    | nil =>
     cases n with
     | succ n=>simp at hn
     | zero =>
      cases hrun;refine wpOp_mono (fun a w hq=>?_) (hQ _ _ _ hs (PinLe.refl _ _));refine⟨?_,hq⟩;apply ykg.2;intro j hj;obtain⟨g1,o',g2,_⟩:=mem_ready.1 hj;have hjs:=(ygh.1 g2).1;by_cases hji:j=i
      ·subst hji;have hlt:j<listed.size:=by rw[hsz];exact hjs
       simp[hlt]at g1
      ·rw[getD_set_ne true (ygr hji)]at g1;have:=(hR j).2 ⟨by omega,g1⟩;cases this
   ·have hiR:=(hR i).2 ⟨by omega,h1⟩;obtain⟨ys,xs,rfl⟩:=yju hiR;have hind:∀ y∈ys,zli (it y).2 (it i).2=true:=by
     intro y hy;have:=(ygz.1 hpw).2.2 y hy i (by simp);rcases this with h|h
     ·exact(hnot y ((hR y).1 (by simp[hy])).2 (hbef y (hpre i o h2 y h))).elim
     ·exact h
    rw[ygx,yfq]at hrun;obtain⟨st1,hrun1,heqv⟩:=RunL.front hrun (fun y hy=>by obtain⟨z,hz,rfl⟩:=yf6.1 hy;exact hind z hz);cases n with
    | zero=>simp at hn
    | succ n =>
    cases hrun1 with
    | cons _ _ _ s1 _ k1 k2 k3 =>
     obtain⟨o',e1,e2,e3⟩:=hc i hisz;refine zot e1 e2 hs e3 k1 (fun Z' w' a' hs' hp=>?_);have hnd':=List.nodup_append.1 hnd;have hndx:i∉ys:=fun h=>hnd'.2.2 i h i (by simp) rfl;have hndy:i∉xs:=(List.nodup_cons.1 hnd'.2.1).1;rw[<- List.map_append]at k3;refine zmc hpre hc htopo hn0 hlast n (ys++xs) (by simp at hn ⊢;omega) ?_ (by simpa using hsz) ?_ ?_ ?_ ?_ k3 hs' ?_
     ·refine yjg.2 ⟨hnd'.1,(ygn.1 hnd'.2.1).2,fun y hy z hz=>hnd'.2.2 y hy z (by simp[hz])⟩
     ·intro y z hz hyz;by_cases hyi:y=i
      ·subst hyi;have hlt:y<listed.size:=by rw[hsz];exact hisz
       simp[hlt]
      ·rw[getD_set_ne false (ygr hyi)];by_cases hzi:z=i
       ·subst hzi;exact hbef y hyz
       ·rw[getD_set_ne false (ygr hzi)]at hz;exact hcl y z hz hyz
     ·intro j;by_cases hji:j=i
      ·subst hji;have hlt:j<listed.size:=by rw[hsz];exact hisz
       simp[hndx,hndy,hlt]
      ·rw[getD_set_ne true (ygr hji),<- hR j];simp[hji]
     ·rw[getD_set_ne true hi0];exact hl0
     ·refine yjv ?_ hpw;exact List.Sublist.append_left (List.sublist_cons_self _ _) _
     ·intro Z2 w' a' hs' hp2;exact hQ _ _ _ (hs'.eqv (Eqv.symm heqv)) ((hp.trans hp2).trans (.of_zle (zbk (Eqv.symm heqv).site _)))
def zg4(i:Ins):Item:=((none,i),⟨[],[],[],[]⟩)
def zym(pre:List (List Nat))(n:Nat):Bool:=(List.range n).all fun y=>(pre.getD n []).contains y
theorem MR.regDL{is:List Ins}{i:Ins}{fs:List FP}{pre:List (List Nat)}(h:Run P is fs st st1)(hp:chk [] 0 fs pre=true)(hl:zym pre is.length=true)(k:MOp P N i st1 A fun s B=>Post .normal s B):MR P N (.regD (is++[i]) pre) st A Post:=by
 intro code hc K Z w a Q hN hs hA hQ;cases code<;>simp only[comp]at hc
 case region id ops draw =>
  split at hc
  ·rename_i hd;subst hd;split at hc
   ·rename_i ht;obtain⟨l,h1,h2⟩:=mapS hc;simp only[AC.regD.injEq]at h2;obtain⟨rfl,rfl⟩:=h2;subst hN;obtain⟨items,e1,e2,e3,e4⟩:=h.items;have hll:=(zbw h1).1;have hlen:items.length=is.length:=by rw[<- e1];simp
    have hsz:ops.size=is.length+1:=by rw[<- Array.length_toList,<- hll];simp
    obtain⟨o,k1,k2⟩:∃ o,ops[is.length]?=some o/\zdx P K.N ops o=some i:=by obtain⟨_,hi⟩:=zbw h1;obtain⟨x,q1,q2⟩:=hi is.length ops[is.length] (by simp[hsz]);simp at q2;subst q2;exact⟨ops[is.length],by simp[hsz],q1⟩
    have hat:=zoh (items:=items++[zg4 i]) (by simp[e1,zg4]) (fun x hx=>by
     rcases yfk.1 hx with hx|hx
     ·exact e3 x hx
     ·simp at hx;subst hx;intro c hc;cases hc) h1
    have hgd:∀ x,x<is.length->(items++[zg4 i]).getD x zbq=items.getD x zbq:=by intro x hx;simp[yfj,yid,hlen,hx]
    have hrun:RunL ((List.range is.length).map fun x=>(items++[zg4 i]).getD x zbq) st st1:=by rw[show((List.range is.length).map fun x=>(items++[zg4 i]).getD x zbq)=(List.range is.length).map fun x=>items.getD x zbq from ygc fun x hx=>hgd x (ygy.1 hx),zeu _ _ _ hlen];exact e4
    have hany:∀ (md:Region.Mode) (L:List Nat),topo md ops L []=true->wpAny P md ops Q ops.size (Array.replicate ops.size false) a { w with drawn:=w.drawn+1 }:=by
     intro md L hL;have hr:=hs.root;rw[hsz];refine zmc (K:=⟨w,Z.M,ownB Z st,K.N⟩) (pre:=fun i=>(clos [] (pres ops.toList)).getD i []) (it:=fun x=>(items++[zg4 i]).getD x zbq) (fun x o ho y hy=>zlx ops x y hy) hat hL hsz (fun y hy=>?_) is.length (List.range is.length) (by simp) List.nodup_range (by simp[hsz]) (fun y z hz _=>by simp[yjh,yjw]at hz;split at hz<;>simp at hz) (fun i=>by simp[yjh,yjw];intro hi;rw[yf1 (by omega)];rfl) (by simp[yjh]) ?_ hrun (Z:=Z) ⟨hr.slots,hr.defers,hr.size,hr.heap.drew⟩ (fun Z' w' a' hs' hp=>?_)
     ·refine zlx ops _ y ?_;simp only[zym,List.all_eq_true,List.mem_range]at hl;simpa using hl y hy
     ·refine List.Pairwise.imp_of_mem ?_ List.pairwise_lt_range;intro y x hy hx hyx;have hx:=ygy.1 hx;have hy:=ygy.1 hy;rw[hgd x hx,hgd y hy];have hfx:fs[x]?=some (items.getD x zbq).2:=by rw[<- e2];simp[hlen,hx]
      have hfy:fs[y]?=some (items.getD y zbq).2:=by rw[<- e2];simp[hlen,hy]
      simpa using (zoz hp x _ hfx).2 y _ hfy hyx
     ·exact k ops is.length o K Z' w' a' Q _ rfl k1 k2 (hs.unroot hs') (hA.later ⟨hs'.heap.m0,fun r hr=>hr.later hs',hp⟩) fun st' A' Z2 w2 a2 hp hs2 hA2=>hQ _ _ _ _ _ _ hp hs2 hA2
    simp only[z5a,yfr,yij,yjx]at ht;obtain⟨t1,t2⟩:=ht;refine wp_region_draw fun t=>?_;unfold Region.schedule;split
    ·exact wpAny_sound ops.size t _ a _ (hany .any _ t1)
    ·rename_i hm;rcases t2 with t2|⟨t2,t3⟩
     ·simp[t2]at hm
     ·split
      ·exact wpAny_sound ops.size _ _ a _ (hany .text _ t2)
      ·exact wpAny_sound ops.size _ _ a _ (hany .gc _ t3)
   ·cases hc
  ·obtain⟨l,_,h2⟩:=mapS hc;cases h2
 all_goals (first|cases hc|(split at hc<;>cases hc)|(obtain⟨_,_,h2⟩:=mapS hc;cases h2))
end
def zch(kc:List PV)(v:PV):List PV->List PV->List PV × List PV
 | .agg c::ks,x::vs=>if eqI c kc=true then(.agg c::ks,v::vs)else(.agg c::(zch kc v ks vs).1,x::(zch kc v ks vs).2)
 | _,_=>([.agg kc],[v])
theorem zk7{M:Nat->Option Obj}{qs:List IntKind}{kc:List PV}{v:PV}{vals:List Value}(hok:zcl qs kc=true)(hr:PReps M kc vals):∀ {ks vs:List PV} {es:List MapEntry},ks.all (zek qs)=true->PReps M ks (es.map (·.key))->PReps M vs (es.map (·.val))->(es.map (·.key)).Nodup ->
  ((∀ e:MapEntry,e∈es->e.key ≠ .agg vals.toArray)->zch kc v ks vs=(ks++[.agg kc],vs++[v]))/\∀ (j:Nat) (e:MapEntry),es[j]?=some e->e.key=.agg vals.toArray->zch kc v ks vs=(ks,vs.set j v)
 | [],vs,es,_,h1,h2,_=>by
  cases es with
  | nil=>cases h2;exact⟨fun _=>rfl,fun j e h=>by simp at h⟩
  | cons e es=>cases h1
 | k::ks,vs,[],_,h1,_,_=>by cases h1
 | k::ks,vs,e::es,ha,h1,h2,hnd=>by
  simp only[yi1,yfr]at ha;simp only[yfq]at h1 h2 hnd;cases h1 with
  | cons _ _ _ _ hk hks =>
   cases h2 with
   | cons x _ vs _ hv hvs =>
    obtain⟨i1,i2⟩:=zk7 (v:=v) hok hr ha.2 hks hvs (ygn.1 hnd).2;cases k<;>simp only[zek,yfl,false_and]at ha;rename_i c;generalize hek:e.key=ek at hk hnd;cases hk with
    | agg _ us _ hus =>
     have heq:=zr1 ha.1 hok hus hr;have hval:(Value.agg us.toArray=.agg vals.toArray) ↔ us=vals:=by
      constructor
      ·intro h;have:=congrArg (fun v=>match v with|Value.agg cs=>cs.toList|_=>[]) h;simpa using this
      ·rintro rfl;rfl
     by_cases hu:us=vals
     ·refine⟨fun h=>absurd (hek.trans (hval.2 hu)) (h e (by simp)),fun j e' hj hke=>?_⟩;have hput:zch kc v (.agg c::ks) (x::vs)=(.agg c::ks,v::vs):=by simp[zch,heq.2 hu]
      cases j with
      | zero=>exact hput
      | succ j =>
       exfalso;simp at hj;have hm:e'∈es:=yhi hj;refine(ygn.1 hnd).1 (yf6.2 ⟨e',hm,?_⟩);rw[hke];exact(hval.2 hu).symm
     ·have hne:¬ eqI c kc=true:=fun h=>hu (heq.1 h);have hput:zch kc v (.agg c::ks) (x::vs)=(.agg c::(zch kc v ks vs).1,x::(zch kc v ks vs).2):=by simp[zch,hne]
      rw[hput];refine⟨fun h=>?_,fun j e' hj hke=>?_⟩
      ·rw[i1 fun x hx=>h x (by simp[hx])];rfl
      ·cases j with
       | zero=>simp at hj;subst hj;exact absurd (hval.1 (hek.symm.trans hke)) hu
       | succ j=>rw[i2 j e' (by simpa using hj) hke];rfl
theorem PReps.set{M:Nat->Option Obj}{vs:List PV}{xs:List Value}(i:Nat){r:PV}{x:Value}(h:PReps M vs xs)(hr:PRep M r x):PReps M (vs.set i r) (xs.set i x):=by
 induction i generalizing vs xs with
 | zero =>
  cases h with
  | nil=>exact .nil
  | cons v y vs xs h hs=>exact .cons _ _ _ _ hr hs
 | succ i ih =>
  cases h with
  | nil=>exact .nil
  | cons v y vs xs h hs=>exact .cons _ _ _ _ h (ih hs)
theorem PReps.snoc{M:Nat->Option Obj}:∀ {vs:List PV} {xs:List Value} {r:PV} {x:Value},PReps M vs xs->PRep M r x->PReps M (vs++[r]) (xs++[x])
 | _,_,_,_,.nil,h=>.cons _ _ _ _ h .nil
 | _,_,_,_,.cons _ _ _ _ h hs,k=>.cons _ _ _ _ h (PReps.snoc hs k)
theorem znt{P:Program}{w:World}{t kt et:TypeId}{qs:List IntKind}{M:Nat->Option Obj}{r:Nat}{ks vs kc:List PV}{v:PV}{vals:List Value}{x:Value}{es:Array MapEntry}{clock:Nat}
  (ht:P.underlying t=some (.map kt et)) (law:WideMaps.KeyLaw P kt) (hko:∀ {kc:List PV} {vals:List Value},zcl qs kc=true->PReps M kc vals->∃ l,keyOf P kt (.agg vals.toArray)=some l)
  (hb:w.heap[r]?=some (.map es clock)) (hm:zyb M ks vs es clock) (hks:ks.all (zek qs)=true) (hkc:zcl qs kc=true) (hv:PReps M kc vals) (hone:∀ c∈kc,c.one=true) (hx:PRep M v x) :
  ∃ es' clock',(Instr.mapUpdate t (.map (some r)) (.agg vals.toArray) x).run P w=.ok () (ChangeMaps.setBlock w r (.map es' clock'))/\zyb M (zch kc v ks vs).1 (zch kc v ks vs).2 es' clock':=by
 obtain⟨m1,m2,m3,m4,m5⟩:=hm;obtain⟨l,hl⟩:=hko hkc hv;have hall:=zit hko hks m1;obtain⟨f1,f2⟩:=zk7 (v:=v) hkc hv hks m1 m2 m3;have hchk:=law.check w false hl;have hget:(getObj r).run P w=.ok (.map es clock) w:=MapKept.run_getObj_map hb;have hset:∀ o',(setObj r o').run P w=.ok () (ChangeMaps.setBlock w r o'):=fun o'=>MapKept.run_setObj_map o' hb;have hstays:=law.stays w hl;rcases law.find w hl es.toList hall with⟨g1,g2⟩|⟨j,e0,g1,g2,g3⟩
 ·refine⟨es.push ⟨.agg vals.toArray,x,clock⟩,clock+1,by simp[Instr.mapUpdate,run_underlying ht,hget,hchk,g1,hset,Result.andThen],?_⟩;rw[f1 g2];obtain⟨s1,s2,s3⟩:=MapKept.stamped_push ⟨m4,m5,m3⟩ (key:=.agg vals.toArray) (val:=x) g2;exact⟨by simpa using m1.snoc (.agg kc vals hone hv),by simpa using m2.snoc hx,s3,s1,s2⟩
 ·have hj:es[j]?=some e0:=by simpa using g2
  refine⟨es.modify j fun y=>{ y with key:=.agg vals.toArray,val:=x },clock,by simp[Instr.mapUpdate,run_underlying ht,hget,hchk,g1,hj,g3,hstays,hset,Result.andThen],?_⟩;rw[f2 j e0 g2 g3];have hkey:∀ e',es[j]?=some e'->({ e' with key:=.agg vals.toArray,val:=x }:MapEntry).key=e'.key:=fun e' he'=>by rw[hj]at he';cases he';exact g3.symm
  obtain⟨s1,s2,s3⟩:=MapKept.stamped_modify ⟨m4,m5,m3⟩ j (fun y=>{ y with key:=.agg vals.toArray,val:=x }) (fun _ _=>rfl) (fun e' _ he'=>hkey e' he');refine⟨?_,?_,s3,s1,s2⟩
  ·rw[MapKept.modify_keys j _ hkey];exact m1
  ·have:(es.modify j fun y=>{ y with key:=.agg vals.toArray,val:=x }).toList.map (·.val)=(es.toList.map (·.val)).set j x:=by
    apply yj9;intro i;simp only[yim,Array.getElem?_toList,Array.getElem?_modify,yk0];by_cases hij:j=i
    ·subst hij;have:j<es.size:=(ygh.1 hj).1;simp[this]
    ·simp[hij]
   rw[this];exact m2.set j hx
section
variable {P:Program} {K:Ctx} {Z Z':Cz} {st st' st1 st2:St} {w w':World} {a:Act} {N:Nat} {ex:Exit} {A B:Option FA} {Post:Exit->St->Option FA->Prop} {PostI:St->Option FA->Prop}
def fzFA(r:Nat):FA:=⟨r,fun _ _=>True,fun _ _ _ _ h=>h,true,false,fun _ _ _ _=>True,fun _ _ _ _ _ _ _ _ h=>h⟩
theorem zn8{d:Option Nat}{t kt et e:TypeId}{n:Nat}{q:IntKind}{x y z r:Nat}{ks vs kc:List PV}{v:PV}(ht:P.underlying t=some (.map kt et))(hk:P.underlying kt=some (.array n e))(he:P.underlying e=some (.int q))(hn:P.cellsOf kt=n)(hc:P.cellsOf e=1)(h0:0<P.types.size)
  (hx:st.get x=.p (.mp r ks vs)) (hy:st.get y=.p (.agg kc)) (hz:st.get z=.p v) (hks:ks.all (zek (List.replicate n q))=true) (hkc:zcl (List.replicate n q) kc=true)
  (hn1:zd3 (zch kc v ks vs).1=true) (hn2:zd3 (zch kc v ks vs).2=true)
  (k:PostI ⟨[],[]⟩ (some (zhn r (zch kc v ks vs).1 (zch kc v ks vs).2))):MOp P N ⟨none,.raw (.mapUpdate t (.tmp x) (.tmp y) (.tmp z)),none⟩ st (some (fzFA r)) PostI:=by
 intro ops j o K Z w a Q Kt hN hj hcc hs hA hK;obtain⟨h1,h2,h3,h4⟩:=zdr hcc;have hop:o.op=.mapUpdate t (.tmp x) (.tmp y) (.tmp z):=znd h1;have hg:o.guard=none:=by
  cases hg:o.guard with
  | none=>rfl
  | some jb =>
   obtain⟨j,b⟩:=jb;rw[hg]at h2;simp only[zds]at h2;split at h2<;>cases h2
 have hw:Region.wanted o (yielded ops a.tmps)=true:=by simp[Region.wanted,hg]
 have hd:o.dst=none:=h3.symm;have q1:=hs.slots x;have q2:=hs.slots y;have q3:=hs.slots z
 rw[hx]at q1;rw[hy]at q2;rw[hz]at q3;have e1:a.eval (.tmp x)=a.tmps.getD x Go.undef:=rfl;have e2:a.eval (.tmp y)=a.tmps.getD y Go.undef:=rfl;have e3:a.eval (.tmp z)=a.tmps.getD z Go.undef:=rfl;generalize a.tmps.getD x Go.undef=X at q1 e1;generalize a.tmps.getD y Go.undef=Y at q2 e2;generalize a.tmps.getD z Go.undef=V at q3 e3;have q3':=q3.inv_p;cases q1.inv_p with
 | mp _ _ _ es clock m0 m1 m2 m3 m4 m5 =>
  cases q2.inv_p with
  | agg _ vals hone hv =>
   have hb:=hs.heap.mem _ _ m0;obtain⟨es',clock',hrun,hm'⟩:=znt ht (ztt hk he hn hc) (fun h1 h2=>zm3 hk he hn hc h0 h1 h2) hb ⟨m1,m2,m3,m4,m5⟩ hks hkc hv hone q3';have hrlt:r<w.heap.size:=(ygh.1 hb).1;obtain⟨hA1,hA2⟩:K.M0 r=none/\(K.X0 r\/K.w0.heap.size<=r):=hA
   let M1:Nat->Option Obj:=fun b=>if b=r then none else Z.M b
   have hM1:∀ b o,M1 b=some o->b≠r/\Z.M b=some o:=fun b o h=>by
    simp only[M1]at h;split at h
    ·cases h
    ·exact⟨by assumption,h⟩
   have hcells:∀ b cur T fr,Z.M b=some (.cells cur T fr)->M1 b=some (.cells cur T fr):=fun b cur T fr h=>by
    simp only[M1];rw[yf0];· exact h
    ·rintro rfl;rw[m0]at h;cases h
   obtain⟨p1,p2,p3,p4,p5⟩:=hm';have hno:∀ s g,(⟨[],[]⟩:St).obj s g=none:=fun _ _=>rfl;refine(show o.wp P a w Kt Q from ?_) |> fun h=>by unfold wpOp;simp only[hj,hw,yf2];exact .inl h
   unfold Oper.wp;have hex:(execOp a.eval o).run P w=.ok .skip (ChangeMaps.setBlock w r (.map es' clock')):=by simp[execOp,hop,e1,e2,e3,hrun,Result.andThen]
   rw[hex];refine hK ⟨[],[]⟩ (some (zhn r (zch kc v ks vs).1 (zch kc v ks vs).2)) ⟨M1,Z.B,Z.cap⟩ _ _ k ?_ ?_
   ·rw[hd];have kp:=ztu w r (.map es' clock');refine⟨fun t=>.undef _,hs.defers,hs.size,⟨fun s g o ho=>(by rw[hno]at ho;cases ho),fun s g _ _ o _ b ho=>(by rw[hno]at ho;cases ho),fun b o hb=>?_,fun s g o b ho=>(by rw[hno]at ho;cases ho),fun s g o b ho=>(by rw[hno]at ho;cases ho),fun b o hb0=>?_,fun b o hb=>hs.heap.prov b o (hM1 b o hb).2,?_⟩⟩
    ·obtain⟨h1,h2⟩:=hM1 b o hb;have h3:=hs.heap.mem b o h2;rw[kp.blk b (ygh.1 h3).1 h1];exact h3
    ·have:=hs.heap.m0 b o hb0;show(if b=r then none else Z.M b)=some o;rw[yf0];· exact this
     ·rintro rfl;rw[hA1]at hb0;cases hb0
    ·have k0:=hs.heap.keep;refine⟨kp.os.trans k0.os,kp.tape.trans k0.tape,kp.output.trans k0.output,yf7 k0.drawn kp.drawn,yf7 k0.size kp.size,fun b hb hxx=>?_⟩;rw[kp.blk b (yfo hb k0.size) fun hX'=>by
      subst hX';rcases hA2 with h|h
      ·exact hxx h
      ·omega]
     exact k0.blk b hb hxx
   ·refine⟨⟨by simp[M1,zhn],fun s g o ho=>(by rw[hno]at ho;cases ho),?_⟩,hA2,es',clock',?_,?_⟩
    ·show r<(w.heap.setIfInBounds r _).size;simpa using hrlt
    ·show(w.heap.setIfInBounds r _)[r]?=_;rw[ykh];simp[hrlt]
    ·exact⟨p1.nomp hcells hn1,p2.nomp hcells hn2,p3,p4,p5⟩
def SpU(P:Program)(f:FuncId)(ks vs args:List PV)(ks' vs':List PV):Prop :=
 (∃ fn,P.funcs[f]?=some fn/\fn.body.isSome=true/\fn.name ≠ "runtime.NumGoroutine") /\
 ∀ (w:World) (M:Nat->Option Obj) (r:Nat) (vals:List Value),(∀ b o,M b=some o->w.heap[b]?=some o)->PReps M (.mp r ks vs::args) vals ->
  Calls P f vals.toArray w fun e w'=>∃ M',e=.returned (.tuple #[])/\(∀ b o,b≠r->M b=some o->M' b=some o)/\(∀ b o,M' b=some o->w'.heap[b]?=some o) /\
   (∀ b o,M' b=some o->b=r\/M b=some o\/w.heap.size<=b)/\Keep w w' (fun b=>b=r)/\PRep M' (.mp r ks' vs') (.map (some r))
theorem SpU.of_mr{f:FuncId}{ks vs args ks' vs':List PV}{n np:Nat}{b:GC}(hc:zac P f=some ⟨n,np,b.er,[]⟩)(hn:args.length+1<=n)
  (h:∀ r,MR P n b.er (zel (.mp r ks vs::args)) (some (fzFA r)) fun ex s B=>(ex=.normal\/ex=.ret)/\(B=some (zhn r ks' vs')\/(B=some (fzFA r)/\s.get 0=.p (.mp r ks' vs')))):SpU P f ks vs args ks' vs':=by
 unfold zac at hc;split at hc
 ·rename_i fn hf;split at hc
  ·rename_i hname;split at hc
   ·rename_i c hb;split at hc
    ·rename_i bd rs h1 h2;simp only[yf3,FnC.mk.injEq]at hc;obtain⟨rfl,_,rfl,rfl⟩:=hc;refine⟨⟨fn,hf,by rw[hb];rfl,hname⟩,fun w M r vals hM hv=>?_⟩;refine calls_of_wp hf hb ?_;obtain⟨es,clock,m0⟩:∃ es clock,M r=some (.map es clock):=by
      cases hv with
      | cons _ _ _ _ h _=>cases h with
       | mp _ _ _ es clock m0=>exact⟨es,clock,m0⟩
     have hrlt:r<w.heap.size:=(Array.getElem?_eq_some_iff.1 (hM _ _ m0)).1;have hi:=zok hM hv (N:=fn.ntmps) (by simpa using hn);have hi':StRep ⟨w,fun b=>if b=r then none else M b,fun b=>b=r,fn.ntmps⟩ ⟨M,fun _ _=>none,fun _ _=>0⟩ (zel (.mp r ks vs::args)) w { tmps:=vals.toArray++Array.replicate (fn.ntmps - vals.toArray.size) Go.undef,defers:=[] }:=by
      refine⟨hi.slots,hi.defers,hi.size,⟨hi.heap.objs,hi.heap.inj,hi.heap.mem,hi.heap.sep,fun s g o b ho hb=>(by cases hb),fun b o hb=>?_,fun b o hb=>?_,⟨rfl,rfl,rfl,yf8 _,yf8 _,fun _ _ _=>rfl⟩⟩⟩
      ·simp only at hb;split at hb
       ·cases hb
       ·exact hb
      ·by_cases hbr:b=r
       ·exact .inr (.inl hbr)
       ·exact .inl (by simp only;rw[yf0 hbr];exact hb)
     refine h r _ h1 _ _ w _ _ rfl hi' ⟨by simp[fzFA],.inl rfl⟩ fun ex st' A' Z' w' a' hp hs' hA'=>?_
     have hfin:a'.defers=[]/\∃ v,(results fn a'.tmps).run P w'=.ok v w'/\∃ M',Ending.returned v=.returned (.tuple #[])/\(∀ b o,b≠r->M b=some o->M' b=some o)/\(∀ b o,M' b=some o->w'.heap[b]?=some o) /\
       (∀ b o,M' b=some o->b=r\/M b=some o\/w.heap.size<=b)/\Keep w w' (fun b=>b=r)/\PRep M' (.mp r ks' vs') (.map (some r)):=by
      have hrs:fn.results.toList=[]:=by
       cases hl:fn.results.toList with
       | nil=>rfl
       | cons x xs =>
        rw[hl]at h2;cases x with
        | tmp t=>simp only[zew]at h2;obtain⟨_,_,h⟩:=mapS h2;cases h
        | cell _ _ =>
         simp only[zew]at h2;split at h2<;>try cases h2
         obtain⟨_,_,h⟩:=mapS h2;cases h
      have hres:(results fn a'.tmps).run P w'=.ok (.tuple #[]) w':=by unfold results;rw[yin,hrs];simp
      refine⟨hs'.defers,_,hres,?_⟩;have hm0:∀ b o,b≠r->M b=some o->Z'.M b=some o:=fun b o hb ho=>hs'.heap.m0 b o (by simp only;rw[yf0 hb];exact ho);have hprov:∀ b o,Z'.M b=some o->b=r\/M b=some o\/w.heap.size<=b:=fun b o ho=>by
       rcases hs'.heap.prov b o ho with h|h|h
       ·simp only at h;split at h
        ·cases h
        ·exact .inr (.inl h)
       ·exact .inl h
       ·exact .inr (.inr h)
      rcases hp.2 with rfl|⟨rfl,hg⟩
      ·obtain⟨hF,_,es',clock',q0,q1,q2,q3,q4,q5⟩:=hA';have hsub:∀ b o,Z'.M b=some o->(if b=r then w'.heap[r]? else Z'.M b)=some o:=fun b o ho=>by
        rw[yf0];· exact ho
        ·rintro rfl;have:=hF.m;simp only[zhn]at this;rw[this]at ho;cases ho
       refine⟨fun b=>if b=r then w'.heap[r]? else Z'.M b,rfl,fun b o hb ho=>by simp only;rw[yf0 hb];exact hm0 b o hb ho,fun b o ho=>?_,fun b o ho=>?_,hs'.heap.keep,?_⟩
       ·simp only at ho;split at ho
        ·rename_i hb;subst hb;exact ho
        ·exact hs'.heap.mem b o ho
       ·simp only at ho;split at ho
        ·rename_i hb;exact .inl hb
        ·exact hprov b o ho
       ·exact .mp r ks' vs' es' clock' (by simp only[yf2];exact q0) (q1.mono hsub) (q2.mono hsub) q3 q4 q5
      ·refine⟨Z'.M,rfl,hm0,hs'.heap.mem,hprov,hs'.heap.keep,?_⟩;have h0:=hs'.slots 0;rw[hg]at h0;have h1:=h0.inv_p;generalize a'.tmps.getD 0 Go.undef=X at h1;cases h1 with
       | mp _ _ _ es clock m0 m1 m2 m3 m4 m5=>exact .mp _ _ _ es clock m0 m1 m2 m3 m4 m5
     rcases hp.1 with rfl|rfl
     ·exact hfin
     ·exact hfin
    ·cases hc
   ·cases hc
  ·cases hc
 ·cases hc
end
end Go.Ab
