/- Lemmas for the law ComposeBuildsMadeModels, part 33. No conditions. -/
import Derived.Test.YthhdboljpgdcpaaGreatDoorAP32
set_option maxRecDepth 100000
set_option maxHeartbeats 4000000
set_option linter.all false
namespace Go.Ab
section
variable {α : Type} {key : α -> List Int}
def oL(key : α -> List Int)(k:List Int)(l:List α):List α := l.filter λx=>decide (key x=k)
def vW(k:List Int)(a b:List α):oL key k (a++b)=oL key k a++oL key k b:=v7 ..
def xf(k:List Int)(x : α)(l:List α):oL key k (x::l)=if key x=k then x::oL key k l else oL key k l:=by unfold oL;rw[DN];simp
def CR{k:List Int}{l:List α}(h:∀ x∈l,key x≠k):oL key k l=[]:=by unfold oL;rw[List.filter_eq_nil_iff];intro x a;simpa using h x a
theorem Sz(k:List Int)(x : α):∀ {s:List α},jP key s->oL key k (eo key s x)=oL key k (s++[x])
 | [],_=>rfl
 | z::r,i=>by
  have d:=mM.1 i;simp only[eo];split
  .rename_i a;have b:∀ y∈z::r,key x≠key y:=λy f e=>by
    obtain rfl|f:=bY.1 f
    .rw[e]at a;exact absurd a (pN _)
    .have:=d.1 y f;rw[<- e]at this;exact this a
   rw[show x::z::r=[x]++(z::r) from rfl,vW,vW];by_cases h:key x=k
   .rw[CR (l:=z::r) λy f e=>b y f (h.trans e.symm)];simp
   .rw[CR (l:=[x]) (by simpa using h)];simp
  .have j:=Sz k x (s:=r) d.2;rw[xf,j,xq,xf]
def CZ(k:List Int)(l:List α):oL key k (b6 key l)=oL key k l:=by
 have:∀ (n:Nat) (l:List α),l.length=n->oL key k (b6 key l)=oL key k l:=λn=>by
  induction n with
  | zero=>intro l a;rw[qV a];rfl
  | succ n d =>
   intro l a;obtain⟨b,y,rfl⟩:∃ b y,l=b++[y]:=⟨l.dropLast,l.getLast (by intro h;simp[h]at a),(List.dropLast_concat_getLast _).symm⟩;rw[Ku,Sz k y (iQ b).1,vW,vW,d b (by simpa using a)]
 exact this _ l rfl
theorem R5:∀ {s t:List α},jP key s->jP key t->(∀ k,oL key k s=oL key k t)->s=t
 | [],[],_,_,_=>rfl
 | [],y::t,_,_,h=>by have:=h (key y);rw[xf,aW rfl]at this;cases this
 | x::s,[],_,_,h=>by have:=h (key x);rw[xf,aW rfl]at this;cases this
 | x::s,y::t,m,n,h=>by
  have b:=mM.1 m;have d:=mM.1 n;have f:key x=key y:=by
   obtain a|a|a:=AN (key x) (key y)
   .exfalso;have:=h (key x);rw[xf,aW rfl,CR (l:=y::t) λz hz e=>by
     obtain rfl|hz:=bY.1 hz
     .rw[e]at a;exact pN _ a
     .have:=d.1 z hz;rw[e]at this;exact this a]at this
    cases this
   .exact a
   .exfalso;have:=h (key y);rw[xf (l:=t),aW rfl,CR (l:=x::s) λz hz e=>by
     obtain rfl|hz:=bY.1 hz
     .rw[e]at a;exact pN _ a
     .have:=b.1 z hz;rw[e]at this;exact this a]at this
    cases this
  have i:=h (key x);rw[xf,aW rfl,xf,aW f.symm]at i;injection i with j o
  subst j
  congr 1
  refine R5 b.2 d.2 λk=>?_;have:=h k;rw[xf,xf]at this;split at this
  .injection this
  .exact this
def Hx{l s:List α}(hs:jP key s)(h:∀ k,oL key k s=oL key k l):s=b6 key l :=
 R5 hs (iQ l).1 λk=>by rw[h k,CZ]
def AB{l:List α}(h:jP key l):b6 key l=l:=(Hx h λ_=>rfl).symm
def R4(a b:List α):b6 key (b6 key a++b6 key b)=b6 key (a++b):=by refine Hx (iQ _).1 λk=>?_;rw[CZ,vW,vW,CZ,CZ]
def W6{l j i m:List α}(r:∀ y∈i,∀ x∈j,key y<key x)(s:∀ x∈l,∀ y∈m,¬ key y<key x)(n:∀ x∈l,∀ y∈j,¬ key y<key x)(o:∀ x∈i,∀ y∈m,¬ key y<key x) :
  b6 key (l++j++(i++m))=b6 key (l++i)++b6 key (j++m):=by
 refine(Hx ?_ λk=>?_).symm
 .refine vy.2 ⟨(iQ _).1,(iQ _).1,λa d b f=>?_⟩;rw[(iQ _).2.2,dT]at d f;obtain d|d:=d<;>obtain f|f:=f
  .exact n a d b f
  .exact s a d b f
  .intro t;exact pN _ (Ba t (r a d b f))
  .exact o a d b f
 .rw[vW,CZ,CZ,vW,vW,vW,vW,vW];have:oL key k i=[]\/oL key k j=[]:=by
   by_cases h:oL key k i=[]
   .exact .inl h
   .right;obtain⟨y,o⟩:=Mm _ h;obtain⟨u,p⟩:=k8.1 o;have p:=of_decide_eq_true p;refine CR λx n e=>?_;have:=r y u x n;rw[p,e]at this;exact pN _ this
  obtain h|h:=this<;>rw[h]<;>simp
def bU(key : α -> List Int)(s:Nat):Nat->List α -> List α
 | 0,l=>l
 | n+1,l=>if l.length<=s then b6 key l else b6 key (l.take s)++bU key s n (l.drop s)
end
end Go.Ab
namespace Go.Ab
open Enc (enc)
attribute [local simp] fX bL.aR
structure SI where
 z:Nat
 hz:0<z
 sw:FuncId
 ro:FuncId
 sm:FuncId
 ins:FuncId
 st:FuncId
 so:FuncId
def Kn(I:SI):GC:=dc ⟨[],[],[⟨none,.store I.z (.t 37) (.t 35),none⟩,zo 37 (.cE I.z (.t 20) (.t 23)),⟨none,.store I.z (.t 36) (.t 29),none⟩,zo 36 (.cE I.z (.t 16) (.t 19)),zo 35 (.load I.z true (.t 34)),zo 34 (.cE I.z (.t 30) (.t 33)),zo 29 (.load I.z true (.t 28)),zo 28 (.cE I.z (.t 24) (.t 27))],[]⟩ 349 0xD0E740034F536034890340D53A2A40D9640D03A250340C0902885023332140C0233340D0303E2C03BB68B01203BB68B169034136580C023330480EEDA2C05169034136580C023330480EEDA2C010070568905169034136580C023330480EEDA2C0580401C15A24145A40D04D9603008CCC1203BB604184477954992655B954992655B950009001C8406C18E201C6111DE5400F842107890BE8228936923D580901D5F017050810948F4142508D1731147C46E0
def IF(I:SI):GC:=dc ⟨[],[],[],[Kn I]⟩ 20 0x398004B815B
def GZ(I:SI):GC:=dc ⟨[I.sw],[],[],[]⟩ 199 0xD0E7400B4F5EC05014F71047400B4F40F2241705E2755B95FDC0B24404424C7AA41F45CD685D3D47C222442221022B822755B95FDC0B4F526E551D74004424CB322820B91739091E551F0C4910C4840C618
def IC(I:SI):GC:=dc ⟨[I.sw],[],[],[GZ I]⟩ 107 0xD04558CC4F51F96EE0410CC244024F51FF8A18A352D45CF2A209155B95474F4244ED244F4424C7AA43920439
def K0(I:SI):GC:=dc ⟨[],[],[⟨none,.store I.z (.t 52) (.t 50),none⟩,zo 52 (.cE I.z (.t 39) (.t 41)),⟨none,.store I.z (.t 51) (.t 46),none⟩,zo 51 (.cE I.z (.t 37) (.t 38)),zo 50 (.load I.z true (.t 49)),zo 49 (.cE I.z (.t 47) (.t 48)),zo 46 (.load I.z true (.t 45)),zo 45 (.cE I.z (.t 42) (.t 44)),zq 31 (.load I.z true (.t 30)) 21 true,zq 30 (.cE I.z (.t 27) (.t 29)) 21 true,zq 26 (.load I.z true (.t 25)) 21 true,zq 25 (.cE I.z (.t 23) (.t 24)) 21 true],[]⟩ 605 0xC88A654479BEAA25E64FDE6FA80A79B4C79BD6799700353FF59E6039700353FF59E603C0E5C00D4FFD66CDC2E500F5F4037B89166C15709EE2400B7BBB505C90029EE210192459B055C27B9777B890025EEA701B240087BBB1298CA945EE8BDEE4E8CD204222242208A6FA5D0300D3162534626324C40A6423B9DA3BBAE3BF6E3B043DB8C5840258402577610095DC9001FAF0AB880B584027E10C02F242FA0C6240982523D580CC2E5F02909C810D08F414340C91736AFF0909109084091B9
def KL(I:SI):GC:=dc ⟨[],[],[],[K0 I]⟩ 93 0xD0E6B0024F536BB1B40229E939B99CD1731DC3FA16F
def HT(I:SI):GC:=dc ⟨[],[],[],[KL I]⟩ 33 0xD040054702F105BD5B
def Kk(I:SI):GC:=dc ⟨[I.ins],[],[],[]⟩ 104 0x343808E500E2240D037DC89CC8245AC00909AA412413ABCF97445CCC244064F506C396F
def Kl(I:SI):GC:=dc ⟨[I.sm],[],[],[]⟩ 112 0x343808E500E2242308F352280589E5237C910193D499AC0090931CC6A082B413AB0B0910B3AF5D1173949101BA3008024BD060C0910C0840C16F
def Km(I:SI):GC:=dc ⟨[I.sm],[],[],[Kl I]⟩ 167 0xD0E0197AC0F388408A00D0401BA300A450809949B665BD1C0112D43807211AC0193D4183324433210336E5040257AC0C890D83645D263C4913C21300A2BAA43CC74F770C07D5E450F8910F8840F957
def IE(I:SI):GC:=dc ⟨[I.ins],[],[],[Km I,Kk I]⟩ 78 0x3A601455D049100A265269716FA36A6411056B0D184C02426A906C8106E73
def ID(I:SI):GC:=dc ⟨[I.st],[],[],[]⟩ 25 0xD17498C54309131B9F4B8840216F
def J2(I:SI):GC:=dc ⟨[],[],[zo 48 (.load I.z true (.t 47)),zo 47 (.cE I.z (.t 45) (.t 46)),zo 44 (.load I.z true (.t 43)),zo 43 (.cE I.z (.t 41) (.t 42))],[]⟩ 233 0xD0E7400BC0C8908421F71047400B4F400877C4D117201C8109C9109C8409C810315DF513C4C405627A8001704F3A8024005C13C4FC9101184032240A8297942B610015F02E0B5370BCA6327A28BC890C83245CE7729470D0910D0840D2E045CE9211AD0D4910D4840D618
def J3(I:SI):GC:=dc ⟨[],[],[⟨none,.store I.z (.t 76) (.t 74),none⟩,zo 76 (.cE I.z (.t 63) (.t 65)),⟨none,.store I.z (.t 75) (.t 70),none⟩,zo 75 (.cE I.z (.t 61) (.t 62)),zo 74 (.load I.z true (.t 73)),zo 73 (.cE I.z (.t 71) (.t 72)),zo 70 (.load I.z true (.t 69)),zo 69 (.cE I.z (.t 66) (.t 68))],[]⟩ 316 0x3439BE029776703A2243A0EA6FA5D0300D3162534626324C40A6423B9DA3BBAE3BF6E3B043DB8C5840358403527499260368C240072104110F8810584037E110442242FA106240F83D23D58100455F04B0FD450300123D052000C9180A005173B9470F0910F0840F29F
def J4(I:SI):GC:=dc ⟨[],[],[zo 100 (.load I.z true (.t 99)),zo 99 (.cE I.z (.t 97) (.t 98)),zo 96 (.load I.z true (.t 95)),zo 95 (.cE I.z (.t 93) (.t 94))],[]⟩ 297 0xD0E8000FC0DD9CD48A015048000F4F400877C4D1172E441B5A81B5501B47C10577D44F13101589EA0005C13CEA009001704F3A802809001704F13F244046100289041109E5105840417C10442CB8A6327A28BD51D49B203B000A56A0A5540A51F039176C80F5142A5A82A5502A47C0F
def Ki(I:SI):GC:=dc ⟨[],[],[⟨none,.store I.z (.t 128) (.t 126),none⟩,zo 128 (.cE I.z (.t 115) (.t 117)),⟨none,.store I.z (.t 127) (.t 122),none⟩,zo 127 (.cE I.z (.t 113) (.t 114)),zo 126 (.load I.z true (.t 125)),zo 125 (.cE I.z (.t 123) (.t 124)),zo 122 (.load I.z true (.t 121)),zo 121 (.cE I.z (.t 118) (.t 120))],[]⟩ 325 0xD0E044910393D03D450BBD34800647007A5D0300D3162534626324C40A6423B9DA3BBAE3BF6E3B043DB8C5840458404577610115DC9001C8410443E204161011F844110890BE8418904D1388F560401157C12C4D5150D23D052010D2003E0051788577514305A8305503047C11
def Kj(I:SI):GC:=dc ⟨[],[],[zo 168 (.load I.z true (.t 167)),zo 167 (.cE I.z (.t 165) (.t 166)),zo 164 (.load I.z true (.t 163)),zo 163 (.cE I.z (.t 159) (.t 162))],[]⟩ 315 0xD0E05286C0DD9480082280941014A193D0021DF13445CB910760C0760B0764505DA840D8B007F2880044ED31868850261A2166C02A200113B0261A2140B9B00A880044EC09868850300B9B00A880044EC0901DAC01184AE4174F40189041111E51058405D7C10442CB8A632FA28BD51D4A22053000B60C0B60B0B64505117888155142E8302E82C2E91415
def TG(I:SI):GC:=dc ⟨[I.sm],[],[],[]⟩ 198 0x3220AF4111455814C0D7D05082104910488210B03D9209D49264511DAAC917AC048AEA91032004A0447418C0D7D0608210491AF842C0F6482752415268B5EB063B5245C094EFA0122BAA4405141B00C8D
def TH(I:SI):GC:=dc ⟨[I.ro],[],[],[TG I]⟩ 134 0x341013A1655244144F6BF0C60C0C60B0C645060882BD04BE402C0D7D7E0412441820842C0F648275249AF956156060910122BAA4405143F0088D2B800
def TI(I:SI):GC:=dc ⟨[],[],[],[TH I,Kj I]⟩ 42 0x3410135DD450520C0520B052450591C022A62B800
def TJ(I:SI):GC:=dc ⟨[],[],[],[TI I]⟩ 237 0xD04474034F400877C4D1172E44068300682C0691412411EB0093D418800260C0260B02402980146001520415220AF411560493D03DD941013244034F6BF03E0C03E0B03E4505117049450420C0420B0424505504AFC118301182C119141445C02514128301282C12914152B800
def My(I:SI):GC:=dc ⟨[],[],[],[Ki I,J4 I]⟩ 103 0xD0445116514115A8115501147C0E41002514125A8125501247C0F47004A990E5600F010025142B5A82B5502B47C11228064B48C
def Mz(I:SI):GC:=dc ⟨[],[],[],[J3 I,J2 I]⟩ 72 0x3410DB2041D24741B810436C81E9BC88628DA990E3D688010810D8910D8840DA9F9CC8C
def Ef(I:SI):GC:=dc ⟨[],[],[],[TJ I,My I,Mz I]⟩ 74 0x3439560053D005276B41C2241C070AE0088D43A530093D0052702D45042BB2001091810004AE0048D2B800
structure qQ (I:SI):Prop where
 sw:aV P I.sw=some ⟨38,5,(IF I).er,[]⟩
 ro:aV P I.ro=some ⟨58,5,(IC I).er,[]⟩
 sm:aV P I.sm=some ⟨220,5,(Ef I).er,[]⟩
 ins:aV P I.ins=some ⟨53,4,(HT I).er,[]⟩
 st:aV P I.st=some ⟨63,3,(IE I).er,[]⟩
 so:aV P I.so=some ⟨9,2,(ID I).er,[]⟩
section
variable {α : Type} [Enc α]
def JF{I:SI}(hI:qQ I)(Y:Enc.sz α = I.z)(af:∀ x : α,(enc x).cells.all PV.one=true)(cf:FuncId)(A U M V B l:List α)(W:l=A++(U++(M++(V++B))))(aq:l.length<=1000000)(ag:V.length=U.length)(a b n:Nat)(ha:a=A.length)(hb:b=A.length+U.length+M.length)(hn:n=U.length) :
  jD P I.sw [.sl (aH l),.int .i64 a,.int .i64 b,.int .i64 n,.fn cf []] 0 I.z (aH (A++(V++(M++(U++B))))) (.pure (.bP [])):=by
 have H:∀ x : α,(enc x).sz=I.z:=λx=>by rw[Enc.ok,Y]
 have F:(A++(V++(M++(U++B)))).length=l.length:=by rw[W];simp;omega
 have Z:l.length=A.length+U.length+M.length+U.length+B.length:=by rw[W];simp;omega
 refine jD.cS hI.sw (by simp) rfl (by simp[F]) ?_;simp[IF]
 refine cQ (S:=λx:List α × Nat=>aD [(0,.own bG 0 0 l.length),(1,.p (.int .i64 a)),(2,.p (.int .i64 b)),(3,.p (.int .i64 n)),(10,.p (.int .i64 x.2))] [(bG,⟨I.z,aT x.1⟩)])
  (I:=λx=>∃ h d f i,U=h++d/\V=f++i/\h.length=x.2/\f.length=x.2/\x.1=A++(f++(d++(M++(h++(i++B)))))) (m:=λx=>n - x.2) (l,0)
  (aA.to [0,1,2,3,10] [((bG,0),bG)] (by simp[aD])) ⟨[],U,[],V,rfl,rfl,rfl,rfl,W⟩ ?_
 rintro⟨L,k⟩ ⟨h,d,f,i,K,N,E,t,y⟩ R X hr hx;simp only at E t y;have j:U.length=h.length+d.length:=by rw[K];simp
 have Q:V.length=f.length+i.length:=by rw[N];simp
 have O:L.length=l.length:=by rw[y];simp;omega
 have e1:=bH k;have e2:IntKind.i64.wrap ((b:Int)+k)=((b+k:Nat):Int):=b5;have e3:IntKind.i64.wrap ((a:Int)+k)=((a+k:Nat):Int):=b5;by_cases G:k<n
 .obtain _|⟨u,d⟩:=d
  .simp at j;omega
  obtain _|⟨v,i⟩:=i
  .simp at Q;omega
  have o:L[a+k]?=some u:=by rw[y,ha,<- t];simp[<- List.append_assoc]
  have r:L[b+k]?=some v:=by
   have e:b+k=(A++(f++(u::d++(M++h)))).length:=by simp at j ⊢;omega
   rw[y,e,show A++(f++(u::d++(M++(h++(v::i++B)))))=(A++(f++(u::d++(M++h))))++(v::(i++B)) by simp];simp
  have J:(L.set (a+k) v).set (b+k) u=A++((f++[v])++(d++(M++((h++[u])++(i++B))))):=by
   have e:b+k=(A++(f++(v::d++(M++h)))).length:=by simp at j ⊢;omega
   have e':a+k=(A++f).length:=by simp;omega
   rw[y,e',show A++(f++(u::d++(M++(h++(v::i++B)))))=(A++f)++(u::(d++(M++(h++(v::i++B))))) by simp,B7 _ _ (dK _),B9,FL,
    e,show A++f++v::(d++(M++(h++(v::i++B))))=(A++(f++(v::d++(M++h))))++(v::(i++B)) by simp,B7 _ _ (dK _),B9,FL]
   simp
  have al:a+k<L.length:=(iR.1 o).1;have ao:b+k<L.length:=(iR.1 r).1
  have C:∀ s,aA s (aD [(0,.own bG 0 0 l.length),(1,.p (.int .i64 a)),(2,.p (.int .i64 b)),(3,.p (.int .i64 n)),(10,.p (.int .i64 (k+1:Nat)))] [(bG,⟨I.z,aT ((L.set (a+k) v).set (b+k) u)⟩)])->R .normal s:=λs hs=>
   X ((L.set (a+k) v).set (b+k) u,k+1) _ hs ⟨h++[u],d,f++[v],i,by rw[K];simp,by rw[N];simp,by simp[E],by simp[t],J⟩ (by simp only;omega)
  have ad:(k:Int)<(n:Int):=by omega
  simp[Kn,aD,G,e2,e3,O,show a+k<l.length by omega,show b+k<l.length by omega];have t1:((a:Int)+k).toNat=a+k:=by omega
  have t2:((b:Int)+k).toNat=b+k:=by omega
  have w:((aT L).set (a+k) (.p (enc v))).set (b+k) (.p (enc u))=aT ((L.set (a+k) v).set (b+k) u):=by simp[-jE,aT,aH,DQ]
  rw[t1,t2];refine⟨⟨by omega,by omega⟩,eO r ⟨⟨by omega,by omega⟩,eO o ⟨⟨by omega,by omega⟩,eO o ⟨⟨H v,I.hz⟩,⟨by omega,by omega⟩,?_⟩⟩⟩⟩;have D:((aT L).set (a+k) (.p (enc v)))[b+k]?=some (.p (enc v)):=by
   rw[vx];split
   .exact aW (by simp[-jE,aT,aH];omega)
   .simp[-jE,aT,aH,r]
  rw[lM];refine eO D ?_;rw[Gl];refine⟨⟨H u,I.hz⟩,?_⟩;rw[w];generalize (L.set (a+k) v).set (b+k) u=L2 at *
  simp[e1];exact C _ (aA.to [0,1,2,3,10] [((bG,0),bG)] (by simp[aD]))
 .have ap:k=n:=by omega
  have h2:d=[]:=qV (by omega);have h3:i=[]:=qV (by omega);subst h2 h3;simp only[kZ]at K N;subst K N;simp[Kn,aD,G];refine hx _ _ ?_;simp[y]
end
section
variable {α : Type} [Enc α]
def Y0{I:SI}(W:qQ I)(w:Enc.sz α = I.z)(f:∀ x : α,(enc x).cells.all PV.one=true)(cf:FuncId)(A U V B l:List α)(hl:l=A++(U++(V++B)))(av:l.length<=1000000)(ad:1<=U.length)(ag:1<=V.length)(a m b:Nat)(ha:a=A.length)(hm:m=A.length+U.length)(hb:b=A.length+U.length+V.length) :
  jD P I.ro [.sl (aH l),.int .i64 a,.int .i64 m,.int .i64 b,.fn cf []] 0 I.z (aH (A++(V++(U++B)))) (.pure (.bP [])):=by
 have H:(A++(V++(U++B))).length=l.length:=by rw[hl];simp;omega
 have ao:l.length=A.length+U.length+V.length+B.length:=by rw[hl];simp;omega
 have e1:IntKind.i64.wrap ((m:Int) - a)=(U.length:Int):=by rw[cG (by omega) (by omega)];omega
 have e2:IntKind.i64.wrap ((b:Int) - m)=(V.length:Int):=by rw[cG (by omega) (by omega)];omega
 refine jD.cS W.ro (by simp) rfl (by simp[H]) ?_;simp[IC];rw[e1,e2]
 refine cQ (S:=λx:List α × Nat × Nat=>aD [(0,.own bG 0 0 l.length),(2,.p (.int .i64 m)),(4,.p (.fn cf [])),(10,.p (.int .i64 x.2.1)),(11,.p (.int .i64 x.2.2))] [(bG,⟨I.z,aT x.1⟩)])
  (I:=λx=>∃ d o r k,x.1=d++(o++(r++k))/\o.length=x.2.1/\r.length=x.2.2/\d.length+x.2.1=m/\1<=x.2.1/\1<=x.2.2/\d++(r++(o++k))=A++(V++(U++B))) (m:=λx=>x.2.1+x.2.2) (l,U.length,V.length)
  (aA.to [0,2,4,10,11] [((bG,0),bG)] (by simp[aD])) ⟨A,U,V,B,hl,rfl,rfl,by simp only;omega,ad,ag,rfl⟩ ?_
 rintro⟨L,i,j⟩ ⟨d,o,r,k,N,X,hj,O,i1,j1,C⟩ R hn hr hx;simp only at N X hj O i1 j1;have n:L.length=l.length:=by have:=congrArg List.length C;rw[H]at this;rw[N,<- this];simp;omega
 have M:L.take l.length=L:=by rw[<- n];exact lO
 have ap:l.length=d.length+i+j+k.length:=by rw[<- n,N];simp;omega
 have Y:IntKind.i64.wrap ((m:Int) - i)=((d.length:Nat):Int):=by rw[cG (by omega) (by omega)];omega
 obtain h|h|h:=Mk i j
 .obtain⟨F,G,rfl,al⟩:∃ F G,r=F++G/\G.length=i:=⟨r.take (j - i),r.drop (j - i),(oJ _ _).symm,by rw[lp];omega⟩;have au:F.length+i=j:=by simp at hj;omega
  have e4:IntKind.i64.wrap ((m:Int)+j)=((m+j:Nat):Int):=b5;have e5:IntKind.i64.wrap (((m+j:Nat):Int) - i)=((m+j - i:Nat):Int):=by rw[cG (by omega) (by omega)];omega
  have Z:IntKind.i64.wrap ((j:Int) - i)=((j - i:Nat):Int):=by rw[cG (by omega) (by omega)];omega
  have u:=JF W w f cf d o F G k L (by rw[N];simp) (by omega) (by omega) d.length (m+j - i) i rfl (by omega) X.symm;have t:(d++(G++(F++(o++k)))).length=l.length:=by simp;omega
  have y:∀ s,aA s (aD [(0,.own bG 0 0 l.length),(2,.p (.int .i64 m)),(4,.p (.fn cf [])),(10,.p (.int .i64 i)),(11,.p (.int .i64 (j - i:Nat)))] [(bG,⟨I.z,aT (d++(G++(F++(o++k))))⟩)])->R .normal s:=λs hs=>
   hn (_,i,j - i) s hs ⟨d,G,F,o++k,rfl,al,by simp only;omega,O,i1,by simp only;omega,by rw[<- C];simp⟩ (by simp only;omega)
  generalize d++(G++(F++(o++k)))=L2 at *
  have J:¬ (i:Int)=(j:Int):=by omega
  have K:¬ (j:Int)<(i:Int):=by omega
  simp[GZ,aD,J,K,show ¬ i=j by omega,show ¬ j<i by omega,Y,e4];rw[<- Int.natCast_add,e5];refine sE u (by simp[n,M]) rfl rfl (by simp) (by simp[n]) (by simp[t]) rfl (nE _ _ w) (cells_one f _) (by simp) ?_;simp[Z];exact y _ (aA.to [0,2,4,10,11] [((bG,0),bG)] (by simp[aD]))
 .subst h;have u:=JF W w f cf d o [] r k L (by rw[N];simp) (by omega) (by omega) d.length m i rfl (by simp;omega) X.symm;have t:(d++(r++([]++(o++k)))).length=l.length:=by simp;omega
  have Q:d++(r++([]++(o++k)))=d++(r++(o++k)):=by simp
  rw[Q,C]at u t;simp[GZ,aD];refine hx _ _ ?_;simp;rw[Y];refine sE u (by simp[n,M]) rfl rfl (by simp) (by simp[n]) (by simp[t]) rfl (nE _ _ w) (cells_one f _) (by simp) ?_;simp[t]
 .obtain⟨D,E,rfl,af⟩:∃ D E,o=D++E/\D.length=j:=⟨o.take j,o.drop j,(oJ _ _).symm,by rw[iB];omega⟩;have aq:E.length+j=i:=by simp at X;omega
  have Z:IntKind.i64.wrap ((i:Int) - j)=((i - j:Nat):Int):=by rw[cG (by omega) (by omega)];omega
  have u:=JF W w f cf d D E r k L (by rw[N];simp) (by omega) (by omega) d.length m j rfl (by omega) af.symm;have t:(d++(r++(E++(D++k)))).length=l.length:=by simp;omega
  have y:∀ s,aA s (aD [(0,.own bG 0 0 l.length),(2,.p (.int .i64 m)),(4,.p (.fn cf [])),(10,.p (.int .i64 (i - j:Nat))),(11,.p (.int .i64 j))] [(bG,⟨I.z,aT (d++(r++(E++(D++k))))⟩)])->R .normal s:=λs hs=>
   hn (_,i - j,j) s hs ⟨d++r,E,D,k,by simp,by simp only;omega,by simp only;omega,by simp only[gL];omega,by simp only;omega,j1,by rw[<- C];simp⟩ (by simp only;omega)
  generalize d++(r++(E++(D++k)))=L2 at *
  have J:¬ (i:Int)=(j:Int):=by omega
  have K:(j:Int)<(i:Int):=by omega
  simp[GZ,aD,J,K,show ¬ i=j by omega,h,Y];refine sE u (by simp[n,M]) rfl rfl (by simp) (by simp[n]) (by simp[t]) rfl (nE _ _ w) (cells_one f _) (by simp) ?_;simp[Z];exact y _ (aA.to [0,2,4,10,11] [((bG,0),bG)] (by simp[aD]))
end
end Go.Ab
namespace Go.Ab
section
variable {α : Type} {key : α -> List Int}
def zz{l:List α}(h:jP key l){i j:Nat}{x y : α}(k:l[i]?=some x)(m:l[j]?=some y)(a:i<=j):¬ key y<key x:=by
 obtain⟨b,rfl⟩:=iR.1 k;obtain⟨d,rfl⟩:=iR.1 m;obtain f|rfl:=Nat.lt_or_eq_of_le a
 .exact L'.1 h i j b d f
 .exact pN _
def GU{l:List α}(h:jP key l)(n:Nat):jP key (l.take n):=Ip (H9 _ _) h
def GS{l:List α}(h:jP key l)(n:Nat):jP key (l.drop n):=Ip (List.drop_sublist _ _) h
def HE{l:List α}{n:Nat}{x : α}(h:x∈l.take n):∃ i,i<n/\l[i]?=some x:=by obtain⟨i,b,a⟩:=sQ.1 h;rw[iB]at b;rw[List.getElem_take]at a;exact⟨i,by omega,iR.2 ⟨by omega,a⟩⟩
def BV{l:List α}{n:Nat}{x : α}(h:x∈l.drop n):∃ i,n<=i/\l[i]?=some x:=by obtain⟨i,b,a⟩:=sQ.1 h;rw[lp]at b;rw[List.getElem_drop]at a;exact⟨n+i,by omega,iR.2 ⟨by omega,a⟩⟩
def Zx{a b c:List Int}(h:¬ b<a)(k:b<c):a<c:=OI h k
def Jl{a b c:List Int}(h:¬ b<a)(k:¬ c<b):¬ c<a:=λd=>k (E' d h)
def K6{X Y:List α}(n:jP key X)(o:jP key Y){u v:Nat}
  (w:u=0\/Y.length<=v\/∃ x y,X[u - 1]?=some x/\Y[v]?=some y/\¬ key y<key x) (z:X.length<=u\/v=0\/∃ x y,X[u]?=some x/\Y[v - 1]?=some y/\key y<key x) :
  b6 key (X++Y)=b6 key (X.take u++Y.take v)++b6 key (X.drop u++Y.drop v):=by
 have e:X++Y=X.take u++X.drop u++(Y.take v++Y.drop v):=by rw[oJ,oJ]
 rw[e];refine W6 (λy d x b=>?_) (λx b y d=>?_) (λx b y d=>?_) λx b y d=>?_
 .obtain⟨i,p,f⟩:=HE d;obtain⟨j,k,a⟩:=BV b;have A:=(iR.1 a).1;obtain h|h|⟨B,C,r,s,t⟩:=z
  .omega
  .omega
  .have l:=zz o f s (by omega);have m:=zz n r a k;exact E' (Zx l t) m
 .obtain⟨i,p,f⟩:=HE b;obtain⟨j,k,a⟩:=BV d;have A:=(iR.1 a).1;obtain h|h|⟨B,C,r,s,t⟩:=w
  .omega
  .omega
  .have l:=zz n f r (by omega);have m:=zz o s a k;exact Jl (Jl l t) m
 .obtain⟨i,p,f⟩:=HE b;obtain⟨j,k,a⟩:=BV d;exact zz n f a (by omega)
 .obtain⟨i,p,f⟩:=HE b;obtain⟨j,k,a⟩:=BV d;exact zz o f a (by omega)
def W9{x : α}{Y:List α}(a:jP key Y){v:Nat}(i:v=0\/∃ y,Y[v - 1]?=some y/\key y<key x)(k:Y.length<=v\/∃ y,Y[v]?=some y/\¬ key y<key x):b6 key (x::Y)=Y.take v++(x::Y.drop v):=by
 have:=K6 (X:=[x]) (key:=key) (by simp[jP]) a (u:=0) (v:=v) (.inl rfl) (.inr (by
  obtain h|⟨y,b,d⟩:=i
  .exact .inl h
  .exact .inr ⟨x,y,rfl,b,d⟩))
 simp only[Iu,uJ,yJ,xq]at this;rw[this,AB (GU a v),AB];refine mM.2 ⟨λy l=>?_,GS a v⟩;obtain⟨j,m,f⟩:=BV l;have n:=(iR.1 f).1;obtain h|⟨o,b,d⟩:=k
 .omega
 .exact Jl d (zz a b f m)
def Xa{y : α}{X:List α}(b:jP key X){u:Nat}(o:u=0\/∃ x,X[u - 1]?=some x/\¬ key y<key x)(n:X.length<=u\/∃ x,X[u]?=some x/\key y<key x):b6 key (X++[y])=X.take u++(y::X.drop u):=by
 have:=K6 (Y:=[y]) (key:=key) b (by simp[jP]) (u:=u) (v:=0) (by
  obtain h|⟨x,f,i⟩:=o
  .exact .inl h
  .exact .inr (.inr ⟨x,y,f,rfl,i⟩)) (.inr (.inl rfl))
 simp only[Iu,kZ,yJ]at this;rw[this,AB (GU b u)]
 congr 1
 refine(Hx ?_ λk=>?_).symm
 .refine mM.2 ⟨λx l=>?_,GS b u⟩;obtain⟨j,m,d⟩:=BV l;have p:=(iR.1 d).1;obtain h|⟨r,f,i⟩:=n
  .omega
  .have:=zz b f d m;intro a;exact this (Ba a i)
 .rw[xf,vW,xf];by_cases a:key y=k
  .rw[aW a,aW a];have:oL key k (X.drop u)=[]:=CR λx l e=>by
    obtain⟨j,m,d⟩:=BV l;have p:=(iR.1 d).1;obtain h|⟨r,f,i⟩:=n
    .omega
    .have:=zz b f d m;rw[e,<- a]at this;exact this i
   rw[this];rfl
  .rw[aY a,aY a];simp[oL]
end
end Go.Ab
namespace Go.Ab
open Enc (enc)
attribute [local simp] fX bL.aR
section
variable {α : Type} [Enc α]
def HU(p q:Int)(a:0<=p+q)(h:p+q<=2000000):IntKind.i64.wrap (IntKind.i64.wrap (p+q) % 18446744073709551616 / 2)=(p+q) / 2:=by rw[cG (n:=p+q) (by omega) (by omega),Int.emod_eq_of_lt a (by omega)];exact cG (by omega) (by omega)
def yca(P:List α)(u v : α)(R:List α):((P++(u::v::R)).set P.length v).set (P.length+1) u=P++(v::u::R):=by simp[List.set_append]
def Vy{I:SI}(hI:qQ I)(al:Enc.sz α = I.z)(au:∀ x : α,(enc x).cells.all PV.one=true){key : α -> List Int}{cf:FuncId}{D : α -> Prop}(hD:∀ x y,D x->D y->∃ n:Int,Sp P cf [enc x,enc y] (.pure (.int .i64 n))/\(n<0 ↔ key x<key y))
  {A Y B l:List α} {x : α} (M:l=A++(x::(Y++B))) (aw:l.length<=1000000) (hY:jP key Y) (dx:D x) (dY:∀ y∈Y,D y) {a m b:Nat} (ha:a=A.length) (hm:m=a+1) (hb:b=a+1+Y.length) {Q:Exit->St->Prop} {ks:List Kt}
  (U:∀ sl,Q .ret ⟨sl,[(bG,[some ⟨I.z,aT (A++(b6 key (x::Y)++B))⟩]),(aL,[none])]⟩) :
  vm P 220 Q (.code (Mz I)::ks) ⟨[(0,.own bG 0 0 l.length),(1,.p (.int .i64 a)),(2,.p (.int .i64 m)),(3,.p (.int .i64 b)),(4,.p (.fn cf []))],[(bG,[some ⟨I.z,aT l⟩])]⟩:=by
 have G:∀ x : α,(enc x).sz=I.z:=λx=>by rw[Enc.ok,al]
 have aq:l.length=A.length+1+Y.length+B.length:=by rw[M];simp;omega
 have gx:l[a]?=some x:=by rw[M,ha];simp
 have gY:∀ i,i<Y.length->∃ y,Y[i]?=some y/\l[m+i]?=some y/\D y:=λi K=>by refine⟨Y[i],dF K,?_,dY _ (bV K)⟩;rw[M,qC (by omega),show m+i - A.length=i+1 by omega,List.getElem?_cons_succ,wh K,dF K]
 simp[Mz]
 refine cQ (S:=λs:Nat × Nat=>aD [(0,.own bG 0 0 l.length),(1,.p (.int .i64 a)),(4,.p (.fn cf [])),(10,.p (.int .i64 (m+s.1:Nat))),(11,.p (.int .i64 (m+s.2:Nat)))] [(bG,⟨I.z,aT l⟩)])
  (I:=λs=>s.1<=s.2/\s.2<=Y.length/\(s.1=0\/∃ y,Y[s.1 - 1]?=some y/\key y<key x)/\(Y.length<=s.2\/∃ y,Y[s.2]?=some y/\¬ key y<key x)) (m:=λs=>s.2 - s.1) (0,Y.length)
  (aA.to [0,1,4,10,11] [((bG,0),bG)] (by simp[aD];omega)) ⟨rK _,dK _,.inl rfl,.inl (dK _)⟩ ?_
 rintro⟨i,j⟩ ⟨h1,h2,N,O⟩ R Z hr hx;simp only at h1 h2 N O;by_cases X:i<j
 .have o:((m+i:Nat):Int)<((m+j:Nat):Int):=by omega
  have hw:IntKind.i64.wrap (IntKind.i64.wrap ((m:Int)+i+(m+j)) % 18446744073709551616 / 2)=((m+(i+j) / 2:Nat):Int):=by rw[HU _ _ (by omega) (by omega)];omega
  have c1:i<=(i+j) / 2/\(i+j) / 2<j:=by omega
  generalize (i+j) / 2=c at *
  obtain⟨y,J,y2,y3⟩:=gY c (by omega);obtain⟨n,af,F⟩:=hD y x y3 dx;have e1:IntKind.i64.wrap ((m:Int)+c+1)=(m:Int)+(c+1):=by rw[cG (by omega) (by omega)];omega
  simp[J2,aD,X,o];rw[hw,kQ];refine⟨⟨by omega,by omega⟩,eO y2 ⟨by omega,eO gx ?_⟩⟩;refine bF af rfl ?_;by_cases d:n<0
  .simp[d];exact Z (c+1,j) _ (aA.to [0,1,4,10,11] [((bG,0),bG)] (by simp[aD,e1])) ⟨by simp only;omega,h2,.inr ⟨y,J,F.1 d⟩,O⟩ (by simp only;omega)
  .simp[d];exact Z (i,c) _ (aA.to [0,1,4,10,11] [((bG,0),bG)] (by simp[aD])) ⟨by simp only;omega,by simp only;omega,N,.inr ⟨y,J,λh=>d (F.2 h)⟩⟩ (by simp only;omega)
 .have W:i=j:=by omega
  subst W;have o:¬ ((m+i:Nat):Int)<((m+i:Nat):Int):=by omega
  have ag:=W9 hY (x:=x) (v:=i) N O;rw[ag]at U;simp[J2,aD];refine hx _ _ ?_;simp;clear Z hr hx;have E:∀ k,(A++(Y.take k++(x::(Y.drop k++B)))).length=l.length:=λk=>by have:=congrArg List.length (oJ k Y);rw[gL]at this;simp only[gL,pQ]at this ⊢;omega
  refine cQ (S:=λs:List α × Nat=>aD [(0,.own bG 0 0 l.length),(10,.p (.int .i64 (m+i:Nat))),(13,.p (.int .i64 (a+s.2:Nat)))] [(bG,⟨I.z,aT s.1⟩)])
   (I:=λs=>s.2<=i/\s.1=A++(Y.take s.2++(x::(Y.drop s.2++B)))) (m:=λs=>i - s.2) (l,0) (aA.to [0,10,13] [((bG,0),bG)] (by simp[aD])) ⟨rK _,M⟩ ?_
  rintro⟨L,k⟩ ⟨hk,t⟩ R2 ad bb ap;simp only at hk t;have av:L.length=l.length:=by rw[t];exact E k
  have e3:IntKind.i64.wrap ((m:Int)+i - 1)=(a:Int)+i:=by rw[cG (by omega) (by omega)];omega
  have e4:IntKind.i64.wrap ((a:Int)+k+1)=(a:Int)+(k+1):=by rw[cG (by omega) (by omega)];omega
  by_cases C:k<i
  .obtain⟨y,J,_,_⟩:=gY k (by omega);have V:Y.drop k=y::Y.drop (k+1):=by obtain⟨q1,q2⟩:=iR.1 J;rw[vw q1,q2]
   have ao:Y.take (k+1)=Y.take k++[y]:=by obtain⟨q1,q2⟩:=iR.1 J;rw[ed q1,q2]
   have hP:(A++Y.take k).length=a+k:=by rw[gL,iB];omega
   have f:L=(A++Y.take k)++(x::y::(Y.drop (k+1)++B)):=by rw[t,V];simp
   have gz:L[a+k]?=some x:=by rw[f,<- hP];simp
   have gy:L[a+k+1]?=some y:=by rw[f,qC (by omega),show a+k+1 - (A++Y.take k).length=1 by omega];rfl
   have H:(L.set (a+k) y).set (a+k+1) x=A++(Y.take (k+1)++(x::(Y.drop (k+1)++B))):=by rw[f,<- hP,yca,ao];simp
   have u:∀ s,aA s (aD [(0,.own bG 0 0 l.length),(10,.p (.int .i64 (m+i:Nat))),(13,.p (.int .i64 (a+(k+1):Nat)))] [(bG,⟨I.z,aT ((L.set (a+k) y).set (a+k+1) x)⟩)])->R2 .normal s:=λs hs=>
    ad ((L.set (a+k) y).set (a+k+1) x,k+1) s hs ⟨C,H⟩ (by simp only;omega)
   clear H f t;simp[J3,aD,e3,e4,C];have t1:((a:Int)+k).toNat=a+k:=by omega
   have t2:((a:Int)+(k+1)).toNat=a+k+1:=by omega
   rw[t1,t2];have r:((aT L).set (a+k) (.p (enc y))).set (a+k+1) (.p (enc x))=aT ((L.set (a+k) y).set (a+k+1) x):=by simp[-jE,aT,aH,DQ]
   refine⟨⟨by omega,by omega,by omega⟩,eO gy ⟨⟨by omega,by omega,by omega⟩,eO gz ⟨⟨by omega,by omega,by omega⟩,eO gz ⟨⟨G y,I.hz⟩,⟨by omega,by omega,by omega⟩,?_⟩⟩⟩⟩;rw[lM];refine eO (x:=.p (enc y)) ?_ ?_
   .rw[vx,aY (by omega)];simp[-jE,aT,aH,gy]
   rw[Gl];refine⟨⟨G x,I.hz⟩,?_⟩;rw[r];generalize (L.set (a+k) y).set (a+k+1) x=L2 at *
   simp[e4];exact u _ (aA.to [0,10,13] [((bG,0),bG)] (by simp[aD]))
  .have:k=i:=by omega
   subst this;have w:A++(Y.take k++(x::Y.drop k)++B)=L:=by rw[t];simp
   rw[w]at U;simp[J3,aD,e3];refine ap _ _ ?_;simp;exact U _
def On(P:List α)(u v : α)(R:List α):((P++(u::v::R)).set (P.length+1) u).set P.length v=P++(v::u::R):=by simp[List.set_append]
def Vz{I:SI}(hI:qQ I)(au:Enc.sz α = I.z)(bk:∀ x : α,(enc x).cells.all PV.one=true){key : α -> List Int}{cf:FuncId}{D : α -> Prop}(hD:∀ x y,D x->D y->∃ n:Int,Sp P cf [enc x,enc y] (.pure (.int .i64 n))/\(n<0 ↔ key x<key y))
  {A X B l:List α} {y : α} (N:l=A++(X++(y::B))) (br:l.length<=1000000) (hX:jP key X) (dy:D y) (dX:∀ x∈X,D x) {a m b:Nat} (ha:a=A.length) (hm:m=a+X.length) (hb:b=m+1) {Q:Exit->St->Prop} {ks:List Kt}
  (Y:∀ sl,Q .ret ⟨sl,[(bG,[some ⟨I.z,aT (A++(b6 key (X++[y])++B))⟩]),(aL,[none])]⟩) :
  vm P 220 Q (.code (My I)::ks) ⟨[(0,.own bG 0 0 l.length),(1,.p (.int .i64 a)),(2,.p (.int .i64 m)),(3,.p (.int .i64 b)),(4,.p (.fn cf []))],[(bG,[some ⟨I.z,aT l⟩])]⟩:=by
 have H:∀ x : α,(enc x).sz=I.z:=λx=>by rw[Enc.ok,au]
 have bb:l.length=A.length+X.length+1+B.length:=by rw[N];simp;omega
 have O:l[m]?=some y:=by rw[N,hm,ha,qC (by omega),show A.length+X.length - A.length=X.length by omega];simp
 have gX:∀ i,i<X.length->∃ x,X[i]?=some x/\l[a+i]?=some x/\D x:=λi M=>by refine⟨X[i],dF M,?_,dX _ (bV M)⟩;rw[N,qC (by omega),show a+i - A.length=i by omega,wh M,dF M]
 simp[My]
 refine cQ (S:=λs:Nat × Nat=>aD [(0,.own bG 0 0 l.length),(2,.p (.int .i64 m)),(4,.p (.fn cf [])),(14,.p (.int .i64 (a+s.1:Nat))),(15,.p (.int .i64 (a+s.2:Nat)))] [(bG,⟨I.z,aT l⟩)])
  (I:=λs=>s.1<=s.2/\s.2<=X.length/\(s.1=0\/∃ x,X[s.1 - 1]?=some x/\¬ key y<key x)/\(X.length<=s.2\/∃ x,X[s.2]?=some x/\key y<key x)) (m:=λs=>s.2 - s.1) (0,X.length)
  (aA.to [0,2,4,14,15] [((bG,0),bG)] (by simp[aD];omega)) ⟨rK _,dK _,.inl rfl,.inl (dK _)⟩ ?_
 rintro⟨i,j⟩ ⟨h1,U,V,W⟩ R hn hr hx;simp only at h1 U V W;by_cases al:i<j
 .have F:((a+i:Nat):Int)<((a+j:Nat):Int):=by omega
  have hw:IntKind.i64.wrap (IntKind.i64.wrap ((a:Int)+i+(a+j)) % 18446744073709551616 / 2)=((a+(i+j) / 2:Nat):Int):=by rw[HU _ _ (by omega) (by omega)];omega
  have c1:i<=(i+j) / 2/\(i+j) / 2<j:=by omega
  generalize (i+j) / 2=c at *
  obtain⟨x,K,x2,x3⟩:=gX c (by omega);obtain⟨n,ap,G⟩:=hD y x dy x3;have e1:IntKind.i64.wrap ((a:Int)+c+1)=(a:Int)+(c+1):=by rw[cG (by omega) (by omega)];omega
  simp[J4,aD,al,F];rw[hw,kQ];refine⟨by omega,eO O ⟨⟨by omega,by omega⟩,eO x2 ?_⟩⟩;refine bF ap rfl ?_;by_cases d:n<0
  .simp[d];exact hn (i,c) _ (aA.to [0,2,4,14,15] [((bG,0),bG)] (by simp[aD])) ⟨by simp only;omega,by simp only;omega,V,.inr ⟨x,K,G.1 d⟩⟩ (by simp only;omega)
  .simp[d];exact hn (c+1,j) _ (aA.to [0,2,4,14,15] [((bG,0),bG)] (by simp[aD,e1])) ⟨by simp only;omega,U,.inr ⟨x,K,λh=>d (G.2 h)⟩,W⟩ (by simp only;omega)
 .have ad:i=j:=by omega
  subst ad;have aq:=Xa hX (y:=y) (u:=i) V W;rw[aq]at Y;simp[J4,aD];refine hx _ _ ?_;simp;clear hn hr hx;have E:∀ k,(A++(X.take k++(y::(X.drop k++B)))).length=l.length:=λk=>by have:=congrArg List.length (oJ k X);rw[gL]at this;simp only[gL,pQ]at this ⊢;omega
  refine cQ (S:=λs:List α × Nat=>aD [(0,.own bG 0 0 l.length),(14,.p (.int .i64 (a+i:Nat))),(17,.p (.int .i64 (a+s.2:Nat)))] [(bG,⟨I.z,aT s.1⟩)])
   (I:=λs=>i<=s.2/\s.2<=X.length/\s.1=A++(X.take s.2++(y::(X.drop s.2++B)))) (m:=λs=>s.2) (l,X.length) (aA.to [0,14,17] [((bG,0),bG)] (by simp[aD,hm])) ⟨U,dK _,by rw[N];simp⟩ ?_
  rintro⟨L,k⟩ ⟨hk,af,r⟩ R2 ao bt aw;simp only at hk af r;have bo:L.length=l.length:=by rw[r];exact E k
  by_cases ag:i<k
  .obtain⟨p,rfl⟩:∃ p,k=p+1:=⟨k - 1,by omega⟩;have e4:IntKind.i64.wrap ((a:Int)+(p+1) - 1)=(a:Int)+p:=by rw[cG (by omega) (by omega)];omega
   obtain⟨x,K,_,_⟩:=gX p (by omega);have Z:X.drop p=x::X.drop (p+1):=by obtain⟨q1,q2⟩:=iR.1 K;rw[vw q1,q2]
   have av:X.take (p+1)=X.take p++[x]:=by obtain⟨q1,q2⟩:=iR.1 K;rw[ed q1,q2]
   have hP:(A++X.take p).length=a+p:=by rw[gL,iB];omega
   have f:L=(A++X.take p)++(x::y::(X.drop (p+1)++B)):=by rw[r,av];simp
   have gz:L[a+p]?=some x:=by rw[f,<- hP];simp
   have gy:L[a+p+1]?=some y:=by rw[f,qC (by omega),show a+p+1 - (A++X.take p).length=1 by omega];rfl
   have J:(L.set (a+p+1) x).set (a+p) y=A++(X.take p++(y::(X.drop p++B))):=by rw[f,<- hP,On,Z];simp
   have t:∀ s,aA s (aD [(0,.own bG 0 0 l.length),(14,.p (.int .i64 (a+i:Nat))),(17,.p (.int .i64 (a+p:Nat)))] [(bG,⟨I.z,aT ((L.set (a+p+1) x).set (a+p) y)⟩)])->R2 .normal s:=λs hs=>
    ao ((L.set (a+p+1) x).set (a+p) y,p) s hs ⟨by simp only;omega,by simp only;omega,J⟩ (by simp only;omega)
   clear J f r;have C:(i:Int)<(p:Int)+1:=by omega
   simp[Ki,aD,e4,ag,C];have t1:((a:Int)+p).toNat=a+p:=by omega
   have t2:((a:Int)+(p+1)).toNat=a+p+1:=by omega
   rw[t1,t2];have o:((aT L).set (a+p+1) (.p (enc x))).set (a+p) (.p (enc y))=aT ((L.set (a+p+1) x).set (a+p) y):=by simp[-jE,aT,aH,DQ]
   refine⟨⟨by omega,by omega,by omega⟩,eO gz ⟨⟨by omega,by omega,by omega⟩,eO gy ⟨⟨by omega,by omega,by omega⟩,eO gy ⟨⟨H x,I.hz⟩,⟨by omega,by omega,by omega⟩,?_⟩⟩⟩⟩;rw[lM];refine eO (x:=.p (enc x)) ?_ ?_
   .rw[vx,aY (by omega)];simp[-jE,aT,aH,gz]
   rw[Gl];refine⟨⟨H y,I.hz⟩,?_⟩;rw[o];generalize (L.set (a+p+1) x).set (a+p) y=L2 at *
   simp[e4];exact t _ (aA.to [0,14,17] [((bG,0),bG)] (by simp[aD]))
  .have:k=i:=by omega
   subst this;have w:A++(X.take k++(y::X.drop k)++B)=L:=by rw[r];simp
   rw[w]at Y;simp[Ki,aD];refine aw _ _ ?_;simp;exact Y _
end
section
variable {α : Type} [Enc α]
theorem L4{I:SI}(hI:qQ I)(E:Enc.sz α = I.z)(o:∀ x : α,(enc x).cells.all PV.one=true){key : α -> List Int}{cf:FuncId}{D : α -> Prop}(hD:∀ x y,D x->D y->∃ n:Int,Sp P cf [enc x,enc y] (.pure (.int .i64 n))/\(n<0 ↔ key x<key y)) :
  ∀ (N:Nat) (A X Y B l:List α) (a m b:Nat),X.length+Y.length<=N->l=A++(X++(Y++B))->l.length<=1000000->1<=X.length->1<=Y.length->jP key X->jP key Y->(∀ x∈X,D x)->(∀ x∈Y,D x)->a=A.length->m=a+X.length->b=m+Y.length ->
  jD P I.sm [.sl (aH l),.int .i64 a,.int .i64 m,.int .i64 b,.fn cf []] 0 I.z (aH (A++(b6 key (X++Y)++B))) (.pure (.bP []))
 | 0,A,X,Y,B,l,a,m,b,h,_,_,h1,_,_,_,_,_,_,_,_=>by omega
 | N+1,A,X,Y,B,l,a,m,b,hN,hl,al,dk,dl,hX,hY,dX,dY,ha,hm,hb=>by
  have ih:=L4 hI E o hD N;have ad:(A++(b6 key (X++Y)++B)).length=l.length:=by rw[hl];simp[(iQ _).2.1];omega
  have dd:l.length=A.length+X.length+Y.length+B.length:=by rw[hl];simp;omega
  have e1:IntKind.i64.wrap ((m:Int) - a)=(X.length:Int):=by rw[cG (by omega) (by omega)];omega
  have e2:IntKind.i64.wrap ((b:Int) - m)=(Y.length:Int):=by rw[cG (by omega) (by omega)];omega
  refine jD.cS hI.sm (by simp) rfl (by simp[ad]) ?_;by_cases ao:X.length=1
  .obtain⟨x,rfl⟩:=Ig.1 ao;simp[Ef,e1];exact Vy hI E o hD (A:=A) (x:=x) (Y:=Y) (B:=B) hl al hY (dX x (by simp)) dY ha hm (by simp at hm;omega) λsl=>by simp
  by_cases bt:Y.length=1
  .obtain⟨y,rfl⟩:=Ig.1 bt;have U:¬ (X.length:Int)=1:=by omega
   simp[Ef,e1,e2,ao,U];exact Vz hI E o hD (A:=A) (X:=X) (y:=y) (B:=B) hl al hX (dY y (by simp)) dX ha hm hb λsl=>by simp
  have U:¬ (X.length:Int)=1:=by omega
  have bu:¬ (Y.length:Int)=1:=by omega
  have hw:IntKind.i64.wrap (IntKind.i64.wrap ((a:Int)+b) % 18446744073709551616 / 2)=(((a+b) / 2:Nat):Int):=by rw[HU _ _ (by omega) (by omega)];omega
  have df:2*((a+b) / 2)<=a+b/\a+b<=2*((a+b) / 2)+1:=by omega
  simp[Ef,TJ,e1,e2,ao,U,bt,bu];rw[hw];generalize (a+b) / 2=mid at *
  have e3:IntKind.i64.wrap ((mid:Int)+m)=((mid+m:Nat):Int):=b5;rw[e3]
  refine L5 (S:=λs:Nat × Nat=>aD [(0,.own bG 0 0 l.length),(1,.p (.int .i64 a)),(2,.p (.int .i64 m)),(3,.p (.int .i64 b)),(4,.p (.fn cf [])),(18,.p (.int .i64 mid)),(19,.p (.int .i64 (mid+m:Nat))),(20,.p (.int .i64 s.1)),(21,.p (.int .i64 s.2))] [(bG,⟨I.z,aT l⟩)])
   (I:=λs=>s.1<=s.2/\(s.1=a\/s.1+b=mid+m)/\a<=s.1/\mid+m<=s.1+b/\(s.2=m\/s.2=mid)/\s.2<=m/\s.2<=mid) ?_ ?_
  .intro R V hr hx;simp;refine⟨λdp=>?_,λds=>?_⟩
   .have e4:IntKind.i64.wrap ((mid:Int)+m - b)=((mid+m - b:Nat):Int):=by clear e1 e2 hw e3;rw[cG (by omega) (by omega)];omega
    rw[e4];exact V (mid+m - b,mid) _ (aA.to [0,1,2,3,4,18,19,20,21] [((bG,0),bG)] (by simp[aD])) ⟨by simp only;omega,.inr (by simp only;omega),by simp only;omega,by simp only;omega,.inr rfl,by simp only;omega,dK _⟩
   .exact V (a,m) _ (aA.to [0,1,2,3,4,18,19,20,21] [((bG,0),bG)] (by simp[aD])) ⟨by simp only;omega,.inl rfl,dK _,by simp only;omega,.inl rfl,dK _,by simp only;omega⟩
  rintro⟨s0,r0⟩ ⟨k1,k2,k3,k4,k5,k6,k7⟩;simp only at k1 k2 k3 k4 k5 k6 k7;have e5:IntKind.i64.wrap ((mid:Int)+m - 1)=((mid+m - 1:Nat):Int):=by clear e1 e2 hw e3;rw[cG (by omega) (by omega)];omega
  have gX:∀ i,a<=i->i<m->∃ x,X[i - a]?=some x/\l[i]?=some x/\D x:=λi h1 h2=>by
   have W:i - a<X.length:=by omega
   refine⟨X[i - a],dF W,?_,dX _ (bV W)⟩;rw[hl,qC (by omega),show i - A.length=i - a by omega,wh W,dF W]
  have gY:∀ i,i<Y.length->∃ y,Y[i]?=some y/\l[m+i]?=some y/\D y:=λi W=>by refine⟨Y[i],dF W,?_,dY _ (bV W)⟩;rw[hl,qC (by omega),qC (by omega),show m+i - A.length - X.length=i by omega,wh W,dF W]
  simp[TI,aD];rw[e5]
  refine cQ (S:=λs:Nat × Nat=>aD [(0,.own bG 0 0 l.length),(1,.p (.int .i64 a)),(2,.p (.int .i64 m)),(3,.p (.int .i64 b)),(4,.p (.fn cf [])),(18,.p (.int .i64 mid)),(19,.p (.int .i64 (mid+m:Nat))),(20,.p (.int .i64 s.1)),(21,.p (.int .i64 s.2)),(22,.p (.int .i64 (mid+m - 1:Nat)))] [(bG,⟨I.z,aT l⟩)])
   (I:=λs=>s0<=s.1/\s.1<=s.2/\s.2<=r0/\(s.1=s0\/∃ x y,X[s.1 - 1 - a]?=some x/\Y[mid - s.1]?=some y/\¬ key y<key x)/\(s.2=r0\/∃ x y,X[s.2 - a]?=some x/\Y[mid - 1 - s.2]?=some y/\key y<key x)) (m:=λs=>s.2 - s.1) (s0,r0)
   (aA.to [0,1,2,3,4,18,19,20,21,22] [((bG,0),bG)] (by simp[aD])) ⟨dK _,k1,dK _,.inl rfl,.inl rfl⟩ ?_
  rintro⟨i,j⟩ ⟨h1,h2,h3,h4,h5⟩ R V hr hx;simp only at h1 h2 h3 h4 h5;by_cases cw:i<j
  .have bb:(i:Int)<(j:Int):=by omega
   have br:IntKind.i64.wrap (IntKind.i64.wrap ((i:Int)+j) % 18446744073709551616 / 2)=(((i+j) / 2:Nat):Int):=by rw[HU _ _ (by omega) (by omega)];omega
   have K:i<=(i+j) / 2/\(i+j) / 2<j:=by omega
   generalize (i+j) / 2=c at *
   obtain⟨x,x1,x2,x3⟩:=gX c (by omega) (by omega);obtain⟨y,y1,y2,y3⟩:=gY (mid - 1 - c) (by omega);rw[show m+(mid - 1 - c)=mid+m - 1 - c by omega]at y2;obtain⟨n,cx,bk⟩:=hD y x y3 x3;have e6:=bH c;have e7:IntKind.i64.wrap (((mid+m - 1:Nat):Int) - c)=((mid+m - 1 - c:Nat):Int):=by clear e1 e2 e3 e5 e6 br;rw[cG (by omega) (by omega)];omega
   simp[Kj,aD,cw,bb];rw[br,e7];simp only[kQ];refine⟨⟨by omega,by omega⟩,eO y2 ⟨⟨by omega,by omega⟩,eO x2 ?_⟩⟩;refine bF cx rfl ?_;by_cases G:n<0
   .simp[G];exact V (i,c) _ (aA.to [0,1,2,3,4,18,19,20,21,22] [((bG,0),bG)] (by simp[aD])) ⟨h1,by simp only;omega,by simp only;omega,h4,.inr ⟨x,y,x1,y1,bk.1 G⟩⟩ (by simp only;omega)
   .simp[G];exact V (c+1,j) _ (aA.to [0,1,2,3,4,18,19,20,21,22] [((bG,0),bG)] (by simp[aD,e6])) ⟨by simp only;omega,by simp only;omega,h3,.inr ⟨x,y,x1,by rw[<- y1];congr 1;simp only;omega,λh=>G (bk.2 h)⟩,h5⟩ (by simp only;omega)
  .have cv:i=j:=by omega
   subst cv;clear V hr;have bo:=K6 hX hY (u:=i - a) (v:=mid - i) (by
    obtain h|⟨x,y,q1,q2,q3⟩:=h4
    .obtain k|k:=k2
     .exact .inl (by omega)
     .exact .inr (.inl (by omega))
    .exact .inr (.inr ⟨x,y,by rw[<- q1];congr 1;omega,q2,q3⟩)) (by
    obtain h|⟨x,y,q1,q2,q3⟩:=h5
    .obtain k|k:=k5
     .exact .inl (by omega)
     .exact .inr (.inl (by omega))
    .exact .inr (.inr ⟨x,y,q1,by rw[<- q2];congr 1;omega,q3⟩))
   simp[Kj,aD];refine hx _ _ ?_;clear hx;simp[TH];have e8:IntKind.i64.wrap ((mid:Int)+m - i)=((mid+m - i:Nat):Int):=by clear e1 e2 hw e3 e5;rw[cG (by omega) (by omega)];omega
   rw[e8];have au:X=X.take (i - a)++X.drop (i - a):=(oJ _ _).symm;have aw:Y=Y.take (mid - i)++Y.drop (mid - i):=(oJ _ _).symm;have dx:(X.take (i - a)).length=i - a:=by rw[iB];omega
   have dy:(X.drop (i - a)).length=m - i:=by rw[lp];omega
   have ea:(Y.take (mid - i)).length=mid - i:=by rw[iB];omega
   have cy:(Y.drop (mid - i)).length=b - (mid+m - i):=by rw[lp];omega
   have bx:=GU hX (i - a);have ca:=GS hX (i - a);have cc:=GU hY (mid - i);have ce:=GS hY (mid - i);have co:∀ x∈X.take (i - a),D x:=λx h=>dX x (jA h);have cp:∀ x∈X.drop (i - a),D x:=λx h=>dX x (lu h);have cs:∀ x∈Y.take (mid - i),D x:=λx h=>dY x (jA h);have ct:∀ x∈Y.drop (mid - i),D x:=λx h=>dY x (lu h);rw[bo];have J:l=A++(X.take (i - a)++(X.drop (i - a)++(Y.take (mid - i)++(Y.drop (mid - i)++B)))):=by
    rw[hl];conv=>lhs;rw[au,aw]
    simp only[uK]
   clear bo au aw hl ad gX gY h4 h5 e5 e8;generalize X.take (i - a)=r at *
   generalize X.drop (i - a)=t at *
   generalize Y.take (mid - i)=f at *
   generalize Y.drop (mid - i)=w at *
   obtain⟨en,cu⟩:∃ en,en=mid+m - i:=⟨_,rfl⟩;rw[<- cu]at cy ⊢;have ap:(A++(r++(f++(t++(w++B))))).length=l.length:=by rw[J];simp;omega
   have cm:(A++(b6 key (r++f)++(t++(w++B)))).length=l.length:=by rw[J];simp[(iQ _).2.1];omega
   have cz:(A++(b6 key (r++f)++(b6 key (t++w)++B))).length=l.length:=by rw[J];simp[(iQ _).2.1];omega
   refine L5 (S:=λL:List α=>aD [(0,.own bG 0 0 l.length),(1,.p (.int .i64 a)),(3,.p (.int .i64 b)),(4,.p (.fn cf [])),(18,.p (.int .i64 mid)),(20,.p (.int .i64 i)),(24,.p (.int .i64 en))] [(bG,⟨I.z,aT L⟩)])
    (I:=λL=>L=A++(r++(f++(t++(w++B))))) ?_ ?_
   .intro R V hr hx;have d:∀ L:List α,L=A++(r++(f++(t++(w++B))))->∀ s,aA s (aD [(0,.own bG 0 0 l.length),(1,.p (.int .i64 a)),(3,.p (.int .i64 b)),(4,.p (.fn cf [])),(18,.p (.int .i64 mid)),(20,.p (.int .i64 i)),(24,.p (.int .i64 en))] [(bG,⟨I.z,aT L⟩)])->R .normal s:=λL F s hs=>V L s hs F;by_cases K:i<m
    .by_cases c2:m<en
     .have af:=Y0 hI E o cf (A++r) t f (w++B) l (by rw[J];simp) al (by omega) (by omega) i m en (by simp;omega) (by simp;omega) (by simp;omega);have Q:A++r++(f++(t++(w++B)))=A++(r++(f++(t++(w++B)))):=by simp
      rw[Q]at af;have d:=d _ rfl;generalize A++(r++(f++(t++(w++B))))=L2 at *
      simp[K,c2];refine sE af (by simp) rfl rfl (by simp) (by simp) (by simp[ap]) rfl (nE _ _ E) (cells_one o _) (by simp) ?_;simp;exact d _ (aA.to [0,1,3,4,18,20,24] [((bG,0),bG)] (by simp[aD]))
     .have O:f=[]:=qV (by omega);simp[K,c2];exact d l (by rw[J,O];simp) _ (aA.to [0,1,3,4,18,20,24] [((bG,0),bG)] (by simp[aD]))
    .have M:t=[]:=qV (by omega);simp[K];exact d l (by rw[J,M];simp) _ (aA.to [0,1,3,4,18,20,24] [((bG,0),bG)] (by simp[aD]))
   rintro L F;simp[TG,aD];have C:L.length=l.length:=by rw[F];exact ap
   have Z:L.take l.length=L:=by rw[<- C];exact lO
   refine L5 (S:=λL:List α=>aD [(0,.own bG 0 0 l.length),(3,.p (.int .i64 b)),(4,.p (.fn cf [])),(18,.p (.int .i64 mid)),(24,.p (.int .i64 en))] [(bG,⟨I.z,aT L⟩)])
    (I:=λL=>L=A++(b6 key (r++f)++(t++(w++B)))) ?_ ?_
   .intro R V hr hx;have d:∀ L:List α,L=A++(b6 key (r++f)++(t++(w++B)))->∀ s,aA s (aD [(0,.own bG 0 0 l.length),(3,.p (.int .i64 b)),(4,.p (.fn cf [])),(18,.p (.int .i64 mid)),(24,.p (.int .i64 en))] [(bG,⟨I.z,aT L⟩)])->R .normal s:=λL F s hs=>V L s hs F;by_cases K:a<i
    .by_cases c2:i<mid
     .have H:=ih A r f (t++(w++B)) L a i mid (by omega) F (by omega) (by omega) (by omega) bx cc co cs ha (by omega) (by omega);have d:=d _ rfl;generalize A++(b6 key (r++f)++(t++(w++B)))=L2 at *
      simp[K,c2];refine sE H (by simp[C,Z]) rfl rfl (by simp) (by simp[C]) (by simp[cm]) rfl (nE _ _ E) (cells_one o _) (by simp) ?_;simp;exact d _ (aA.to [0,3,4,18,24] [((bG,0),bG)] (by simp[aD]))
     .have O:f=[]:=qV (by omega);subst O;simp[K,c2];exact d L (by rw[F,kZ,AB bx];simp) _ (aA.to [0,3,4,18,24] [((bG,0),bG)] (by simp[aD]))
    .have aq:r=[]:=qV (by omega);subst aq;simp[K];exact d L (by rw[F];simp only[uJ];rw[AB cc]) _ (aA.to [0,3,4,18,24] [((bG,0),bG)] (by simp[aD]))
   clear F C Z ap;clear L;rintro L F;have C:L.length=l.length:=by rw[F];exact cm
   have Z:L.take l.length=L:=by rw[<- C];exact lO
   have Q:A++(b6 key (r++f)++b6 key (t++w)++B)=A++(b6 key (r++f)++(b6 key (t++w)++B)):=by simp
   try rw[Q]
   by_cases K:mid<en
   .by_cases c2:en<b
    .have H:=ih (A++b6 key (r++f)) t w B L mid en b (by omega) (by rw[F];simp) (by omega) (by omega) (by omega) ca ce cp ct (by simp[(iQ _).2.1];omega) (by omega) (by omega);have ag:A++b6 key (r++f)++(b6 key (t++w)++B)=A++(b6 key (r++f)++(b6 key (t++w)++B)):=by simp
     rw[ag]at H;generalize A++(b6 key (r++f)++(b6 key (t++w)++B))=L2 at *
     simp[aD,K,c2];refine sE H (by simp[C,Z]) rfl rfl (by simp) (by simp[C]) (by simp[cz]) rfl (nE _ _ E) (cells_one o _) (by simp) ?_;simp
    .have av:w=[]:=qV (by omega);subst av;have:A++(b6 key (r++f)++(b6 key (t++[])++B))=L:=by rw[F,kZ,AB ca];simp
     rw[this];simp[aD,K,c2]
   .have M:t=[]:=qV (by omega);subst M;have:A++(b6 key (r++f)++(b6 key ([]++w)++B))=L:=by rw[F];simp only[uJ];rw[AB ce]
    rw[this];simp[aD,K]
end
end Go.Ab
