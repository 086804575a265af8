/-
  Graphs: a node's text tells the node.
-/
import Derived.Test.YtongekoajbcliaaGreatDoorPnA
import Derived.Test.YtongekoajbcliaaGreatDoorTgF
set_option linter.all false
set_option maxRecDepth 20000
namespace Go.DN.Pl
open Go.AM Go.PL
def Bt(n:Int):Prop:=-9223372036854775808<=n/\n<=9223372036854775807
def jd(n:Int):List Int:=jH (yk n)
def P5(l:List UInt8):Nat:=l.foldl (fun a d=>10*a+(d.toNat-48)) 0
def Uy(l:List UInt8)(d:UInt8):P5 (l++[d])=10*P5 l+(d.toNat-48):=by unfold P5;rw[eA];rfl
def Kt{u:Nat}(h:u<10):(UInt8.ofNat (48+u)).toNat=48+u:=by rw[UInt8.toNat_ofNat'];omega
def uT(u:Nat):P5 (Lib.decDigits u)=u/\∀d∈Lib.decDigits u,48<=d.toNat/\d.toNat<=57:=by induction u using Nat.strongRecOn with|ind u c=>rw[Lib.decDigits];split;rename_i h;have:=Kt h;refine⟨?_,fun d a=>?_⟩;show 10*0+((UInt8.ofNat (48+u)).toNat-48)=u;omega;rw[dj.1 a,this];omega;rename_i h;obtain⟨e,b⟩:=c (u/10) (by omega);have:=Kt (u:=u%10) (by omega);refine⟨by rw[Uy,e,this];omega,fun d a=>?_⟩;rcases dy.1 a with a|a;exact b d a;rw[dj.1 a,this];omega
def NC{u v:Nat}(h:Lib.decDigits u=Lib.decDigits v):u=v:=by rw[<-(uT u).1,<-(uT v).1,h]
def PN{u:Nat}(h:(45:UInt8)∈Lib.decDigits u):False:=by have:=((uT u).2 45 h).1;exact absurd this (by decide)
def VC{m n:Int}(h:Lib.itoa m=Lib.itoa n):m=n:=by unfold Lib.itoa at h;split at h;split at h;have:=NC (lz h).2;omega;exact(PN (h▸au)).elim;split at h;exact(PN (h.symm▸au)).elim;have:=NC h;omega
def yt(c:Int):Prop:=c=45\/(48<=c/\c<=57)
def DX(n:Int):jd n=(Lib.itoa n).map fun x=>(x.toNat:Int):=by unfold jd jH yk;simp
def NB{m n:Int}(h:jd m=jd n):m=n:=by rw[DX,DX] at h;refine VC ((List.map_inj_right fun x y e=>?_).1 h);exact UInt8.toNat_inj.1 (Int.ofNat.inj e)
def FE{n c:Int}(h:c∈jd n):yt c:=by rw[DX] at h;obtain⟨x,a,rfl⟩:=eL.1 h;unfold Lib.itoa at a;split at a;rcases bh.1 a with rfl|a;exact .inl rfl;have:=(uT _).2 x a;exact .inr (by omega);have:=(uT _).2 x a;exact .inr (by omega)
def Am:∀(k u:Nat),u<10^(k+1)->Lib.nDigits u<=k+1|0,u,h=>by rw[Lib.nDigits_small (by simpa using h)];omega|k+1,u,h=>by by_cases hu:u<10;rw[Lib.nDigits_small hu];omega;rw[Lib.nDigits_big hu];have:=Am k (u/10) (by rw[Nat.pow_succ] at h;omega);omega
def AV{n:Int}(h:Bt n):(jd n).length<=20:=by rw[DX,aJ];obtain⟨b,a⟩:=h;unfold Lib.itoa;split;rw[bQ,Lib.decDigits_length];have:=Am 18 n.natAbs (by omega);omega;rw[Lib.decDigits_length];have:=Am 18 n.toNat (by omega);omega
def mH(l:List Int):List Int:=(l.flatMap fun n=>32::jd n)++[59]
def gw(l:List Int):List Int:=jd l.length++mH l
def ij(x:ai):List (List Int):=[x.Op.av,x.Op.At,x.Op.Lo,x.Op.Hi,x.Op.Step,x.bU]
def Fg(x:ai):List Int:=gw [x.Op.Kind]++((ij x).flatMap gw++jd x.Op.Value)
def tJ(x:ai):ByteArray:=strOf (Fg x)
def JX{c d:Int}{r s:List Int}(j:¬yt c)(hd:¬yt d):∀{a b:List Int},(∀x∈a,yt x)->(∀x∈b,yt x)->a++c::r=b++d::s->a=b/\c::r=d::s|[],[],_,_,h=>⟨rfl,h⟩|[],y::t,_,i,h=>absurd (i y au) ((lz h).1▸j)|x::t,[],g,_,h=>absurd (g x au) ((lz h).1▸hd)|x::t,y::u,g,i,h=>by obtain⟨e,h⟩:=lz h;obtain⟨k,l⟩:=JX j hd (fun z f=>g z (ar _ f)) (fun z f=>i z (ar _ f)) h;exact⟨by rw[e,k],l⟩
def aaU:¬yt 32:=by unfold yt;omega
def aaT:¬yt 59:=by unfold yt;omega
def tail_cons(x:Int)(l:List Int):mH (x::l)=32::(jd x++mH l):=by unfold mH;simp
def JG(l r:List Int):∃c t,mH l++r=c::t/\¬yt c:=by cases l with|nil=>exact⟨59,r,rfl,aaT⟩|cons x l=>exact⟨32,jd x++mH l++r,by rw[tail_cons];rfl,aaU⟩
def Ku{m n:Int}{l k r s:List Int}(h:jd m++(mH l++r)=jd n++(mH k++s)):m=n/\mH l++r=mH k++s:=by obtain⟨c,t,b,e⟩:=JG l r;obtain⟨d,u,f,g⟩:=JG k s;rw[b,f] at h|-;obtain⟨i,j⟩:=JX e g (fun x a=>FE a) (fun x a=>FE a) h;exact⟨NB i,j⟩
def LI{r s:List Int}:∀{l m:List Int},mH l++r=mH m++s->l=m/\r=s|[],[],h=>⟨rfl,(lz h).2⟩|[],y::m,h=>by rw[tail_cons] at h;exact absurd (lz h).1 (by decide)|x::l,[],h=>by rw[tail_cons] at h;exact absurd (lz h).1 (by decide)|x::l,y::m,h=>by rw[tail_cons,tail_cons] at h;have h:jd x++mH l++r=jd y++mH m++s:=(lz h).2;rw[aS,aS] at h;obtain⟨b,c⟩:=Ku h;obtain⟨d,a⟩:=LI c;exact⟨by rw[b,d],a⟩
def OW{l m r s:List Int}(h:gw l++r=gw m++s):l=m/\r=s:=by unfold gw at h;rw[aS,aS] at h;exact LI (Ku h).2
def Ma{r s:List Int}:∀{l m:List (List Int)},l.length=m.length->l.flatMap gw++r=m.flatMap gw++s->l=m/\r=s|[],[],_,h=>⟨rfl,h⟩|[],_::_,e,_=>by cases e|_::_,[],e,_=>by cases e|x::l,y::m,e,h=>by rw[cd,cd,aS,aS] at h;obtain⟨b,c⟩:=OW h;obtain⟨d,a⟩:=Ma (Nat.succ.inj e) c;exact⟨by rw[b,d],a⟩
def Vy{x y:ai}(h:Fg x=Fg y):x=y:=by obtain⟨j,l⟩:=OW h;obtain⟨f,m⟩:=Ma (l:=ij x) (m:=ij y) rfl l;have i:=NB m;obtain⟨⟨k,a,b,c,d,e,v⟩,g⟩:=x;obtain⟨⟨o,p,q,r,s,t,u⟩,n⟩:=y;simp only[ij,List.cons.injEq,and_true] at j f i;obtain⟨rfl,rfl,rfl,rfl,rfl,rfl⟩:=f;subst j;subst i;rfl
def G6{l:List Int}:wH l=true↔∀c∈l,0<=c/\c<256:=by unfold wH;rw[dF];simp
def FD{n:Int}:∀c∈jd n,0<=c/\c<256:=fun c h=>by rcases FE h with h|h <;> omega
def Mb(l:List Int):∀c∈gw l,0<=c/\c<256:=fun c h=>by unfold gw mH at h;simp only[dy,qf,bh,List.not_mem_nil,or_false] at h;rcases h with h|⟨n,_,h|h⟩|h;exact FD c h;omega;exact FD c h;omega
def Ff(x:ai):wH (Fg x)=true:=G6.2 fun c h=>by unfold Fg at h;simp only[dy,qf] at h;rcases h with h|⟨l,_,h⟩|h;exact Mb _ c h;exact Mb _ c h;exact FD c h
theorem EC {l:List Int}(h:wH l=true):jH (strOf l)=l:=by
 unfold jH strOf;rw[iY]
 conv=>rhs;rw[←List.map_id l]
 refine ft fun n hn=>?_;have:=G6.1 h n hn;show((UInt8.ofNat n.toNat).toNat:Int)=n;rw[UInt8.toNat_ofNat'];omega
def Vz{x y:ai}(h:tJ x=tJ y):x=y:=by refine Vy ?_;rw[<-EC (Ff x),<-EC (Ff y)];exact congrArg jH h
def Pw(fu:Nat){n:Int}(h:Bt n):F.strconv_Itoa fu n=some (yk n):=by unfold F.strconv_Itoa F.tp CK;rw[ep ⟨rfl,h.1,h.2⟩];rfl
def Yc(fu:Nat){n:Int}(h:Bt n):F.nu fu n 10=some (yk n):=by unfold F.nu CK;rw[ep ⟨rfl,h.1,h.2⟩];rfl
def H4(fu:Nat)(s:ByteArray)(b:Bool)(m:List Int)(h:m.length+s.size<=140737488355328):F.dN fu s b m=some ((s.size:Int),m++jH s):=by unfold F.dN Lk;simp only[aa,aW,cond_true];rw[ep h];rfl
def Ls(fu:Nat)(c:Int)(b:Bool)(m:List Int)(h:m.length+1<=140737488355328):F.eV fu c b m=some (m++[c]):=by unfold F.eV Lk;simp only[aa,aW,cond_true];rw[b8 (by simp only[aj];omega) (by simp only[aj];omega)];rfl
def oq(l:List Int):Prop:=l.length<=1048576/\∀n∈l,Bt n
def EM{n:Int}(h:Bt n):(yk n).size<=20:=by have:=AV h;unfold jd at this;rw[Bw] at this;exact this
def O8{n:Nat}(h:n<=4000000):Bt (n:Int):=⟨by omega,by omega⟩
def AL{l:List Int}(h:∀n∈l,Bt n):(l.flatMap fun n=>32::jd n).length<=21*l.length:=by induction l with|nil=>exact aH _|cons x r b=>have c:=AV (h x au);have d:=b fun n a=>h n (ar _ a);rw[cd,aK,bQ,bQ];omega
def OV{l:List Int}(h:oq l):(gw l).length<=22020200:=by obtain⟨c,a⟩:=h;have d:=AL a;have b:=AV (O8 (n:=l.length) (by omega));unfold gw mH;simp only[aK,aj];omega
def SK(fu:Nat)(l:List Int)(b:Bool)(m:List Int)(j:oq l)(r:m.length<=1000000000)(hf:4000000<fu):F.qV fu l b m=some (m++gw l):=by
 obtain⟨s,h⟩:=j;have g:=O8 (n:=l.length) (by omega);have p:=EM g;have q:=AV g;have a:∀k,(m++jd l.length++(l.take k).flatMap fun n=>32::jd n).length<=1022020120:=fun k=>by have:=AL (l:=l.take k) fun n i=>h n (fG i);(have f:(l.take k).length<=l.length:=by rw[bA];omega);simp only[aK];omega
 have e:=eD (body:=F.j4 fu l) l (fun k=>((k:Int),m++jd l.length++(l.take k).flatMap fun n=>32::jd n)) (m++jd l.length++l.flatMap fun n=>32::jd n) (fun k x c=>by have d:=h x (ak c);have f:=a k;have o:=EM d;show F.j4 fu l ((k:Int),m++jd l.length++(l.take k).flatMap fun n=>32::jd n)=_;unfold F.j4;simp only[dec_lt c,cond_true,aC c,aa];rw[Ls fu _ _ _ (by omega)];simp only[aa];rw[Pw fu d];simp only[aa];rw[H4 fu _ _ _ (by simp only[aK,aj] at f|-;omega)];simp only[aa,aP (bO c) (by omega)];rw[take_succ c,qA];simp only[cd,List.flatMap_nil,bR,aS];rfl) (by show F.j4 fu l ((l.length:Int),m++jd l.length++(l.take l.length).flatMap fun n=>32::jd n)=_;unfold F.j4;simp only[bq,cond_false,bM]) fu (by omega);have e:aL (F.j4 fu l) fu (0,m++jH (yk l.length))=some (m++jd l.length++l.flatMap fun n=>32::jd n):=by simp only[dE,List.flatMap_nil,bR] at e;exact e
 have f:=a l.length;rw[bM] at f;unfold F.qV;rw[Pw fu g];simp only[aa];rw[H4 fu _ _ _ (by omega)];simp only[aa];rw[e];simp only[aa];rw[Ls fu _ _ _ (by omega)];simp only[aa,gw,mH,aS]
def XC(fu:Nat)(l:List Int)(b:Bool)(m:List Int):F.u6 fu l b m=F.qV fu l b m:=rfl
def aaF(x:ai):Prop:=Bt x.Op.Kind/\(∀l∈ij x,oq l)/\Bt x.Op.Value
def U0{l:List (List Int)}(h:∀x∈l,oq x):(l.flatMap gw).length<=22020200*l.length:=by induction l with|nil=>exact aH _|cons x r b=>have c:=OV (h x au);have d:=b fun n a=>h n (ar _ a);rw[cd,aK,bQ];omega
def Tm(fu:Nat)(x:ai)(hx:aaF x)(hf:4000000<fu):F.uL fu x=some (tJ x):=by
 obtain⟨j,f,g⟩:=hx;have e:oq [x.Op.Kind]:=⟨by simp,fun n d=>by rw[dj.1 d];exact j⟩;have h:=OV e;have a:∀k,(gw [x.Op.Kind]++((ij x).take k).flatMap gw).length<=200000000:=fun k=>by have:=U0 (l:=(ij x).take k) fun n d=>f n (fG d);(have e:((ij x).take k).length<=6:=by rw[bA];exact Nat.min_le_right _ _);rw[aK];omega
 have c:=eD (body:=F.lS fu x) (ij x) (fun k=>((k:Int),gw [x.Op.Kind]++((ij x).take k).flatMap gw)) (gw [x.Op.Kind]++(ij x).flatMap gw) (fun k l b=>by have i:=a k;show F.lS fu x ((k:Int),gw [x.Op.Kind]++((ij x).take k).flatMap gw)=_;unfold F.lS;rw[show[x.Op.av,x.Op.At,x.Op.Lo,x.Op.Hi,x.Op.Step,x.bU]=ij x from rfl];simp only[dec_lt b,cond_true,aC b,aa];rw[SK fu l false _ (f l (ak b)) (by omega) hf];simp only[aa,aP (bO b) (show(ij x).length<=9223372036854775807 from by show 6<=_;omega)];rw[take_succ b,qA];simp only[cd,List.flatMap_nil,bR,aS]) (by show F.lS fu x (((ij x).length:Int),gw [x.Op.Kind]++((ij x).take (ij x).length).flatMap gw)=_;unfold F.lS;rw[show[x.Op.av,x.Op.At,x.Op.Lo,x.Op.Hi,x.Op.Step,x.bU]=ij x from rfl];simp only[bq,cond_false,bM]) fu (by show 6<fu;omega);have c:aL (F.lS fu x) fu (0,gw [x.Op.Kind])=some (gw [x.Op.Kind]++(ij x).flatMap gw):=by simp only[dE,List.flatMap_nil,bR] at c;exact c
 have i:=a 6;have m:=EM g;unfold F.uL;simp only[aa];rw[XC,SK fu _ _ _ e (by simp) hf];simp only[aa,iz];rw[c];simp only[aa];rw[Yc fu g];simp only[aa];rw[H4 fu _ _ _ (by rw[show(ij x).flatMap gw=((ij x).take 6).flatMap gw from rfl];omega)];simp only[aa];unfold Xd UJ;rw[show gw [x.Op.Kind]++(ij x).flatMap gw++jH (yk x.Op.Value)=Fg x by unfold Fg jd;rw[aS]];rw[ep (Ff x)];rfl
end Go.DN.Pl
