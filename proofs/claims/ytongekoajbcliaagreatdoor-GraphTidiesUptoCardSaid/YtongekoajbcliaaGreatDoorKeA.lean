/-
  Graphs: a node's text tells the node.
-/
import Derived.Test.YtongekoajbcliaaGreatDoorPnA
import Derived.Test.YtongekoajbcliaaGreatDoorTgF
set_option linter.unusedSimpArgs false
set_option linter.unusedVariables false
set_option maxRecDepth 20000
namespace Go.DN.Pl
open Go.AM Go.PL
def A3 (n:Int):Prop:=-9223372036854775808≤n∧n≤9223372036854775807
def iT (n:Int):List Int:=jy (xO n)
def Pq (l:List UInt8):Nat:=l.foldl (fun a d=>10*a+(d.toNat-48)) 0
theorem TQ (l:List UInt8) (d:UInt8):Pq (l++[d])=10*Pq l+(d.toNat-48):=by
 unfold Pq;rw[eo];rfl
theorem JP {u:Nat}(h:u<10):(UInt8.ofNat (48+u)).toNat=48+u:=by
 rw[UInt8.toNat_ofNat'];omega
theorem uC (u:Nat):Pq (Lib.decDigits u)=u∧∀d∈Lib.decDigits u,48≤d.toNat∧d.toNat≤57:=by
 induction u using Nat.strongRecOn with
 | ind u ih=>
  rw[Lib.decDigits];split
  ·rename_i h;have:=JP h;refine⟨?_,fun d hd=>?_⟩
   ·show 10*0+((UInt8.ofNat (48+u)).toNat-48)=u;omega
   ·rw[c8.1 hd,this];omega
  ·rename_i h;obtain⟨h1,h2⟩:=ih (u/10) (by omega);have:=JP (u:=u%10) (by omega);refine⟨by rw[TQ,h1,this];omega,fun d hd=>?_⟩;rcases dl.1 hd with hd | hd
   ·exact h2 d hd
   ·rw[c8.1 hd,this];omega
theorem M0 {u v:Nat}(h:Lib.decDigits u=Lib.decDigits v):u=v:=by
 rw[←(uC u).1,←(uC v).1,h]
theorem O9 {u:Nat}(h:(45:UInt8)∈Lib.decDigits u):False:=by
 have:=((uC u).2 45 h).1;exact absurd this (by decide)
theorem UX {m n:Int}(h:Lib.itoa m=Lib.itoa n):m=n:=by
 unfold Lib.itoa at h;split at h
 ·split at h
  ·have:=M0 (lh h).2;omega
  ·exact(O9 (h▸ar)).elim
 ·split at h
  ·exact(O9 (h.symm▸ar)).elim
  ·have:=M0 h;omega
def xU (c:Int):Prop:=c=45∨(48≤c∧c≤57)
theorem Dr (n:Int):iT n=(Lib.itoa n).map fun x=>(x.toNat:Int):=by
 unfold iT jy xO;simp
theorem MZ {m n:Int}(h:iT m=iT n):m=n:=by
 rw[Dr,Dr] at h;refine UX ((List.map_inj_right fun x y e=>?_).1 h);exact UInt8.toNat_inj.1 (Int.ofNat.inj e)
theorem E9 {n c:Int}(h:c∈iT n):xU c:=by
 rw[Dr] at h;obtain⟨x,hx,rfl⟩:=fc.1 h;unfold Lib.itoa at hx;split at hx
 ·rcases bf.1 hx with rfl | hx
  ·exact .inl rfl
  ·have:=(uC _).2 x hx;exact .inr (by omega)
 ·have:=(uC _).2 x hx;exact .inr (by omega)
theorem zO:∀(k u:Nat),u<10^(k+1)→Lib.nDigits u≤k+1
 | 0,u,h=>by rw[Lib.nDigits_small (by simpa using h)];omega
 | k+1,u,h=>by
  by_cases hu:u<10
  ·rw[Lib.nDigits_small hu];omega
  ·rw[Lib.nDigits_big hu];have:=zO k (u/10) (by rw[Nat.pow_succ] at h;omega);omega
theorem Aq {n:Int}(h:A3 n):(iT n).length≤20:=by
 rw[Dr,aN];obtain⟨h2,h3⟩:=h;unfold Lib.itoa;split
 ·rw[bL,Lib.decDigits_length];have:=zO 18 n.natAbs (by omega);omega
 ·rw[Lib.decDigits_length];have:=zO 18 n.toNat (by omega);omega
def mq (l:List Int):List Int:=(l.flatMap fun n=>32::iT n)++[59]
def gb (l:List Int):List Int:=iT l.length++mq l
def hJ (x:aq):List (List Int):=[x.Op.au,x.Op.At,x.Op.Lo,x.Op.Hi,x.Op.Step,x.cH]
def EN (x:aq):List Int:=gb [x.Op.Kind]++((hJ x).flatMap gb++iT x.Op.Value)
def tj (x:aq):ByteArray:=strOf (EN x)
theorem Jq {c d:Int}{r s:List Int}(hc:¬xU c) (hd:¬xU d):∀{a b:List Int},(∀x∈a,xU x)→(∀x∈b,xU x)→a++c::r=b++d::s→a=b∧c::r=d::s
 | [],[],_,_,h=>⟨rfl,h⟩
 | [],y::t,_,hb,h=>absurd (hb y ar) ((lh h).1▸hc)
 | x::t,[],ha,_,h=>absurd (ha x ar) ((lh h).1▸hd)
 | x::t,y::u,ha,hb,h=>by
  obtain⟨e,h⟩:=lh h;obtain⟨h1,h2⟩:=Jq hc hd (fun z hz=>ha z (ap _ hz)) (fun z hz=>hb z (ap _ hz)) h;exact⟨by rw[e,h1],h2⟩
theorem aag:¬xU 32:=by unfold xU;omega
theorem aaf:¬xU 59:=by unfold xU;omega
theorem tail_cons (x:Int) (l:List Int):mq (x::l)=32::(iT x++mq l):=by
 unfold mq;simp
theorem I9 (l r:List Int):∃c t,mq l++r=c::t∧¬xU c:=by
 cases l with
 | nil=>exact⟨59,r,rfl,aaf⟩
 | cons x l=>exact⟨32,iT x++mq l++r,by rw[tail_cons];rfl,aag⟩
theorem JQ {m n:Int}{l k r s:List Int}(h:iT m++(mq l++r)=iT n++(mq k++s)):m=n∧mq l++r=mq k++s:=by
 obtain⟨c,t,e1,h1⟩:=I9 l r;obtain⟨d,u,e2,h2⟩:=I9 k s;rw[e1,e2] at h⊢;obtain⟨h3,h4⟩:=Jq h1 h2 (fun x hx=>E9 hx) (fun x hx=>E9 hx) h;exact⟨MZ h3,h4⟩
theorem La {r s:List Int}:∀{l m:List Int},mq l++r=mq m++s→l=m∧r=s
 | [],[],h=>⟨rfl,(lh h).2⟩
 | [],y::m,h=>by rw[tail_cons] at h;exact absurd (lh h).1 (by decide)
 | x::l,[],h=>by rw[tail_cons] at h;exact absurd (lh h).1 (by decide)
 | x::l,y::m,h=>by
  rw[tail_cons,tail_cons] at h;have h:iT x++mq l++r=iT y++mq m++s:=(lh h).2;rw[aR,aR] at h;obtain⟨h1,h2⟩:=JQ h;obtain⟨h3,h4⟩:=La h2;exact⟨by rw[h1,h3],h4⟩
theorem Og {l m r s:List Int}(h:gb l++r=gb m++s):l=m∧r=s:=by
 unfold gb at h;rw[aR,aR] at h;exact La (JQ h).2
theorem LC {r s:List Int}:∀{l m:List (List Int)},l.length=m.length→l.flatMap gb++r=m.flatMap gb++s→l=m∧r=s
 | [],[],_,h=>⟨rfl,h⟩
 | [],_::_,e,_=>by cases e
 | _::_,[],e,_=>by cases e
 | x::l,y::m,e,h=>by
  rw[b6,b6,aR,aR] at h;obtain⟨h1,h2⟩:=Og h;obtain⟨h3,h4⟩:=LC (Nat.succ.inj e) h2;exact⟨by rw[h1,h3],h4⟩
theorem US {x y:aq}(h:EN x=EN y):x=y:=by
 obtain⟨h1,h2⟩:=Og h;obtain⟨h3,h4⟩:=LC (l:=hJ x) (m:=hJ y) rfl h2;have h5:=MZ h4;obtain⟨⟨k,a,b,c,d,e,v⟩,g⟩:=x;obtain⟨⟨k',a',b',c',d',e',v'⟩,g'⟩:=y;simp only[hJ,List.cons.injEq,and_true] at h1 h3 h5;obtain⟨rfl,rfl,rfl,rfl,rfl,rfl⟩:=h3;subst h1;subst h5;rfl
theorem Gt {l:List Int}:wh l=true↔∀c∈l,0≤c∧c<256:=by
 unfold wh;rw[dB];simp
theorem E8 {n:Int}:∀c∈iT n,0≤c∧c<256:=fun c h=>by
 rcases E9 h with h | h <;> omega
theorem LD (l:List Int):∀c∈gb l,0≤c∧c<256:=fun c h=>by
 unfold gb mq at h;simp only[dl,pW,bf,List.not_mem_nil,or_false] at h;rcases h with h | ⟨n,_,h | h⟩ | h
 ·exact E8 c h
 ·omega
 ·exact E8 c h
 ·omega
theorem EM (x:aq):wh (EN x)=true:=Gt.2 fun c h=>by
 unfold EN at h;simp only[dl,pW] at h;rcases h with h | ⟨l,_,h⟩ | h
 ·exact LD _ c h
 ·exact LD _ c h
 ·exact E8 c h
theorem D7 {l:List Int}(h:wh l=true):jy (strOf l)=l:=by
 unfold jy strOf;rw[iO]
 conv=>rhs;rw[←List.map_id l]
 refine fh fun n hn=>?_;have:=Gt.1 h n hn;show((UInt8.ofNat n.toNat).toNat:Int)=n;rw[UInt8.toNat_ofNat'];omega
theorem UT {x y:aq}(h:tj x=tj y):x=y:=by
 refine US ?_;rw[←D7 (EM x),←D7 (EM y)];exact congrArg jy h
theorem OT (fu:Nat){n:Int}(h:A3 n):F.strconv_Itoa fu n=some (xO n):=by
 unfold F.strconv_Itoa F.sX Cg;rw[ey ⟨rfl,h.1,h.2⟩];rfl
theorem Xz (fu:Nat){n:Int}(h:A3 n):F.nc fu n 10=some (xO n):=by
 unfold F.nc Cg;rw[ey ⟨rfl,h.1,h.2⟩];rfl
theorem Hx (fu:Nat) (s:ByteArray) (b:Bool) (m:List Int) (h:m.length+s.size≤140737488355328):F.dJ fu s b m=some ((s.size:Int),m++jy s):=by
 unfold F.dJ KP;simp only[aa,aW,cond_true];rw[ey h];rfl
theorem KV (fu:Nat) (c:Int) (b:Bool) (m:List Int) (h:m.length+1≤140737488355328):F.eQ fu c b m=some (m++[c]):=by
 unfold F.eQ KP;simp only[aa,aW,cond_true];rw[cQ (by simp only[ah];omega) (by simp only[ah];omega)];rfl
def nW (l:List Int):Prop:=l.length≤1048576∧∀n∈l,A3 n
theorem Eg {n:Int}(h:A3 n):(xO n).size≤20:=by
 have:=Aq h;unfold iT at this;rw[A6] at this;exact this
theorem Ow {n:Nat}(h:n≤4000000):A3 (n:Int):=⟨by omega,by omega⟩
theorem Af {l:List Int}(h:∀n∈l,A3 n):(l.flatMap fun n=>32::iT n).length≤21*l.length:=by
 induction l with
 | nil=>exact aG _
 | cons x r ih=>
  have h1:=Aq (h x ar);have h2:=ih fun n hn=>h n (ap _ hn);rw[b6,aI,bL,bL];omega
theorem Oe {l:List Int}(h:nW l):(gb l).length≤22020200:=by
 obtain⟨h1,h2⟩:=h;have h3:=Af h2;have h4:=Aq (Ow (n:=l.length) (by omega));unfold gb mq;simp only[aI,ah];omega
theorem R4 (fu:Nat) (l:List Int) (b:Bool) (m:List Int) (hl:nW l) (hm:m.length≤1000000000) (hf:4000000<fu):F.qF fu l b m=some (m++gb l):=by
 obtain⟨h1,h2⟩:=hl;have ho:=Ow (n:=l.length) (by omega);have h3:=Eg ho;have h4:=Aq ho;have hlen:∀k,(m++iT l.length++(l.take k).flatMap fun n=>32::iT n).length≤1022020120:=fun k=>by
  have:=Af (l:=l.take k) fun n hn=>h2 n (fA hn);have hk:(l.take k).length≤l.length:=by rw[br];omega
  simp only[aI];omega
 have hL:=fw (body:=F.jT fu l) l (fun k=>((k:Int),m++iT l.length++(l.take k).flatMap fun n=>32::iT n)) (m++iT l.length++l.flatMap fun n=>32::iT n) (fun k x hx=>by
  have hx2:=h2 x (aj hx);have hk:=hlen k;have hs:=Eg hx2;show F.jT fu l ((k:Int),m++iT l.length++(l.take k).flatMap fun n=>32::iT n)=_;unfold F.jT;simp only[dec_lt hx,cond_true,aC hx,aa];rw[KV fu _ _ _ (by omega)];simp only[aa];rw[OT fu hx2];simp only[aa];rw[Hx fu _ _ _ (by simp only[aI,ah] at hk⊢;omega)];simp only[aa,aT (bP hx) (by omega)];rw[take_succ hx,qj];simp only[b6,List.flatMap_nil,bM,aR];rfl) (by
  show F.jT fu l ((l.length:Int),m++iT l.length++(l.take l.length).flatMap fun n=>32::iT n)=_;unfold F.jT;simp only[bw,cond_false,bK]) fu (by omega)
 have hL:aP (F.jT fu l) fu (0,m++jy (xO l.length))=some (m++iT l.length++l.flatMap fun n=>32::iT n):=by
  simp only[dA,List.flatMap_nil,bM] at hL;exact hL
 have hk:=hlen l.length;rw[bK] at hk;unfold F.qF;rw[OT fu ho];simp only[aa];rw[Hx fu _ _ _ (by omega)];simp only[aa];rw[hL];simp only[aa];rw[KV fu _ _ _ (by omega)];simp only[aa,gb,mq,aR]
theorem WY (fu:Nat) (l:List Int) (b:Bool) (m:List Int):F.uN fu l b m=F.qF fu l b m:=rfl
def Z1 (x:aq):Prop:=A3 x.Op.Kind∧(∀l∈hJ x,nW l)∧A3 x.Op.Value
theorem Uj {l:List (List Int)}(h:∀x∈l,nW x):(l.flatMap gb).length≤22020200*l.length:=by
 induction l with
 | nil=>exact aG _
 | cons x r ih=>
  have h1:=Oe (h x ar);have h2:=ih fun n hn=>h n (ap _ hn);rw[b6,aI,bL];omega
theorem SG (fu:Nat) (x:aq) (hx:Z1 x) (hf:4000000<fu):F.uu fu x=some (tj x):=by
 obtain⟨h1,h2,h3⟩:=hx;have hk:nW [x.Op.Kind]:=⟨by simp,fun n hn=>by rw[c8.1 hn];exact h1⟩;have hkl:=Oe hk;have hlen:∀k,(gb [x.Op.Kind]++((hJ x).take k).flatMap gb).length≤200000000:=fun k=>by
  have:=Uj (l:=(hJ x).take k) fun n hn=>h2 n (fA hn);have hk:((hJ x).take k).length≤6:=by rw[br];exact Nat.min_le_right _ _
  rw[aI];omega
 have hL:=fw (body:=F.lI fu x) (hJ x) (fun k=>((k:Int),gb [x.Op.Kind]++((hJ x).take k).flatMap gb)) (gb [x.Op.Kind]++(hJ x).flatMap gb) (fun k l hl=>by
  have hq:=hlen k;show F.lI fu x ((k:Int),gb [x.Op.Kind]++((hJ x).take k).flatMap gb)=_;unfold F.lI;rw[show[x.Op.au,x.Op.At,x.Op.Lo,x.Op.Hi,x.Op.Step,x.cH]=hJ x from rfl];simp only[dec_lt hl,cond_true,aC hl,aa];rw[R4 fu l false _ (h2 l (aj hl)) (by omega) hf];simp only[aa,aT (bP hl) (show(hJ x).length≤9223372036854775807 from by show 6≤_;omega)];rw[take_succ hl,qj];simp only[b6,List.flatMap_nil,bM,aR]) (by
  show F.lI fu x (((hJ x).length:Int),gb [x.Op.Kind]++((hJ x).take (hJ x).length).flatMap gb)=_;unfold F.lI;rw[show[x.Op.au,x.Op.At,x.Op.Lo,x.Op.Hi,x.Op.Step,x.cH]=hJ x from rfl];simp only[bw,cond_false,bK]) fu (by show 6<fu;omega)
 have hL:aP (F.lI fu x) fu (0,gb [x.Op.Kind])=some (gb [x.Op.Kind]++(hJ x).flatMap gb):=by
  simp only[dA,List.flatMap_nil,bM] at hL;exact hL
 have hq:=hlen 6;have hv:=Eg h3;unfold F.uu;simp only[aa];rw[WY,R4 fu _ _ _ hk (by simp) hf];simp only[aa,jD];rw[hL];simp only[aa];rw[Xz fu h3];simp only[aa];rw[Hx fu _ _ _ (by rw[show(hJ x).flatMap gb=((hJ x).take 6).flatMap gb from rfl];omega)];simp only[aa];unfold Ww T3;rw[show gb [x.Op.Kind]++(hJ x).flatMap gb++jy (xO x.Op.Value)=EN x by unfold EN iT;rw[aR]];rw[ey (EM x)];rfl
end Go.DN.Pl
