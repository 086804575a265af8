import Derived.Test.YtaobkpnecfcefaaDoorUsB
import Derived.Test.YtaobkpnecfcefaaDoorVpI
/-
  Text, turning: what is printed, as tokens and blanks; its tokens.
-/
set_option linter.unusedVariables false
set_option linter.unusedSimpArgs false
namespace Go.DN
open Go.AM
inductive It where
 | t (s:ByteArray)
 | b (c:UInt8)
def It.by:It→List UInt8
 | .t s=>s.data.toList
 | .b c=>[c]
def nO (l:List It):List UInt8:=l.flatMap It.by
theorem SU (a b:List It):nO (a++b)=nO a++nO b:=by unfold nO;simp
def tok:List It→List ByteArray
 | []=>[]
 | .t s::r=>s::tok r
 | .b _::r=>tok r
theorem eE:∀a b:List It,tok (a++b)=tok a++tok b
 | [],b=>rfl
 | .t s::r,b=>by simp only[bd,tok,eE r b]
 | .b _::r,b=>by simp only[bd,tok,eE r b]
def cut:It→Bool
 | .t s=>!(cO (ch s 0))
 | .b _=>true
def fS:List It→Bool
 | a::b::r=>(cut a||cut b)&&fS (b::r)
 | _=>true
theorem lO {x:It}(h:cut x=true) (l:List It):fS (x::l)=fS l:=by
 cases l with
 | nil=>rfl
 | cons y r=>simp only[fS,h,Bool.true_or,iL]
theorem iC {x y:It}(h:cut y=true) (l:List It):fS (x::y::l)=fS l:=by
 simp only[fS,h,Bool.or_true,iL]
 exact lO h l
theorem mU {x:It}(h:cut x=true):∀a b:List It,fS (a++x::b)=(fS a&&fS b)
 | [],b=>by rw[cX,lO h];rfl
 | [y],b=>by rw[bd,cX,iC h];rfl
 | y::z::r,b=>by
  have ih:=mU h (z::r) b
  simp only[bd] at ih⊢
  simp only[fS,ih,Bool.and_assoc]
def OZ (t:ByteArray):Prop:=0<t.size∧((nw cO t=true∧(kq (ch t 0)=true→uK t=true∧vl 0 t.data.toList≤wc))∨(t.size=1∧cO (ch t 0)=false∧yN (ch t 0)=true))
def gi:It→Prop
 | .t s=>OZ s
 | .b c=>vJ c.toNat=true
def Gi (l:List It):Prop:=∀x∈l,gi x
theorem Gi.cN {a b:List It}(ha:Gi a) (hb:Gi b):Gi (a++b):=fun x hx=>by
 rcases eS.1 hx with h | h
 ·exact ha x h
 ·exact hb x h
theorem Gi.cons {x:It}{l:List It}(h:gi x) (hl:Gi l):Gi (x::l):=fun y hy=>by
 rcases bf.1 hy with rfl | hy
 ·exact h
 ·exact hl y hy
theorem Gi.nil:Gi []:=fun x hx=>by cases hx
theorem T0 {c:Nat}(h:vJ c=true):cO c=false:=by
 revert h
 unfold vJ cO pJ kq
 simp only[bD,decide_eq_true_eq,bc,decide_eq_false_iff_not]
 omega
theorem Pb {t s:ByteArray}{p:Nat}(hs:MB s) (h:At t p s.data.toList) (hn:cO (ch s 0)=true→p+s.size<t.size→cO (ch t (p+s.size))=false):nc t p=.inl (p+s.size):=by
 rcases hs.2.2 with ⟨h1,h2⟩ | ⟨h1,h2,h3⟩
 ·exact RL hs h (hn (jN.1 h1 0 hs.1))
 ·have h0:ch t p=ch s 0:=by have:=h.ch (i:=0) hs.1;simpa using this
  unfold nc
  rw[h0,if_neg (by rw[h2];decide),if_pos h3,h1]
theorem Ly {t:ByteArray}(ht:t.size≤Mx):∀(l:List It) (p:Nat),Gi l→fS l=true→At t p (nO l)→p+(nO l).length=t.size→
  ∃(j:Nat) (ts:List ah),Bl t p j∧(∀out,Lex t j out (out++ts,⟨0,0⟩))∧ts.map (·.Text)=tok l
 | [],p,_,_,h,hz=>by
  have:p=t.size:=by simpa[nO] using hz
  subst this
  exact⟨t.size,[],.stop fun h=>by omega,fun out=>by simpa using Lex.fin,rfl⟩
 | .b c::r,p,hg,ha,h,hz=>by
  have hc:vJ c.toNat=true:=hg _ au
  have h1:At t p ([c]++nO r):=h
  have hz':p+1+(nO r).length=t.size:=by
   have:(nO (.b c::r)).length=1+(nO r).length:=by show([c]++nO r).length=_;simp;omega
   omega
  have e:ch t p=c.toNat:=h1.get (i:=0) (c:=c) rfl
  obtain⟨j,ts,g1,g2,g3⟩:=Ly ht r (p+1) (fun x hx=>hg x (ap _ hx)) (by rw[lO (x:=.b c) rfl] at ha;exact ha) h1.right hz'
  exact⟨j,ts,.blank (by omega) (by rw[e];exact hc) g1,g2,g3⟩
 | .t s::r,p,hg,ha,h,hz=>by
  have hs0:OZ s:=hg _ au
  have hsl:s.data.toList.length=s.size:=Array.length_toList
  have h0':At t p (s.data.toList++nO r):=h
  have h1:At t p s.data.toList:=h0'.left
  have h2:At t (p+s.size) (nO r):=by have:=h0'.right;rw[hsl] at this;exact this
  have hz2:p+s.size+(nO r).length=t.size:=by
   have:(nO (.t s::r)).length=s.size+(nO r).length:=by show(s.data.toList++nO r).length=_;rw[ak,hsl]
   omega
  have hs:MB s:=⟨hs0.1,by omega,hs0.2⟩
  have hgr:Gi r:=fun x hx=>hg x (ap _ hx)
  have har:fS r=true:=by
   cases r with
   | nil=>rfl
   | cons y r=>simp only[fS,ag] at ha;exact ha.2
  obtain⟨j,ts,g1,g2,g3⟩:=Ly ht r (p+s.size) hgr har h2 hz2
  have h0:ch t p=ch s 0:=by have:=h1.ch (i:=0) hs.1;simpa using this
  have hp:p<t.size:=by have:=hs.1;omega
  have hT:=Pb hs h1 (fun hld hlt=>by
   cases r with
   | nil=>have:(nO []).length=0:=rfl;omega
   | cons y r=>
    simp only[fS,ag,bD] at ha
    have hcy:cut y=true:=by
     rcases ha.1 with h | h
     ·have h:(!(cO (ch s 0)))=true:=h
      rw[hld] at h;cases h
     ·exact h
    cases y with
    | b c=>
     have h3:At t (p+s.size) ([c]++nO r):=h2
     have e:ch t (p+s.size)=c.toNat:=h3.get (i:=0) (c:=c) rfl
     rw[e];exact T0 (hgr _ au)
    | t s2=>
     have h3:At t (p+s.size) (s2.data.toList++nO r):=h2
     have hs2:OZ s2:=hgr _ au
     have e:ch t (p+s.size)=ch s2 0:=by have:=h3.left.ch (i:=0) hs2.1;simpa using this
     rw[e];simpa[cut] using hcy)
  refine⟨p,⟨s,(p:Int)⟩::ts,.stop fun _=>by rw[h0];exact Lu hs,fun out=>?_,by show s::_=_;rw[g3];rfl⟩
  refine .tok hp hT g1 ?_
  rw[h1.ext]
  have e:out++⟨s,(p:Int)⟩::ts=(out++[⟨s,(p:Int)⟩])++ts:=by simp
  rw[e]
  exact g2 _
def w (l:List UInt8):It:=.t (ByteArray.mk l.toArray)
def sp:It:=.b 32
def eZ (b:Bool) (l:List It):List It:=bif b then[w [40]]++l++[w [41]] else l
def fq (c:List It):List (List It)→List It
 | []=>[]
 | [x]=>x
 | x::y::r=>x++c++fq c (y::r)
def rr (d:bh):List It:=if em d.Name then[.t (gN d.lG)] else[.t d.Name]
def gI (l:List bh):List It:=[w [91]]++fq [sp] (l.map rr)++[w [93]]
def Em (n:Int):List It:=[.t (gN n)]
def eM (l:List Int):List It:=[w [123]]++fq [sp] (l.map Em)++[w [125]]
def zA (t:ai) (xs:List (List It)):List It:=
 if t.Kind=1 then[.t (gN t.Number)]
 else if t.Kind=2 then[.t t.Name]
 else if t.Kind=4 then eZ (cZ t (k0 t) 0) (xs.getD 0 [])++([sp]++[.t t.Name]++[sp])++eZ (cZ t (k1 t) 1) (xs.getD 1 [])
 else if t.Kind=5 then[w [108,101,116],sp]++[.t t.Name]++[sp,w [61],sp]++xs.getD 0 []++[sp,w [105,110],sp]++xs.getD 1 []
 else if t.Kind=6 then[w [114,101,112,101,97,116],sp]++[.t (gN t.Number)]++[sp]++[.t t.Name]++[sp,w [61],sp]++xs.getD 0 []++[sp,w [119,105,116,104],sp]++xs.getD 1 []
 else[.t t.Name]++(bif t.Shaped then gI t.Shape else[])++(t.bC.map eM).flatten++[w [40]]++fq [w [44],sp] xs++[w [41]]
def it (t:ai):List It:=fold zA t
theorem vI (t:ai):it t=zA t (t.Kids.map it):=fold_eq _ _
def kr (g:cJ):List It:=[.t g.Name]++[w [58],sp]++gI g.nz
def lB (f:br):List It:=[w [102,110],sp]++[.t f.Name]++[w [40]]++fq [w [44],sp] (f.cy.map kr)++[w [41],sp,w [61],sp]++it f.Body++[w [59],.b 10]
def iD (p:List br):List It:=(p.map lB).flatten
def lD (l:List It):List Int:=(nO l).map fun x=>(x.toNat:Int)
theorem jM (a b:List It):lD (a++b)=lD a++lD b:=by unfold lD;rw[SU,nA]
theorem sR (s:ByteArray):lD [.t s]=aH s:=by unfold lD nO aH It.by;simp
theorem xd (c:List It):∀l:List (List It),lD (fq c l)=sep (lD c) (l.map lD)
 | []=>rfl
 | [x]=>rfl
 | x::y::r=>by
  have:=xd c (y::r)
  simp only[fq,aB,sep,jM] at this⊢
  rw[this]
theorem SV (d:bh):lD (rr d)=kv d:=by unfold rr kv;split <;> exact sR _
theorem zw {α:Type}{f:α→List It}{g:α→List Int}(h:∀x,lD (f x)=g x) (l:List α):(l.map f).map lD=l.map g:=by
 rw[iM];exact fH fun x _=>h x
theorem FN (l:List bh):lD (gI l)=gH l:=by
 unfold gI gH
 rw[jM,jM,xd,zw SV];rfl
theorem QJ (l:List Int):lD (eM l)=iV l:=by
 unfold eM iV
 rw[jM,jM,xd,zw (f:=Em) (g:=dg) fun n=>sR _];rfl
theorem Cc:∀l:List (List It),lD l.flatten=(l.map lD).flatten
 | []=>rfl
 | x::r=>by simp only[gR,aB,jM,Cc r]
theorem SW (b:Bool) (l:List It):lD (eZ b l)=cD b (lD l):=by
 cases b
 ·rfl
 ·show lD ([w [40]]++l++[w [41]])=[40]++lD l++[41]
  rw[jM,jM];rfl
theorem Cb (xs:List (List It)) (i:Nat):lD (xs.getD i [])=(xs.map lD).getD i []:=by
 simp only[dZ,ar]
 cases xs[i]? <;> rfl
theorem U8 (t:ai) (xs:List (List It)):lD (zA t xs)=yK t (xs.map lD):=by
 unfold zA yK
 by_cases h1:t.Kind=1
 ·rw[if_pos h1,if_pos h1];exact sR _
 rw[if_neg h1,if_neg h1]
 by_cases h2:t.Kind=2
 ·rw[if_pos h2,if_pos h2];exact sR _
 rw[if_neg h2,if_neg h2]
 by_cases h4:t.Kind=4
 ·rw[if_pos h4,if_pos h4]
  simp only[jM,SW,Cb,sR]
  rfl
 rw[if_neg h4,if_neg h4]
 by_cases h5:t.Kind=5
 ·rw[if_pos h5,if_pos h5]
  simp only[jM,Cb,sR]
  rfl
 rw[if_neg h5,if_neg h5]
 by_cases h6:t.Kind=6
 ·rw[if_pos h6,if_pos h6]
  simp only[jM,Cb,sR]
  rfl
 rw[if_neg h6,if_neg h6]
 simp only[jM,xd,Cc,sR,zw QJ]
 cases t.Shaped
 ·rfl
 ·show _++lD (gI t.Shape)++_++_++_++_=_
  rw[FN];rfl
theorem OH:∀(n:Nat) (t:ai),dN t≤n→lD (it t)=tx t
 | 0,t,h=>by have:=jE t;omega
 | n+1,t,h=>by
  rw[vI,tR,U8,iM]
  congr 1
  exact fH fun x hx=>by
   have:=oW hx
   exact OH n x (by omega)
theorem OI (g:cJ):lD (kr g)=fO g:=by
 unfold kr fO
 rw[jM,jM,sR,FN];rfl
theorem QK (f:br):lD (lB f)=od f:=by
 unfold lB od
 simp only[jM,xd,sR,zw OI,OH _ f.Body (aq _)]
 rfl
theorem QI (p:List br):lD (iD p)=jl p:=by
 unfold iD jl
 rw[Cc,zw QK]
theorem Lb (p:List br):(n8 p).data.toList=nO (iD p):=by
 unfold n8 strOf
 rw[←QI]
 unfold lD
 rw[iM]
 show List.map _ _=_
 conv=>rhs;rw[←List.map_id (nO (iD p))]
 refine fH fun x _=>?_
 show UInt8.ofNat ((x.toNat:Int)).toNat=x
 simp
end Go.DN

set_option linter.unusedVariables false
set_option linter.unusedSimpArgs false
namespace Go.DN
open Go.AM
theorem GK (acc:Nat):vl acc []=acc:=id rfl
theorem Ad (acc:Nat) (c:UInt8) (r:List UInt8):vl acc (c::r)=vl (acc*10+(c.toNat-48)) r:=by
 have h:vl acc (c::r)=vl (acc*10+(c.toNat-48)) r:=rfl
 exact h
theorem RG (c:UInt8) (l:List UInt8):∀(acc:Nat),vl acc (l++[c])=vl acc l*10+(c.toNat-48):=by
 induction l with
 | nil=>intro acc;rw[cX,Ad,GK,GK]
 | cons x r ih=>intro acc;rw[bd,Ad,Ad];exact ih _
theorem dd (u:Nat):(∀c∈Lib.decDigits u,D8 c=true)∧0<(Lib.decDigits u).length∧vl 0 (Lib.decDigits u)=u∧(u≠0→(Lib.decDigits u)[0]?≠some 48):=by
 induction u using Nat.strongRecOn with
 | ind u ih=>
  rw[Lib.decDigits]
  have hc:∀k,k<10→(UInt8.ofNat (48+k)).toNat=48+k:=by decide
  by_cases hu:u<10
  ·rw[dif_pos hu]
   refine⟨fun c h=>?_,by simp,?_,fun h0=>?_⟩
   ·rw[ij.1 h,Ab,hc u hu];omega
   ·rw[Ad,GK,hc u hu];omega
   ·intro h
    have h:=congrArg UInt8.toNat (eR h)
    rw[hc u hu] at h
    have:(48:UInt8).toNat=48:=rfl
    omega
  ·rw[dif_neg hu]
   obtain⟨h1,h2,h3,h4⟩:=ih (u/10) (by omega)
   refine⟨fun c h=>?_,by simp,?_,fun h0=>?_⟩
   ·rcases eS.1 h with h | h
    ·exact h1 c h
    ·rw[ij.1 h,Ab,hc (u%10) (by omega)];omega
   ·rw[RG,h3,hc _ (by omega)];omega
   ·rw[cd h2]
    exact h4 (by omega)
theorem RR {n:Int}(h0:0≤n):(gN n).data.toList=Lib.decDigits n.toNat:=by
 unfold gN Lib.itoa
 rw[if_neg (by omega)]
theorem FV {p:Nat→Bool}{s:ByteArray}(h:∀c∈s.data.toList,p c.toNat=true):nw p s=true:=jN.2 fun i hi=>by
 have hl:i<s.data.toList.length:=by simpa using hi
 rw[uu,av hl]
 exact h _ (iu hl)
theorem um {n:Int}(hn:pF n) (h0:0≤n):OZ (gN n)∧num (gN n)=true∧val (gN n)=n:=by
 obtain⟨h1,h2,h3,h4⟩:=dd n.toNat
 have e:=RR h0
 have hsz:(gN n).size=(Lib.decDigits n.toNat).length:=by rw[←e];exact(Array.length_toList (xs:=(gN n).data)).symm
 have hD:nw kq (gN n)=true:=FV fun c hc=>by rw[e] at hc;exact h1 c hc
 have hd0:kq (ch (gN n) 0)=true:=jN.1 hD 0 (by omega)
 have hnl:uK (gN n)=true:=by
  unfold uK
  rw[hD,iL]
  by_cases hz:n.toNat=0
  ·have:(Lib.decDigits n.toNat).length=1:=by rw[hz,Lib.decDigits];rfl
   rw[hsz,this];rfl
  ·have h5:=h4 hz
   have h6:ch (gN n) 0≠48:=by
    rw[uu,e,av h2]
    intro h
    apply h5
    rw[av h2]
    congr 1
    apply UInt8.toNat_inj.1
    exact h
   rw[decide_eq_false h6];simp
 have hv:vl 0 (gN n).data.toList=n.toNat:=by rw[e,h3]
 refine⟨⟨by omega,.inl ⟨jN.2 fun i hi=>Ii (jN.1 hD i hi),fun _=>⟨hnl,?_⟩⟩⟩,?_,?_⟩
 ·rw[hv,xj];have:=hn.2;omega
 ·unfold num
  rw[hd0,decide_eq_false (by omega)];rfl
 ·unfold val;rw[hv];omega
theorem xN {s:ByteArray}(h:nm s=true):0<s.size∧pJ (ch s 0)=true∧kw s=false∧nw cO s=true:=by
 unfold nm at h
 simp only[ag,a7,decide_eq_false_iff_not] at h
 exact⟨by omega,h.2.1,h.2.2.1,h.2.2.2⟩
theorem LH {c:Nat}(h:pJ c=true):kq c=false:=by
 cases hd:kq c with
 | false=>rfl
 | true=>rw[Rn hd] at h;cases h
theorem TK {s:ByteArray}(h:nm s=true):OZ s:=by
 obtain⟨h1,h2,h3,h4⟩:=xN h
 exact⟨h1,.inl ⟨h4,fun hd=>by rw[LH h2] at hd;cases hd⟩⟩
theorem TZ {c:Nat}(h:yN c=true):cO c=false:=by
 revert h
 unfold yN cO pJ kq
 simp only[List.contains_cons,List.contains_nil,bD,beq_iff_eq,bc,decide_eq_false_iff_not,k7]
 omega
theorem mO (c:UInt8) (h:yN c.toNat=true):gi (w [c])∧cut (w [c])=true:=by
 have e:ch (ByteArray.mk [c].toArray) 0=c.toNat:=rfl
 have h2:=TZ h
 refine⟨⟨by show 0<1;decide,.inr ⟨rfl,by rw[e];exact h2,by rw[e];exact h⟩⟩,?_⟩
 show(!(cO (ch (ByteArray.mk [c].toArray) 0)))=true
 rw[e,h2];rfl
theorem BR {l:List UInt8}(h0:0<l.length) (h:∀c∈l,pJ c.toNat=true):gi (w l):=by
 have ha:nw cO (ByteArray.mk l.toArray)=true:=FV fun c hc=>by
  have:c∈l:=by simpa using hc
  unfold cO;rw[h c this];rfl
 have h1:pJ (ch (ByteArray.mk l.toArray) 0)=true:=by
  rw[uu]
  have:(ByteArray.mk l.toArray).data.toList=l:=by simp
  rw[this,av h0]
  exact h _ (iu h0)
 exact⟨by show 0<l.toArray.size;simpa using h0,.inl ⟨ha,fun hd=>by rw[LH h1] at hd;cases hd⟩⟩
theorem HK {s:ByteArray}(h:zs s=true):It.t s=w [43]∨It.t s=w [45]∨It.t s=w [42]:=by
 unfold zs at h
 simp only[bD] at h
 rcases h with h | h | h
 ·exact .inl (congrArg It.t (gz h))
 ·exact .inr (.inl (congrArg It.t (gz h)))
 ·exact .inr (.inr (congrArg It.t (gz h)))
theorem jW:gi sp:=by show vJ 32=true;decide
theorem Gi.sep {c:List It}(hc:Gi c):∀{l:List (List It)},(∀x∈l,Gi x)→Gi (fq c l)
 | [],_=>Gi.nil
 | [x],h=>h x au
 | x::y::r,h=>((h x au).cN hc).cN (Gi.sep hc fun z hz=>h z (ap _ hz))
theorem xg {z:It}{c:List It}(hz:cut z=true) (hc:∀l,fS (c++l)=fS l):∀{l:List (List It)},(∀x∈l,fS x=true)→fS (fq (z::c) l)=true
 | [],_=>rfl
 | [x],h=>h x au
 | x::y::r,h=>by
  have ih:=xg hz hc (l:=y::r) fun q hq=>h q (ap _ hq)
  have e:fq (z::c) (x::y::r)=x++z::(c++fq (z::c) (y::r)):=by simp[fq]
  rw[e,mU hz,hc,ih,h x au];rfl
theorem I4 {x y:It}{r:List It}(h:cut y=true):fS (x::y::r)=fS (y::r):=by rw[iC h,lO h]
theorem c40:cut (w [40])=true:=(mO 40 (by decide)).2
theorem Us:cut (w [41])=true:=(mO 41 (by decide)).2
theorem c91:cut (w [91])=true:=(mO 91 (by decide)).2
theorem c93:cut (w [93])=true:=(mO 93 (by decide)).2
theorem Ut:cut (w [123])=true:=(mO 123 (by decide)).2
theorem VP:cut (w [125])=true:=(mO 125 (by decide)).2
theorem Vr:cut (w [44])=true:=(mO 44 (by decide)).2
theorem V5:cut (w [58])=true:=(mO 58 (by decide)).2
theorem c59:cut (w [59])=true:=(mO 59 (by decide)).2
theorem pL:cut sp=true:=rfl
theorem g1 (c:UInt8) (h:yN c.toNat=true):Gi [w [c]]:=Gi.cons (mO c h).1 Gi.nil
theorem ye {s:ByteArray}(h:nm s=true):Gi [.t s]:=Gi.cons (TK h) Gi.nil
theorem LN {n:Int}(h:pF n) (h0:0≤n):Gi [.t (gN n)]:=Gi.cons (um h h0).1 Gi.nil
theorem Ip {b:Bool}{l:List It}(h:Gi l∧fS l=true):Gi (eZ b l)∧fS (eZ b l)=true:=by
 cases b with
 | false=>exact h
 | true=>
  refine⟨((g1 40 (by decide)).cN h.1).cN (g1 41 (by decide)),?_⟩
  have e:eZ true l=w [40]::(l++w [41]::[]):=by simp[eZ]
  rw[e,lO c40,mU Us,h.2];rfl
theorem Qc {d:bh}(ho:yL d) (h:iG d=true):Gi (rr d)∧fS (rr d)=true:=by
 unfold iG at h
 unfold rr
 split
 ·rename_i he
  rw[if_pos he] at h
  exact⟨LN ho (of_decide_eq_true h),rfl⟩
 ·rename_i he
  rw[if_neg he,ag] at h
  exact⟨ye h.2,rfl⟩
theorem Vj (l:List It):fS ([]++l)=fS l:=rfl
theorem De {l:List bh}(ho:∀d∈l,yL d) (h:l.all iG=true):Gi (gI l)∧∀R,fS (gI l++R)=fS R:=by
 have hd:∀x∈l.map rr,Gi x∧fS x=true:=fun x hx=>by
  obtain⟨d,hd,rfl⟩:=jP.1 hx
  exact Qc (ho d hd) (cz.1 h d hd)
 refine⟨((g1 91 (by decide)).cN (Gi.sep (Gi.cons jW Gi.nil) fun x hx=>(hd x hx).1)).cN (g1 93 (by decide)),fun R=>?_⟩
 have e:gI l++R=w [91]::(fq [sp] (l.map rr)++w [93]::R):=by simp[gI]
 rw[e,lO c91,mU c93,xg pL Vj fun x hx=>(hd x hx).2];rfl
theorem N0 {l:List Int}(ho:∀n∈l,pF n) (h:rN l=true):Gi (eM l)∧∀R,fS (eM l++R)=fS R:=by
 have hd:∀x∈l.map Em,Gi x∧fS x=true:=fun x hx=>by
  obtain⟨d,hd,rfl⟩:=jP.1 hx
  exact⟨LN (ho d hd) (of_decide_eq_true (cz.1 h d hd)),rfl⟩
 refine⟨((g1 123 (by decide)).cN (Gi.sep (Gi.cons jW Gi.nil) fun x hx=>(hd x hx).1)).cN (g1 125 (by decide)),fun R=>?_⟩
 have e:eM l++R=w [123]::(fq [sp] (l.map Em)++w [125]::R):=by simp[eM]
 rw[e,lO Ut,mU VP,xg pL Vj fun x hx=>(hd x hx).2];rfl
theorem Df:∀{l:List (List Int)},(∀x∈l,∀n∈x,pF n)→l.all rN=true→Gi (l.map eM).flatten∧∀R,fS ((l.map eM).flatten++R)=fS R
 | [],_,_=>⟨Gi.nil,fun R=>rfl⟩
 | x::r,ho,h=>by
  simp only[fC,ag] at h
  obtain⟨a1,a2⟩:=N0 (ho x au) h.1
  obtain⟨b1,b2⟩:=Df (l:=r) (fun y hy=>ho y (ap _ hy)) h.2
  refine⟨by simp only[aB,gR];exact a1.cN b1,fun R=>?_⟩
  simp only[aB,gR,aA]
  rw[a2,b2]
theorem rb {t:ai}(h:t.Kids.length=2):(t.Kids.map it).getD 0 []=it (k0 t)∧(t.Kids.map it).getD 1 []=it (k1 t):=by rw[fj h];exact⟨rfl,rfl⟩
theorem Vp:Gi [w [44],sp]:=Gi.cons (mO 44 (by decide)).1 (Gi.cons jW Gi.nil)
theorem Vs (l:List It):fS ([sp]++l)=fS l:=lO pL l
theorem Ki:∀(n:Nat) (t:ai),dN t≤n→pD t→right t=true→Gi (it t)∧fS (it t)=true
 | 0,t,h,_,_=>by have:=jE t;omega
 | n+1,t,h,ho,hr=>by
  obtain⟨⟨hoN,hoD,hoL⟩,hoK⟩:=(l7 t).1 ho
  have hkids:∀x∈t.Kids,Gi (it x)∧fS (it x)=true:=fun x hx=>by
   have:=oW hx
   have hrx:right x=true:=by
    rw[li,ag] at hr
    exact cz.1 hr.2 x hx
   exact Ki n x (by omega) (hoK x hx) hrx
  have hown:mq t=true:=by rw[li,ag] at hr;exact hr.1
  rw[vI]
  unfold zA
  unfold mq at hown
  by_cases h1:t.Kind=1
  ·rw[if_pos h1] at hown⊢
   simp only[ag,decide_eq_true_eq] at hown
   exact⟨LN hoN hown.2.2.1,rfl⟩
  rw[if_neg h1] at hown⊢
  by_cases h2:t.Kind=2
  ·rw[if_pos h2] at hown⊢
   simp only[ag,decide_eq_true_eq] at hown
   exact⟨ye hown.2.1,rfl⟩
  rw[if_neg h2] at hown⊢
  by_cases h4:t.Kind=4
  ·rw[if_pos h4] at hown⊢
   simp only[ag,decide_eq_true_eq] at hown
   have h2k:=hown.2.2.2
   obtain⟨e0,e1⟩:=rb h2k
   rw[e0,e1]
   obtain⟨a1,a2⟩:=Ip (b:=cZ t (k0 t) 0) (hkids _ (kR h2k))
   obtain⟨b1,b2⟩:=Ip (b:=cZ t (k1 t) 1) (hkids _ (pI h2k))
   have hop:gi (.t t.Name):=by
    rcases HK hown.2.1 with h | h | h <;> rw[h]
    ·exact(mO 43 (by decide)).1
    ·exact(mO 45 (by decide)).1
    ·exact(mO 42 (by decide)).1
   refine⟨(a1.cN (((Gi.cons jW Gi.nil).cN (Gi.cons hop Gi.nil)).cN (Gi.cons jW Gi.nil))).cN b1,?_⟩
   simp only[aA,bd,cX]
   rw[mU pL,iC pL,a2,b2];rfl
  rw[if_neg h4] at hown⊢
  by_cases h5:t.Kind=5
  ·rw[if_pos h5] at hown⊢
   simp only[ag,decide_eq_true_eq] at hown
   have h2k:=hown.2.2.2
   obtain⟨e0,e1⟩:=rb h2k
   rw[e0,e1]
   obtain⟨a1,a2⟩:=hkids _ (kR h2k)
   obtain⟨b1,b2⟩:=hkids _ (pI h2k)
   refine⟨((((((Gi.cons (BR (by decide) (by decide)) (Gi.cons jW Gi.nil)).cN (ye hown.2.1)).cN (Gi.cons jW (Gi.cons (mO 61 (by decide)).1 (Gi.cons jW Gi.nil)))).cN a1).cN (Gi.cons jW (Gi.cons (BR (by decide) (by decide)) (Gi.cons jW Gi.nil)))).cN b1),?_⟩
   simp only[aA,bd,cX]
   rw[iC pL,iC pL,iC pL,mU pL,iC pL,a2,b2];rfl
  rw[if_neg h5] at hown⊢
  by_cases h6:t.Kind=6
  ·rw[if_pos h6] at hown⊢
   simp only[ag,decide_eq_true_eq] at hown
   have h2k:=hown.2.2.2
   obtain⟨e0,e1⟩:=rb h2k
   rw[e0,e1]
   obtain⟨a1,a2⟩:=hkids _ (kR h2k)
   obtain⟨b1,b2⟩:=hkids _ (pI h2k)
   refine⟨((((((((Gi.cons (BR (by decide) (by decide)) (Gi.cons jW Gi.nil)).cN (LN hoN hown.2.2.1)).cN (Gi.cons jW Gi.nil)).cN (ye hown.2.1)).cN (Gi.cons jW (Gi.cons (mO 61 (by decide)).1 (Gi.cons jW Gi.nil)))).cN a1).cN (Gi.cons jW (Gi.cons (BR (by decide) (by decide)) (Gi.cons jW Gi.nil)))).cN b1),?_⟩
   simp only[aA,bd,cX]
   rw[iC pL,iC pL,iC pL,iC pL,mU pL,iC pL,a2,b2];rfl
  rw[if_neg h6] at hown⊢
  by_cases h3:t.Kind=3
  ·rw[if_pos h3] at hown
   simp only[ag,decide_eq_true_eq] at hown
   obtain⟨hls,hnm,_,_,hsh⟩:=hown
   obtain⟨l1,l2⟩:=Df hoL hls
   obtain⟨s1,s2⟩:=De hoD hsh
   have hk:∀x∈t.Kids.map it,Gi x∧fS x=true:=fun x hx=>by
    obtain⟨y,hy,rfl⟩:=jP.1 hx
    exact hkids y hy
   have hkg:Gi (fq [w [44],sp] (t.Kids.map it)):=Gi.sep Vp fun x hx=>(hk x hx).1
   have hka:fS (fq [w [44],sp] (t.Kids.map it))=true:=xg Vr Vs fun x hx=>(hk x hx).2
   have hR:fS (w [40]::(fq [w [44],sp] (t.Kids.map it)++w [41]::[]))=true:=by rw[lO c40,mU Us,hka];rfl
   refine⟨?_,?_⟩
   ·refine(((((ye hnm).cN ?_).cN l1).cN (g1 40 (by decide))).cN hkg).cN (g1 41 (by decide))
    cases t.Shaped
    ·exact Gi.nil
    ·exact s1
   ·simp only[aA,bd,cX]
    cases t.Shaped with
    | true=>
     show fS (It.t t.Name::(gI t.Shape++_))=true
     have e:∀R,gI t.Shape++R=w [91]::(fq [sp] (t.Shape.map rr)++w [93]::R):=fun R=>by simp[gI]
     have hX:=s2 ((t.bC.map eM).flatten++(w [40]::(fq [w [44],sp] (t.Kids.map it)++[w [41]])))
     rw[e] at hX⊢
     rw[I4 c91,hX,l2,hR]
    | false=>
     show fS (It.t t.Name::((t.bC.map eM).flatten++_))=true
     cases hL:t.bC with
     | nil=>
      show fS (It.t t.Name::w [40]::_)=true
      rw[I4 c40,hR]
     | cons x r=>
      have hX:=l2 (w [40]::(fq [w [44],sp] (t.Kids.map it)++[w [41]]))
      rw[hL] at hX
      have e:∀R,((x::r).map eM).flatten++R=w [123]::(fq [sp] (x.map Em)++w [125]::((r.map eM).flatten++R)):=fun R=>by simp[eM]
      rw[e] at hX⊢
      rw[I4 Ut,hX,hR]
  ·rw[if_neg h3] at hown;cases hown
theorem LK {g:cJ}(ho:Fc g) (h:kS g=true):Gi (kr g)∧fS (kr g)=true:=by
 unfold kS at h
 rw[ag] at h
 obtain⟨s1,s2⟩:=De ho h.2
 refine⟨((ye h.1).cN (Gi.cons (mO 58 (by decide)).1 (Gi.cons jW Gi.nil))).cN s1,?_⟩
 have e:kr g=It.t g.Name::w [58]::sp::(gI g.nz++[]):=by simp[kr]
 rw[e,iC V5,lO pL,s2];rfl
theorem N1 {f:br}(ho:okF f) (h:kE f=true):Gi (lB f)∧∀R,fS (lB f++R)=fS R:=by
 unfold kE at h
 rw[ag,ag] at h
 obtain⟨t1,t2⟩:=Ki _ f.Body (aq _) ho.2 h.2.2
 have hg:∀x∈f.cy.map kr,Gi x∧fS x=true:=fun x hx=>by
  obtain⟨g,hg,rfl⟩:=jP.1 hx
  exact LK (ho.1 g hg) (cz.1 h.2.1 g hg)
 refine⟨((((((Gi.cons (BR (by decide) (by decide)) (Gi.cons jW Gi.nil)).cN (ye h.1)).cN (g1 40 (by decide))).cN (Gi.sep Vp fun x hx=>(hg x hx).1)).cN (Gi.cons (mO 41 (by decide)).1 (Gi.cons jW (Gi.cons (mO 61 (by decide)).1 (Gi.cons jW Gi.nil))))).cN t1).cN (Gi.cons (mO 59 (by decide)).1 (Gi.cons (by show vJ 10=true;decide) Gi.nil)),fun R=>?_⟩
 have e:lB f++R=w [102,110]::sp::It.t f.Name::w [40]::(fq [w [44],sp] (f.cy.map kr)++w [41]::(sp::w [61]::sp::(it f.Body++w [59]::(.b 10::R)))):=by simp[lB]
 rw[e,iC pL,iC c40,mU Us,lO pL,iC pL,mU c59,lO (x:=.b 10) rfl,t2,xg Vr Vs fun x hx=>(hg x hx).2];rfl
theorem Fu:∀{p:List br},JR p→p.all kE=true→Gi (iD p)∧fS (iD p)=true
 | [],_,_=>⟨Gi.nil,rfl⟩
 | f::r,ho,h=>by
  simp only[fC,ag] at h
  obtain⟨a1,a2⟩:=N1 (ho f au) h.1
  obtain⟨b1,b2⟩:=Fu (p:=r) (fun y hy=>ho y (ap _ hy)) h.2
  have e:iD (f::r)=lB f++iD r:=by simp[iD]
  rw[e]
  exact⟨a1.cN b1,by rw[a2,b2]⟩
end Go.DN

set_option linter.unusedVariables false
set_option linter.unusedSimpArgs false
set_option linter.unusedSectionVars false
namespace Go.DN
open Go.AM
def eg (X:jk) (i:Nat) (l:List ByteArray):Prop:=∀(k:Nat) (s:ByteArray),l[k]?=some s→X.tx (i+k)=s
variable {X:jk}
theorem eg.hd {i:Nat}{s:ByteArray}{l:List ByteArray}(h:eg X i (s::l)):X.tx i=s:=h 0 s rfl
theorem eg.tl {i:Nat}{s:ByteArray}{l:List ByteArray}(h:eg X i (s::l)):eg X (i+1) l:=fun k q hq=>by
 rw[show i+1+k=i+(k+1) by omega];exact h (k+1) q hq
theorem eg.left {i:Nat}{a b:List ByteArray}(h:eg X i (a++b)):eg X i a:=fun k q hq=>h k q (by rw[cd (nH hq)];exact hq)
theorem eg.right {i:Nat}{a b:List ByteArray}(h:eg X i (a++b)):eg X (i+a.length) b:=fun k q hq=>by
 rw[show i+a.length+k=i+(a.length+k) by omega]
 exact h _ q (by rw[dj (by omega),show a.length+k-a.length=k by omega];exact hq)
theorem p5 {i:Nat}{s:ByteArray}(h:X.tx i=s):X.is i s=true:=by unfold jk.is;rw[h];simp
theorem oJ {i:Nat}{s u:ByteArray}(h:X.tx i=s) (hn:s≠u):X.is i u=false:=by
 unfold jk.is
 rw[h]
 cases he:(s.toList==u.toList) with
 | false=>rfl
 | true=>exact absurd (gz he) hn
theorem kC {a b:Array UInt8}(h:a≠b):ByteArray.mk a≠ByteArray.mk b:=fun e=>h (ByteArray.mk.inj e)
theorem uL {s u:ByteArray}(h:num s=true) (hu:kq (ch u 0)=false):s≠u:=fun e=>by
 subst e
 rw[(s7 h).2] at hu;cases hu
theorem wQ {s u:ByteArray}(h:nm s=true) (hu:pJ (ch u 0)=false):s≠u:=fun e=>by
 subst e
 rw[(xN h).2.1] at hu;cases hu
theorem JT {s u:ByteArray}(h:nm s=true) (hu:kw u=true):s≠u:=fun e=>by
 subst e
 rw[(xN h).2.2.1] at hu;cases hu
theorem xO {s:ByteArray}(h:nm s=true):num s=false:=by
 unfold num
 rw[LH (xN h).2.1,ow]
theorem TX:kw (ByteArray.mk #[108,101,116])=true:=by unfold kw;simp[NG]
theorem TW:kw (ByteArray.mk #[114,101,112,101,97,116])=true:=by unfold kw;simp[NG]
theorem il {i:Nat}{s:ByteArray}(h:X.tx i=s):cg X s i=.ok () (i+1):=by unfold cg;rw[if_pos (p5 h)]
theorem su {i:Nat}{s:ByteArray}(h:X.tx i=s) (hn:nm s=true):jT X i=.ok s (i+1):=by unfold jT;rw[h,if_pos hn]
theorem Lh {i:Nat}{n:Int}(h:X.tx i=gN n) (hn:pF n) (h0:0≤n):mJ X i=.ok n (i+1):=by
 obtain⟨_,h1,h2⟩:=um hn h0
 unfold mJ;rw[h,if_pos h1,h2]
def zN (d:bh):ByteArray:=if em d.Name then gN d.lG else d.Name
theorem G2:∀l:List bh,tok (fq [sp] (l.map rr))=l.map zN
 | []=>rfl
 | [x]=>by show tok (rr x)=[zN x];unfold rr zN;split <;> rfl
 | x::y::r=>by
  have ih:=G2 (y::r)
  have e:tok (rr x)=[zN x]:=by unfold rr zN;split <;> rfl
  simp only[aB] at ih
  simp only[aB,fq,eE,ih,e]
  rfl
theorem G1:∀l:List Int,tok (fq [sp] (l.map Em))=l.map gN
 | []=>rfl
 | [x]=>rfl
 | x::y::r=>by
  have ih:=G1 (y::r)
  simp only[aB] at ih
  simp only[aB,fq,eE,ih]
  rfl
theorem yY (l:List bh):tok (gI l)=ByteArray.mk #[91]::(l.map zN++[ByteArray.mk #[93]]):=by
 unfold gI
 rw[eE,eE,G2];rfl
theorem uw (l:List Int):tok (eM l)=ByteArray.mk #[123]::(l.map gN++[ByteArray.mk #[125]]):=by
 unfold eM
 rw[eE,eE,G1];rfl
theorem Rv {s:ByteArray}(h:em s=true):s=ByteArray.mk #[]:=by
 have:=Me s
 rw[h] at this
 exact gz this
theorem AQ:∀(l:List bh) (m i:Nat) (acc:List bh),(∀d∈l,yL d)→l.all iG=true→eg X i (l.map zN++[ByteArray.mk #[93]])→l.length<m→jg X m i acc=.ok (acc++l) (i+l.length+1)
 | l,0,i,acc,_,_,_,h=>by omega
 | [],m+1,i,acc,_,_,h,_=>by
  unfold jg
  rw[if_pos (p5 (eg.hd h)),bL];rfl
 | d::r,m+1,i,acc,ho,hb,h,hm=>by
  simp only[fC,ag] at hb
  have hd:=eg.hd h
  have hx:=hb.1
  have ih:=AQ r m (i+1) (acc++[d]) (fun y hy=>ho y (ap _ hy)) hb.2 (eg.tl h) (by simp only[aZ] at hm;omega)
  have hpos:i+1+r.length+1=i+(d::r).length+1:=by simp only[aZ];omega
  rw[hpos,aA] at ih
  unfold zN at hd
  unfold iG at hx
  unfold jg
  cases he:em d.Name with
  | true=>
   rw[he,if_pos rfl] at hd hx
   obtain⟨_,h1,h2⟩:=um (ho d au) (of_decide_eq_true hx)
   rw[oJ hd (uL h1 (by decide)),if_neg (by decide),hd,if_pos h1,h2]
   have:(⟨ByteArray.mk #[],d.lG⟩:bh)=d:=by obtain⟨n,z⟩:=d;have:=Rv he;simp only at this⊢;rw[this]
   rw[this];exact ih
  | false=>
   rw[he,if_neg (by decide)] at hd hx
   rw[ag] at hx
   rw[oJ hd (wQ hx.2 (by decide)),if_neg (by decide),hd,if_neg (by rw[xO hx.2];decide),if_pos hx.2]
   have:(⟨d.Name,0⟩:bh)=d:=by obtain⟨n,z⟩:=d;have:=of_decide_eq_true hx.1;simp only at this⊢;rw[this]
   rw[this];exact ih
theorem eg.lt {i:Nat}{l:List ByteArray}{s:ByteArray}(h:eg X i (l++[s])) (hs:0<s.size):i+l.length<X.L.length:=nb (by rw[h.right.hd];exact hs)
theorem Cw {l:List bh}{i:Nat}(ho:∀d∈l,yL d) (hb:l.all iG=true) (h:eg X i (tok (gI l))):lZ X i=.ok l (i+(tok (gI l)).length):=by
 rw[yY] at h⊢
 have h1:=h.tl
 have h2:=h1.lt (by decide)
 unfold lZ
 rw[il h.hd]
 show jg X _ (i+1) []=_
 rw[AQ l _ (i+1) [] ho hb h1 (by rw[aN] at h2;omega)]
 simp only[cX,aZ,ak,aN,dY]
 congr 1;omega
theorem CQ:∀(l:List Int) (m i:Nat) (acc:List Int),(∀n∈l,pF n)→rN l=true→eg X i (l.map gN++[ByteArray.mk #[125]])→l.length<m→l5 X m i acc=.ok (acc++l) (i+l.length+1)
 | l,0,i,acc,_,_,_,h=>by omega
 | [],m+1,i,acc,_,_,h,_=>by
  unfold l5
  rw[if_pos (p5 (eg.hd h)),bL];rfl
 | d::r,m+1,i,acc,ho,hb,h,hm=>by
  unfold rN at hb
  simp only[fC,ag] at hb
  have hd:=eg.hd h
  have ih:=CQ r m (i+1) (acc++[d]) (fun y hy=>ho y (ap _ hy)) hb.2 (eg.tl h) (by simp only[aZ] at hm;omega)
  have hpos:i+1+r.length+1=i+(d::r).length+1:=by simp only[aZ];omega
  rw[hpos,aA] at ih
  obtain⟨_,h1,h2⟩:=um (ho d au) (of_decide_eq_true hb.1)
  unfold l5
  rw[oJ hd (uL h1 (by decide)),if_neg (by decide),hd,if_pos h1,h2]
  exact ih
theorem Nx {l:List Int}{i:Nat}(ho:∀n∈l,pF n) (hb:rN l=true) (h:eg X i (tok (eM l))):xG X i=.ok l (i+(tok (eM l)).length):=by
 rw[uw] at h⊢
 have h1:=h.tl
 have h2:=h1.lt (by decide)
 unfold xG
 rw[il h.hd]
 show l5 X _ (i+1) []=_
 rw[CQ l _ (i+1) [] ho hb h1 (by rw[aN] at h2;omega)]
 simp only[cX,aZ,ak,aN,dY]
 congr 1;omega
theorem C0:∀(l:List (List Int)) (m i:Nat) (acc:List (List Int)),(∀x∈l,∀n∈x,pF n)→l.all rN=true→eg X i (tok (l.map eM).flatten)→X.is (i+(tok (l.map eM).flatten).length) (ByteArray.mk #[123])=false→l.length<m→
  l6 X m i acc=.ok (acc++l) (i+(tok (l.map eM).flatten).length)
 | l,0,i,acc,_,_,_,_,h=>by omega
 | [],m+1,i,acc,_,_,h,hn,_=>by
  have hn:X.is i (ByteArray.mk #[123])=false:=hn
  unfold l6
  rw[hn,if_neg (by decide),bL];rfl
 | x::r,m+1,i,acc,ho,hb,h,hn,hm=>by
  simp only[fC,ag] at hb
  have e:tok (((x::r).map eM).flatten)=tok (eM x)++tok ((r.map eM).flatten):=by simp only[aB,gR,eE]
  rw[e] at h hn⊢
  rw[ak] at hn⊢
  have hx:=Nx (ho x au) hb.1 h.left
  have hhd:X.tx i=ByteArray.mk #[123]:=by have h2:=h.left;rw[uw] at h2;exact h2.hd
  have ih:=C0 r m (i+(tok (eM x)).length) (acc++[x]) (fun y hy=>ho y (ap _ hy)) hb.2 h.right (by rw[nR];exact hn) (by simp only[aZ] at hm;omega)
  unfold l6
  rw[if_pos (p5 hhd),hx]
  show l6 X m _ (acc++[x])=_
  rw[ih,aA,nR];rfl
structure I7 (X:jk) (j:Nat):Prop where
 p3:ia X j=true
 mul:ie X j=false
 pm:kM X j=false
theorem s9 {j:Nat}{s:ByteArray}(h:X.tx j=s) (hs:s=ByteArray.mk #[41]∨s=ByteArray.mk #[44]∨s=ByteArray.mk #[59]∨s=ByteArray.mk #[105,110]∨s=ByteArray.mk #[119,105,116,104]):I7 X j:=by
 have f:∀u:ByteArray,s≠u→X.is j u=false:=fun u hu=>oJ h hu
 have g:s≠ByteArray.mk #[91]∧s≠ByteArray.mk #[123]∧s≠ByteArray.mk #[40]∧s≠ByteArray.mk #[42]∧s≠ByteArray.mk #[43]∧s≠ByteArray.mk #[45]:=by
  rcases hs with rfl | rfl | rfl | rfl | rfl <;> exact⟨kC (by decide),kC (by decide),kC (by decide),kC (by decide),kC (by decide),kC (by decide)⟩
 obtain⟨a1,a2,a3,a4,a5,a6⟩:=g
 refine⟨?_,f _ a4,?_⟩
 ·unfold ia;rw[f _ a1,f _ a2,f _ a3];rfl
 ·unfold kM;rw[f _ a5,f _ a6];rfl
theorem Nv {j:Nat}{s:ByteArray}(h:X.tx j=s) (hs:zs s=true):ia X j=true∧(ie X j=(s.toList==mul.toList))∧(kM X j=!(s.toList==mul.toList)):=by
 have g:s=ByteArray.mk #[43]∨s=ByteArray.mk #[45]∨s=ByteArray.mk #[42]:=by
  rcases HK hs with h | h | h
  ·exact .inl (It.t.inj h)
  ·exact .inr (.inl (It.t.inj h))
  ·exact .inr (.inr (It.t.inj h))
 have f:∀u:ByteArray,s≠u→X.is j u=false:=fun u hu=>oJ h hu
 have g3:s≠ByteArray.mk #[91]∧s≠ByteArray.mk #[123]∧s≠ByteArray.mk #[40]:=by
  rcases g with rfl | rfl | rfl <;> exact⟨kC (by decide),kC (by decide),kC (by decide)⟩
 refine⟨by unfold ia;rw[f _ g3.1,f _ g3.2.1,f _ g3.2.2];rfl,by unfold ie jk.is;rw[h];rfl,?_⟩
 unfold kM jk.is mul
 rw[h]
 rcases g with rfl | rfl | rfl <;> simp[NG]
end Go.DN
