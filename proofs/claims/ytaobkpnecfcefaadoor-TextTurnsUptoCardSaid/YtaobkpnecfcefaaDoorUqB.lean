/-
  Text, reading: what is read, as a function of places.
-/
import Derived.Test.YtaobkpnecfcefaaDoorUqA
set_option linter.unusedVariables false
set_option linter.unusedSimpArgs false
namespace Go.DN
open Go.AM
variable (X:jk)
def jg:Nat→Nat→List bh→R (List bh)
 | 0,i,acc=>.bad 7 0
 | m+1,i,acc=>if X.is i (ByteArray.mk #[93])=true then .ok acc (i+1) else
  if num (X.tx i)=true then jg m (i+1) (acc++[⟨ByteArray.mk #[],val (X.tx i)⟩]) else
  if nm (X.tx i)=true then jg m (i+1) (acc++[⟨X.tx i,0⟩]) else .bad 7 (X.at_ i)
def lZ (i:Nat):R (List bh):=(cg X (ByteArray.mk #[91]) i).bind fun _ i=>jg X (X.L.length-i+1) i []
def l5:Nat→Nat→List Int→R (List Int)
 | 0,i,acc=>.bad 7 0
 | m+1,i,acc=>if X.is i (ByteArray.mk #[125])=true then .ok acc (i+1) else
  if num (X.tx i)=true then l5 m (i+1) (acc++[val (X.tx i)]) else .bad 7 (X.at_ i)
def xG (i:Nat):R (List Int):=(cg X (ByteArray.mk #[123]) i).bind fun _ i=>l5 X (X.L.length-i+1) i []
def l6:Nat→Nat→List (List Int)→R (List (List Int))
 | 0,i,acc=>.bad 7 0
 | m+1,i,acc=>if X.is i (ByteArray.mk #[123])=true then(xG X i).bind fun l i=>l6 m i (acc++[l]) else .ok acc i
def JM (i:Nat):R (Bool×List bh):=if X.is i (ByteArray.mk #[91])=true then(lZ X i).bind fun l i=>.ok (true,l) i else .ok (false,[]) i
def jU (S:Nat→R ai):Nat→Nat→List ai→R (List ai)
 | 0,i,acc=>.bad 7 0
 | m+1,i,acc=>if X.is i (ByteArray.mk #[41])=true then .ok acc i else
  (if 0<acc.length then cg X (ByteArray.mk #[44]) i else .ok () i).bind fun _ i=>(S i).bind fun k i=>jU S m i (acc++[k])
def Gm (S:Nat→R ai) (s:ByteArray) (i:Nat):R ai:=(JM X i).bind fun bs i=>(l6 X (X.L.length-i+1) i []).bind fun ls i=>(cg X (ByteArray.mk #[40]) i).bind fun _ i=>
 (jU X S (X.L.length-i+1) i []).bind fun ks i=>.ok ⟨3,s,0,bs.1,bs.2,ls,ks⟩ (i+1)
def ia (i:Nat):Bool:=!(X.is i (ByteArray.mk #[91]))&&(!(X.is i (ByteArray.mk #[123]))&&!(X.is i (ByteArray.mk #[40])))
def dm (S:Nat→R ai) (i:Nat):R ai:=
 if num (X.tx i)=true then .ok ⟨1,ByteArray.mk #[],val (X.tx i),false,[],[],[]⟩ (i+1) else
 if X.is i (ByteArray.mk #[40])=true then(S (i+1)).bind fun t i=>(cg X (ByteArray.mk #[41]) i).bind fun _ i=>.ok t i else
 (jT X i).bind fun s i=>if ia X i=true then .ok ⟨2,s,0,false,[],[],[]⟩ i else Gm X S s i
def cf (part:Nat→R ai) (sg:Nat→Bool):Nat→ai→Nat→R ai
 | 0,t,i=>if sg i=true then .bad 5 (X.at_ i) else .ok t i
 | k+1,t,i=>if sg i=true then(part (i+1)).bind fun b j=>cf part sg k ⟨4,X.tx i,0,false,[],[],[t,b]⟩ j else .ok t i
def ie (i:Nat):Bool:=X.is i (ByteArray.mk #[42])
def kM (i:Nat):Bool:=X.is i (ByteArray.mk #[43])||X.is i (ByteArray.mk #[45])
def fM (S:Nat→R ai) (i:Nat):R ai:=(dm X S i).bind fun t i=>cf X (dm X S) (ie X) 64 t i
def HE (S:Nat→R ai) (i:Nat):R ai:=(fM X S i).bind fun t i=>cf X (fM X S) (kM X) 64 t i
def sZ (S:Nat→R ai) (kind n:Int) (w:ByteArray) (i:Nat):R ai:=(jT X i).bind fun s i=>(cg X (ByteArray.mk #[61]) i).bind fun _ i=>(S i).bind fun a i=>
 (cg X w i).bind fun _ i=>(S i).bind fun b i=>.ok ⟨kind,s,n,false,[],[],[a,b]⟩ i
def uI (S:Nat→R ai) (i:Nat):R ai:=
 if X.is i (ByteArray.mk #[108,101,116])=true then sZ X S 5 0 (ByteArray.mk #[105,110]) (i+1) else
 if X.is i (ByteArray.mk #[114,101,112,101,97,116])=true then(mJ X (i+1)).bind fun n i=>sZ X S 6 n (ByteArray.mk #[119,105,116,104]) i else
 HE X S i
def pE:Nat→Nat→R ai
 | 0,i=>.bad 5 (X.at_ i)
 | r+1,i=>uI X (pE r) i
def fe:Nat→Nat→List cJ→R (List cJ)
 | 0,i,acc=>.bad 7 0
 | m+1,i,acc=>if X.is i (ByteArray.mk #[41])=true then .ok acc i else
  (if 0<acc.length then cg X (ByteArray.mk #[44]) i else .ok () i).bind fun _ i=>(jT X i).bind fun s i=>(cg X (ByteArray.mk #[58]) i).bind fun _ i=>(lZ X i).bind fun ds i=>fe m i (acc++[⟨s,ds⟩])
def xI (i:Nat):R br:=(cg X (ByteArray.mk #[102,110]) i).bind fun _ i=>(jT X i).bind fun s i=>(cg X (ByteArray.mk #[40]) i).bind fun _ i=>
 (fe X (X.L.length-i+1) i []).bind fun g i=>(cg X (ByteArray.mk #[61]) (i+1)).bind fun _ i=>(pE X 64 i).bind fun t i=>(cg X (ByteArray.mk #[59]) i).bind fun _ i=>.ok ⟨s,g,t⟩ i
def qU:Nat→Nat→List br→R (List br)
 | 0,i,acc=>.bad 7 0
 | m+1,i,acc=>if i<X.L.length then(xI X i).bind fun f i=>qU m i (acc++[f]) else .ok acc i
def Gd {α:Type}(Q:α→Prop) (i:Nat) (r:R α):Prop:=match r with
 | .ok a j=>i<j∧j≤X.L.length∧Q a
 | .bad e _=>e≠0
def Ge {α:Type}(Q:α→Prop) (i:Nat) (r:R α):Prop:=match r with
 | .ok a j=>i≤j∧j≤X.L.length∧Q a
 | .bad e _=>e≠0
variable {X}
theorem Gd.ge {α:Type}{Q:α→Prop}{i:Nat}{r:R α}(h:Gd X Q i r):Ge X Q i r:=by
 cases r with
 | ok a j=>exact⟨by have:=h.1;omega,h.2⟩
 | bad e p=>exact h
theorem Gd.bind {α β:Type}{Q:α→Prop}{Q':β→Prop}{i:Nat}{r:R α}{f:α→Nat→R β}(h:Gd X Q i r) (hf:∀a j,i<j→j≤X.L.length→Q a→Ge X Q' j (f a j)):Gd X Q' i (r.bind f):=by
 cases r with
 | ok a j=>
  have h2:=hf a j h.1 h.2.1 h.2.2
  show Gd X Q' i (f a j)
  revert h2
  cases f a j with
  | ok b k=>exact fun h2=>⟨by have:=h.1;have:=h2.1;omega,h2.2⟩
  | bad e p=>exact id
 | bad e p=>exact h
theorem Gd.bg {α β:Type}{Q:α→Prop}{Q':β→Prop}{i:Nat}{r:R α}{f:α→Nat→R β}(h:Gd X Q i r) (hf:∀a j,i<j→j≤X.L.length→Q a→Ge X Q' j (f a j)):Ge X Q' i (r.bind f):=(h.bind hf).ge
theorem Ge.ok {α:Type}{Q:α→Prop}{i j:Nat}{a:α}(h1:i≤j) (h2:j≤X.L.length) (h3:Q a):Ge X Q i (.ok a j):=⟨h1,h2,h3⟩
theorem Ge.bind {α β:Type}{Q:α→Prop}{Q':β→Prop}{i:Nat}{r:R α}{f:α→Nat→R β}(h:Ge X Q i r) (hf:∀a j,i≤j→j≤X.L.length→Q a→Ge X Q' j (f a j)):Ge X Q' i (r.bind f):=by
 cases r with
 | ok a j=>
  have h2:=hf a j h.1 h.2.1 h.2.2
  show Ge X Q' i (f a j)
  revert h2
  cases f a j with
  | ok b k=>exact fun h2=>⟨by have:=h.1;have:=h2.1;omega,h2.2⟩
  | bad e p=>exact id
 | bad e p=>exact h
theorem gO {w:ByteArray}(hw:0<w.size) (i:Nat):Gd X (fun _=>True) i (cg X w i):=by
 unfold cg
 split
 ·rename_i h;exact⟨by omega,is_lt hw h,trivial⟩
 ·exact(by decide:(7:Int)≠0)
theorem uH (i:Nat):Gd X (fun _=>True) i (jT X i):=by
 unfold jT
 split
 ·rename_i h;exact⟨by omega,nb (CS h),trivial⟩
 ·exact(by decide:(7:Int)≠0)
theorem Ld (i:Nat):Gd X (fun _=>True) i (mJ X i):=by
 unfold mJ
 split
 ·rename_i h;exact⟨by omega,nb (s7 h).1,trivial⟩
 ·exact(by decide:(7:Int)≠0)
def Sm {α:Type}(l:List α):Prop:=l.length≤Mx
theorem xF:∀(m i:Nat) (acc:List bh),acc.length+(X.L.length-i)≤Mx→Gd X Sm i (jg X m i acc)
 | 0,i,acc,_=>(by decide:(7:Int)≠0)
 | m+1,i,acc,h=>by
  unfold jg
  split
  ·rename_i h1;exact⟨by omega,is_lt (by decide) h1,by unfold Sm;omega⟩
  ·split
   ·rename_i h1
    have h2:=nb (s7 h1).1
    have h3:=xF m (i+1) (acc++[⟨ByteArray.mk #[],val (X.tx i)⟩]) (by simp;omega)
    revert h3
    cases jg X m (i+1) (acc++[⟨ByteArray.mk #[],val (X.tx i)⟩]) with
    | ok a j=>exact fun h3=>⟨by have:=h3.1;omega,h3.2⟩
    | bad e p=>exact id
   ·split
    ·rename_i h1
     have h2:=nb (CS h1)
     have h3:=xF m (i+1) (acc++[⟨X.tx i,0⟩]) (by simp;omega)
     revert h3
     cases jg X m (i+1) (acc++[⟨X.tx i,0⟩]) with
     | ok a j=>exact fun h3=>⟨by have:=h3.1;omega,h3.2⟩
     | bad e p=>exact id
    ·exact(by decide:(7:Int)≠0)
theorem vC (i:Nat):Gd X Sm i (lZ X i):=by
 have:=X.sz
 exact(gO (by decide) i).bind fun _ j _ _ _=>(xF _ j [] (by simp;omega)).ge
theorem Fa:∀(m i:Nat) (acc:List Int),acc.length+(X.L.length-i)≤Mx→Gd X Sm i (l5 X m i acc)
 | 0,i,acc,_=>(by decide:(7:Int)≠0)
 | m+1,i,acc,h=>by
  unfold l5
  split
  ·rename_i h1;exact⟨by omega,is_lt (by decide) h1,by unfold Sm;omega⟩
  ·split
   ·rename_i h1
    have h2:=nb (s7 h1).1
    have h3:=Fa m (i+1) (acc++[val (X.tx i)]) (by simp;omega)
    revert h3
    cases l5 X m (i+1) (acc++[val (X.tx i)]) with
    | ok a j=>exact fun h3=>⟨by have:=h3.1;omega,h3.2⟩
    | bad e p=>exact id
   ·exact(by decide:(7:Int)≠0)
theorem Bv (i:Nat):Gd X Sm i (xG X i):=by
 have:=X.sz
 exact(gO (by decide) i).bind fun _ j _ _ _=>(Fa _ j [] (by simp;omega)).ge
def OU (l:List (List Int)):Prop:=l.length≤Mx∧∀x∈l,Sm x
theorem zp:∀(m i:Nat) (acc:List (List Int)),i≤X.L.length→acc.length+(X.L.length-i)≤Mx→(∀x∈acc,Sm x)→Ge X OU i (l6 X m i acc)
 | 0,i,acc,_,_,_=>(by decide:(7:Int)≠0)
 | m+1,i,acc,hi,h,ha=>by
  unfold l6
  split
  ·exact((Bv i).bind (Q':=OU) fun l j h1 h2 hl=>zp m j (acc++[l]) h2 (by simp;omega) (fun x hx=>by
    rcases eS.1 hx with hx | hx
    ·exact ha x hx
    ·simp at hx;subst hx;exact hl)).ge
  ·exact⟨aq _,hi,by omega,ha⟩
theorem TC (i:Nat) (hi:i≤X.L.length):Ge X (fun b=>Sm b.2) i (JM X i):=by
 unfold JM
 split
 ·exact(vC i).bg fun l j h1 h2 hl=>.ok (aq _) h2 hl
 ·exact⟨aq _,hi,cv _⟩
inductive lc:ai→Prop
 | mk {k:Int}{n:ByteArray}{v:Int}{b:Bool}{sh:List bh}{ls:List (List Int)}{ks:List ai}(h1:Sm sh) (h2:OU ls) (h3:Sm ks) (h4:∀x∈ks,lc x):lc ⟨k,n,v,b,sh,ls,ks⟩
def Uz (l:List ai):Prop:=Sm l∧∀x∈l,lc x
theorem Ts {α:Type}:Sm ([]:List α):=cv _
theorem Tr:OU []:=⟨cv _,fun x h=>by cases h⟩
theorem lc.leaf {k:Int}{n:ByteArray}{v:Int}:lc ⟨k,n,v,false,[],[],[]⟩:=.mk Ts Tr Ts fun x h=>by cases h
theorem lc.two {k:Int}{n:ByteArray}{v:Int}{a b:ai}(ha:lc a) (hb:lc b):lc ⟨k,n,v,false,[],[],[a,b]⟩:=.mk Ts Tr (by unfold Sm;simp[Mx]) fun x h=>by
 simp at h;rcases h with rfl | rfl
 ·exact ha
 ·exact hb
section
variable {S:Nat→R ai}(hS:∀i,i≤X.L.length→Gd X lc i (S i))
include hS
theorem Bw:∀(m i:Nat) (acc:List ai),i≤X.L.length→acc.length+(X.L.length-i)≤Mx→(∀x∈acc,lc x)→Ge X Uz i (jU X S m i acc)
 | 0,i,acc,_,_,_=>(by decide:(7:Int)≠0)
 | m+1,i,acc,hi,h,ha=>by
  unfold jU
  split
  ·exact⟨aq _,hi,by unfold Sm;omega,ha⟩
  ·have h1:Ge X (fun _=>True) i (if 0<acc.length then cg X (ByteArray.mk #[44]) i else .ok () i):=by
    split
    ·exact(gO (by decide) i).ge
    ·exact⟨aq _,hi,trivial⟩
   exact h1.bind fun _ j h2 h3 _=>((hS j h3).bind (Q':=Uz) fun k j2 h4 h5 hk=>Bw m j2 (acc++[k]) h5 (by simp;omega) (fun x hx=>by
    rcases eS.1 hx with hx | hx
    ·exact ha x hx
    ·simp at hx;subst hx;exact hk)).ge
omit hS in
theorem zq:∀(m i:Nat) (acc a:List ai) (j:Nat),jU X S m i acc=.ok a j→X.is j (ByteArray.mk #[41])=true
 | 0,i,acc,a,j,e=>by cases e
 | m+1,i,acc,a,j,e=>by
  unfold jU at e
  split at e
  ·rename_i h;cases e;exact h
  ·revert e
   cases (if 0<acc.length then cg X (ByteArray.mk #[44]) i else R.ok () i) with
   | bad e p=>exact fun e=>by cases e
   | ok _ j1=>
    show(S j1).bind _=_→_
    cases S j1 with
    | bad e p=>exact fun e=>by cases e
    | ok k j2=>exact fun e=>zq m j2 _ a j e
theorem Py (s:ByteArray) (i:Nat) (hi:i≤X.L.length):Ge X lc i (Gm X S s i):=by
 have hz:=X.sz
 refine(TC i hi).bind fun bs j h1 h2 hb=>(zp _ j [] h2 (by simp;omega) (fun x h=>by cases h)).bind fun ls j h3 h4 hl=>((gO (by decide) j).bind (Q':=lc) fun _ j h5 h6 _=>?_).ge
 have h7:=Bw hS (X.L.length-j+1) j [] h6 (by simp;omega) (fun x h=>by cases h)
 have h8:=zq (S:=S) (X:=X) (X.L.length-j+1) j []
 revert h7 h8
 cases jU X S (X.L.length-j+1) j [] with
 | bad e p=>exact fun h _=>h
 | ok ks j2=>exact fun h7 h8=>⟨by have:=h7.1;omega,is_lt (by decide) (h8 _ _ rfl),.mk hb hl h7.2.2.1 h7.2.2.2⟩
theorem CJ (i:Nat) (hi:i≤X.L.length):Gd X lc i (dm X S i):=by
 unfold dm
 split
 ·rename_i h;exact⟨by omega,nb (s7 h).1,.leaf⟩
 ·split
  ·rename_i h
   have h1:=is_lt (by decide) h
   have h2:Gd X lc (i+1) ((S (i+1)).bind fun t i=>(cg X (ByteArray.mk #[41]) i).bind fun _ i=>.ok t i):=(hS (i+1) h1).bind fun t j _ h3 ht=>(gO (by decide) j).bg fun _ j _ h4 _=>.ok (aq _) h4 ht
   revert h2
   cases ((S (i+1)).bind fun t i=>(cg X (ByteArray.mk #[41]) i).bind fun _ i=>.ok t i) with
   | ok a j=>exact fun h2=>⟨by have:=h2.1;omega,h2.2⟩
   | bad e p=>exact id
  ·refine(uH i).bind fun s j _ h2 _=>?_
   split
   ·exact⟨aq _,h2,.leaf⟩
   ·exact Py hS s j h2
end
theorem xJ {part:Nat→R ai}(hp:∀i,i≤X.L.length→Gd X lc i (part i)){sg:Nat→Bool}(hs:∀i,sg i=true→i<X.L.length):∀(k:Nat) (t:ai) (i:Nat),i≤X.L.length→lc t→Ge X lc i (cf X part sg k t i)
 | 0,t,i,hi,ht=>by
  unfold cf
  split
  ·exact(by decide:(5:Int)≠0)
  ·exact⟨aq _,hi,ht⟩
 | k+1,t,i,hi,ht=>by
  unfold cf
  split
  ·rename_i h
   have h1:=hs i h
   have h2:=(hp (i+1) h1).bind (Q':=lc) (f:=fun b j=>cf X part sg k ⟨4,X.tx i,0,false,[],[],[t,b]⟩ j) fun b j h3 h4 hb=>xJ hp hs k _ j h4 (.two ht hb)
   revert h2
   cases ((part (i+1)).bind fun b j=>cf X part sg k ⟨4,X.tx i,0,false,[],[],[t,b]⟩ j) with
   | ok a j=>exact fun h2=>⟨by have:=h2.1;omega,h2.2⟩
   | bad e p=>exact id
  ·exact⟨aq _,hi,ht⟩
theorem Ie (i:Nat) (h:ie X i=true):i<X.L.length:=is_lt (by decide) h
theorem J7 (i:Nat) (h:kM X i=true):i<X.L.length:=by
 unfold kM at h
 rw[bD] at h
 rcases h with h | h <;> exact is_lt (by decide) h
section
variable {S:Nat→R ai}(hS:∀i,i≤X.L.length→Gd X lc i (S i))
include hS
theorem HG (i:Nat) (hi:i≤X.L.length):Gd X lc i (fM X S i):=(CJ hS i hi).bind fun t j _ h2 ht=>xJ (fun i hi=>CJ hS i hi) Ie 64 t j h2 ht
theorem R7 (i:Nat) (hi:i≤X.L.length):Gd X lc i (HE X S i):=(HG hS i hi).bind fun t j _ h2 ht=>xJ (fun i hi=>HG hS i hi) J7 64 t j h2 ht
theorem Fb (k n:Int){w:ByteArray}(hw:0<w.size) (i:Nat):Gd X lc i (sZ X S k n w i):=
 (uH i).bind fun s j _ _ _=>(gO (by decide) j).bg fun _ j _ h2 _=>(hS j h2).bg fun a j _ _ ha=>(gO hw j).bg fun _ j _ h3 _=>(hS j h3).bg fun b j _ h4 hb=>.ok (aq _) h4 (.two ha hb)
theorem Nu (i:Nat) (hi:i≤X.L.length):Gd X lc i (uI X S i):=by
 have up:∀{r:R ai},Gd X lc (i+1) r→Gd X lc i r:=fun {r} h=>by
  cases r with
  | ok a j=>exact⟨by have:=h.1;omega,h.2⟩
  | bad e p=>exact h
 unfold uI
 split
 ·exact up (Fb hS 5 0 (by decide) (i+1))
 ·split
  ·exact up ((Ld (i+1)).bind fun n j _ _ _=>(Fb hS 6 n (by decide) j).ge)
  ·exact R7 hS i hi
end
theorem Le:∀(r i:Nat),i≤X.L.length→Gd X lc i (pE X r i)
 | 0,i,_=>(by decide:(5:Int)≠0)
 | r+1,i,hi=>Nu (fun i hi=>Le r i hi) i hi
def I5 (l:List cJ):Prop:=Sm l∧∀g∈l,Sm g.nz
theorem xH:∀(m i:Nat) (acc:List cJ),i≤X.L.length→acc.length+(X.L.length-i)≤Mx→(∀g∈acc,Sm g.nz)→Ge X I5 i (fe X m i acc)
 | 0,i,acc,_,_,_=>(by decide:(7:Int)≠0)
 | m+1,i,acc,hi,h,ha=>by
  unfold fe
  split
  ·exact⟨aq _,hi,by unfold Sm;omega,ha⟩
  ·have h1:Ge X (fun _=>True) i (if 0<acc.length then cg X (ByteArray.mk #[44]) i else .ok () i):=by
    split
    ·exact(gO (by decide) i).ge
    ·exact⟨aq _,hi,trivial⟩
   exact h1.bind fun _ j h2 h3 _=>((uH j).bind (Q':=I5) fun s j h4 _ _=>((gO (by decide) j).bind (Q':=I5) fun _ j h5 _ _=>((vC j).bind (Q':=I5) fun ds j h6 h7 hd=>xH m j (acc++[⟨s,ds⟩]) h7 (by simp;omega) (fun x hx=>by
    rcases eS.1 hx with hx | hx
    ·exact ha x hx
    ·simp at hx;subst hx;exact hd)).ge).ge).ge
theorem wj:∀(m i:Nat) (acc a:List cJ) (j:Nat),fe X m i acc=.ok a j→X.is j (ByteArray.mk #[41])=true
 | 0,i,acc,a,j,e=>by cases e
 | m+1,i,acc,a,j,e=>by
  unfold fe at e
  split at e
  ·rename_i h;cases e;exact h
  ·revert e
   cases (if 0<acc.length then cg X (ByteArray.mk #[44]) i else R.ok () i) with
   | bad e p=>exact fun e=>by cases e
   | ok _ j1=>
    show(jT X j1).bind _=_→_
    cases jT X j1 with
    | bad e p=>exact fun e=>by cases e
    | ok s j2=>
     show(cg X _ j2).bind _=_→_
     cases cg X (ByteArray.mk #[58]) j2 with
     | bad e p=>exact fun e=>by cases e
     | ok _ j3=>
      show(lZ X j3).bind _=_→_
      cases lZ X j3 with
      | bad e p=>exact fun e=>by cases e
      | ok ds j4=>exact fun e=>wj m j4 _ a j e
def Cj (f:br):Prop:=I5 f.cy∧lc f.Body
theorem HH (i:Nat):Gd X Cj i (xI X i):=by
 have hz:=X.sz
 refine(gO (by decide) i).bind fun _ j _ _ _=>((uH j).bind (Q':=Cj) fun s j _ _ _=>((gO (by decide) j).bind (Q':=Cj) fun _ j _ h6 _=>?_).ge).ge
 have h7:=xH (X.L.length-j+1) j [] h6 (by simp;omega) (fun x h=>by cases h)
 have h8:=wj (X:=X) (X.L.length-j+1) j []
 revert h7 h8
 cases fe X (X.L.length-j+1) j [] with
 | bad e p=>exact fun h _=>h
 | ok g j2=>
  intro h7 h8
  have h9:=is_lt (by decide) (h8 _ _ rfl)
  have h10:Gd X Cj (j2+1) ((cg X (ByteArray.mk #[61]) (j2+1)).bind fun _ i=>(pE X 64 i).bind fun t i=>(cg X (ByteArray.mk #[59]) i).bind fun _ i=>.ok ⟨s,g,t⟩ i):=
   (gO (by decide) (j2+1)).bind fun _ j _ h3 _=>(Le 64 j h3).bg fun t j _ _ ht=>(gO (by decide) j).bg fun _ j _ h4 _=>.ok (aq _) h4 ⟨h7.2.2,ht⟩
  show Ge X Cj j ((cg X (ByteArray.mk #[61]) (j2+1)).bind fun _ i=>(pE X 64 i).bind fun t i=>(cg X (ByteArray.mk #[59]) i).bind fun _ i=>.ok ⟨s,g,t⟩ i)
  revert h10
  cases ((cg X (ByteArray.mk #[61]) (j2+1)).bind fun _ i=>(pE X 64 i).bind fun t i=>(cg X (ByteArray.mk #[59]) i).bind fun _ i=>R.ok (⟨s,g,t⟩:br) i) with
  | ok a k=>exact fun h=>⟨by have:=h.1;have:=h7.1;omega,h.2⟩
  | bad e p=>exact id
def Mz (l:List br):Prop:=Sm l∧∀f∈l,Cj f
theorem HF:∀(m i:Nat) (acc:List br),i≤X.L.length→acc.length+(X.L.length-i)≤Mx→(∀f∈acc,Cj f)→Ge X Mz i (qU X m i acc)
 | 0,i,acc,_,_,_=>(by decide:(7:Int)≠0)
 | m+1,i,acc,hi,h,ha=>by
  unfold qU
  split
  ·exact((HH i).bind (Q':=Mz) fun f j h1 h2 hf=>HF m j (acc++[f]) h2 (by simp;omega) (fun x hx=>by
    rcases eS.1 hx with hx | hx
    ·exact ha x hx
    ·simp at hx;subst hx;exact hf)).ge
  ·exact⟨aq _,hi,by unfold Sm;omega,ha⟩
end Go.DN
