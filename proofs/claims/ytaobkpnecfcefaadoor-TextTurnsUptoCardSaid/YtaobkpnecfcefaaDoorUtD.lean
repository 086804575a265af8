import Derived.Test.YtaobkpnecfcefaaDoorUtA
/-
  Text, turning: trees read again.
-/
set_option linter.unusedVariables false
set_option linter.unusedSimpArgs false
set_option linter.unusedSectionVars false
namespace Go.DN
open Go.AM
variable {X:jk}
def tk (t:ai):List ByteArray:=tok (it t)
def more {α:Type}(f:α→List ByteArray) (l:List α):List ByteArray:=l.flatMap fun x=>ByteArray.mk #[44]::f x
theorem Bf {α:Type}(f:α→List It):∀(x:α) (r:List α),tok (fq [w [44],sp] ((x::r).map f))=tok (f x)++more (fun y=>tok (f y)) r
 | x,[]=>by show tok (f x)=_;unfold more;simp
 | x,y::r=>by
  have ih:=Bf f y r
  simp only[aB] at ih
  simp only[aB,fq,eE,ih]
  unfold more
  simp only[cj,aA]
  rfl
theorem BK {α:Type}(f:α→List ByteArray):∀l:List α,l.length≤(more f l).length
 | []=>aq _
 | x::r=>by
  have:=BK f r
  have e:more f (x::r)=ByteArray.mk #[44]::(f x++more f r):=by unfold more;simp
  rw[e];simp only[aZ,ak];omega
structure Hd (s:ByteArray) (b:Bool):Prop where
 rp:s≠ByteArray.mk #[41]
 le:b=true→s≠ByteArray.mk #[108,101,116]∧s≠ByteArray.mk #[114,101,112,101,97,116]
theorem T3 {s:ByteArray}(h:num s=true):Hd s true:=⟨uL h (by decide),fun _=>⟨uL h (by decide),uL h (by decide)⟩⟩
theorem Ro {s:ByteArray}(h:nm s=true):Hd s true:=⟨wQ h (by decide),fun _=>⟨JT h TX,JT h TW⟩⟩
theorem UY:Hd (ByteArray.mk #[40]) true:=⟨kC (by decide),fun _=>⟨kC (by decide),kC (by decide)⟩⟩
theorem uJ {t:ai}(h:right t=true):mq t=true:=by rw[li,ag] at h;exact h.1
theorem zz {t x:ai}(h:right t=true) (hx:x∈t.Kids):right x=true:=by
 rw[li,ag] at h
 exact cz.1 h.2 x hx
theorem Ju (b:Bool) (l:List It):tok (eZ b l)=bif b then ByteArray.mk #[40]::(tok l++[ByteArray.mk #[41]]) else tok l:=by
 cases b
 ·rfl
 ·show tok ([w [40]]++l++[w [41]])=_
  rw[eE,eE];rfl
structure V8 (t:ai):Prop where
 n0:0≤t.Number
 eq:t=⟨1,ByteArray.mk #[],t.Number,false,[],[],[]⟩
theorem rH {t:ai}(h:oo t=true):t.Shaped=false∧t.Shape=[]∧t.bC=[]:=by
 unfold oo at h
 simp only[ag,a7,List.isEmpty_iff] at h
 exact h
theorem Nf {t:ai}(h:right t=true) (hk:t.Kind=1):0≤t.Number∧t=⟨1,ByteArray.mk #[],t.Number,false,[],[],[]⟩:=by
 have h:=uJ h
 unfold mq at h
 rw[if_pos hk] at h
 simp only[ag,decide_eq_true_eq] at h
 obtain⟨h1,h2,h3,h4⟩:=h
 obtain⟨b1,b2,b3⟩:=rH h1
 have hn:=Rv h2
 replace h4:=aT h4
 obtain⟨k,n,x,sh,sp,ls,ks⟩:=t
 simp only at hk hn b1 b2 b3 h4 h3⊢
 subst hk hn b1 b2 b3 h4
 exact⟨h3,rfl⟩
theorem Nd {t:ai}(h:right t=true) (hk:t.Kind=2):nm t.Name=true∧t=⟨2,t.Name,0,false,[],[],[]⟩:=by
 have h:=uJ h
 unfold mq at h
 rw[if_neg (by omega),if_pos hk] at h
 simp only[ag,decide_eq_true_eq] at h
 obtain⟨h1,h2,h3,h4⟩:=h
 obtain⟨b1,b2,b3⟩:=rH h1
 replace h4:=aT h4
 obtain⟨k,n,x,sh,sp,ls,ks⟩:=t
 simp only at hk b1 b2 b3 h4 h3 h2⊢
 subst hk b1 b2 b3 h4 h3
 exact⟨h2,rfl⟩
theorem CC {t:ai}(h:right t=true) (hk:t.Kind=4):zs t.Name=true∧t.Kids.length=2∧t=⟨4,t.Name,0,false,[],[],[k0 t,k1 t]⟩:=by
 have h:=uJ h
 unfold mq at h
 rw[if_neg (by omega),if_neg (by omega),if_pos hk] at h
 simp only[ag,decide_eq_true_eq] at h
 obtain⟨h1,h2,h3,h4⟩:=h
 obtain⟨b1,b2,b3⟩:=rH h1
 have h5:=fj h4
 refine⟨h2,h4,?_⟩
 rw[←h5]
 obtain⟨k,n,x,sh,sp,ls,ks⟩:=t
 simp only at hk b1 b2 b3 h3⊢
 subst hk b1 b2 b3 h3
 rfl
theorem Nb {t:ai}(h:right t=true) (hk:t.Kind=5):nm t.Name=true∧t.Kids.length=2∧t=⟨5,t.Name,0,false,[],[],[k0 t,k1 t]⟩:=by
 have h:=uJ h
 unfold mq at h
 rw[if_neg (by omega),if_neg (by omega),if_neg (by omega),if_pos hk] at h
 simp only[ag,decide_eq_true_eq] at h
 obtain⟨h1,h2,h3,h4⟩:=h
 obtain⟨b1,b2,b3⟩:=rH h1
 have h5:=fj h4
 refine⟨h2,h4,?_⟩
 rw[←h5]
 obtain⟨k,n,x,sh,sp,ls,ks⟩:=t
 simp only at hk b1 b2 b3 h3⊢
 subst hk b1 b2 b3 h3
 rfl
theorem Na {t:ai}(h:right t=true) (hk:t.Kind=6):nm t.Name=true∧0≤t.Number∧t.Kids.length=2∧t=⟨6,t.Name,t.Number,false,[],[],[k0 t,k1 t]⟩:=by
 have h:=uJ h
 unfold mq at h
 rw[if_neg (by omega),if_neg (by omega),if_neg (by omega),if_neg (by omega),if_pos hk] at h
 simp only[ag,decide_eq_true_eq] at h
 obtain⟨h1,h2,h3,h4⟩:=h
 obtain⟨b1,b2,b3⟩:=rH h1
 have h5:=fj h4
 refine⟨h2,h3,h4,?_⟩
 rw[←h5]
 obtain⟨k,n,x,sh,sp,ls,ks⟩:=t
 simp only at hk b1 b2 b3 h3⊢
 subst hk b1 b2 b3
 rfl
theorem Nc {t:ai}(h:right t=true) (hk:t.Kind=3):nm t.Name=true∧t.bC.all rN=true∧t.Shape.all iG=true∧(t.Shaped=false→t.Shape=[])∧t=⟨3,t.Name,0,t.Shaped,t.Shape,t.bC,t.Kids⟩:=by
 have h:=uJ h
 unfold mq at h
 rw[if_neg (by omega),if_neg (by omega),if_neg (by omega),if_neg (by omega),if_neg (by omega),if_pos hk] at h
 simp only[ag,decide_eq_true_eq,bD,List.isEmpty_iff] at h
 obtain⟨h1,h2,h3,h4,h5⟩:=h
 refine⟨h2,h1,h5,fun hs=>?_,?_⟩
 ·rcases h4 with h4 | h4
  ·rw[hs] at h4;cases h4
  ·exact h4
 ·obtain⟨k,n,x,sh,sp,ls,ks⟩:=t
  simp only at hk h3⊢
  subst hk h3
  rfl
theorem kinds {t:ai}(h:right t=true):t.Kind=1∨t.Kind=2∨t.Kind=3∨t.Kind=4∨t.Kind=5∨t.Kind=6:=by
 have h:=uJ h
 unfold mq at h
 by_cases h1:t.Kind=1;· exact .inl h1
 by_cases h2:t.Kind=2;· exact .inr (.inl h2)
 by_cases h3:t.Kind=3;· exact .inr (.inr (.inl h3))
 by_cases h4:t.Kind=4;· exact .inr (.inr (.inr (.inl h4)))
 by_cases h5:t.Kind=5;· exact .inr (.inr (.inr (.inr (.inl h5))))
 by_cases h6:t.Kind=6;· exact .inr (.inr (.inr (.inr (.inr h6))))
 rw[if_neg h1,if_neg h2,if_neg h4,if_neg h5,if_neg h6,if_neg h3] at h;cases h
theorem Vi {t:ai}(h:t.Kind=1):tk t=[gN t.Number]:=by unfold tk;rw[vI];unfold zA;rw[if_pos h];rfl
theorem Vh {t:ai}(h:t.Kind=2):tk t=[t.Name]:=by unfold tk;rw[vI];unfold zA;rw[if_neg (by omega),if_pos h];rfl
theorem Tm {t:ai}(h:t.Kind=4) (h2:t.Kids.length=2):tk t=tok (eZ (cZ t (k0 t) 0) (it (k0 t)))++(t.Name::tok (eZ (cZ t (k1 t) 1) (it (k1 t)))):=by
 unfold tk;rw[vI];unfold zA;rw[if_neg (by omega),if_neg (by omega),if_pos h,(rb h2).1,(rb h2).2,eE,eE,aA];rfl
theorem Vf {t:ai}(h:t.Kind=5) (h2:t.Kids.length=2):tk t=ByteArray.mk #[108,101,116]::t.Name::ByteArray.mk #[61]::(tk (k0 t)++(ByteArray.mk #[105,110]::tk (k1 t))):=by
 unfold tk;rw[vI t];unfold zA;rw[if_neg (by omega),if_neg (by omega),if_neg (by omega),if_pos h,(rb h2).1,(rb h2).2]
 simp only[eE,aA];rfl
theorem Ve {t:ai}(h:t.Kind=6) (h2:t.Kids.length=2):tk t=ByteArray.mk #[114,101,112,101,97,116]::gN t.Number::t.Name::ByteArray.mk #[61]::(tk (k0 t)++(ByteArray.mk #[119,105,116,104]::tk (k1 t))):=by
 unfold tk;rw[vI t];unfold zA;rw[if_neg (by omega),if_neg (by omega),if_neg (by omega),if_neg (by omega),if_pos h,(rb h2).1,(rb h2).2]
 simp only[eE,aA];rfl
theorem Vg {t:ai}(h:t.Kind=3):tk t=t.Name::(tok (bif t.Shaped then gI t.Shape else[])++(tok (t.bC.map eM).flatten++(ByteArray.mk #[40]::(tok (fq [w [44],sp] (t.Kids.map it))++[ByteArray.mk #[41]])))):=by
 unfold tk;rw[vI t];unfold zA;rw[if_neg (by omega),if_neg (by omega),if_neg (by omega),if_neg (by omega),if_neg (by omega)]
 simp only[eE,aA];rfl
theorem xm {t x:ai}{j:Nat}:cZ t x j=true↔pw x<pw t+j:=by unfold cZ;exact decide_eq_true_iff
theorem rU {t x:ai}{j:Nat}:cZ t x j=false↔pw t+j≤pw x:=by unfold cZ;rw[decide_eq_false_iff_not];omega
theorem JK {t:ai}:(pw t=0↔t.Kind=5∨t.Kind=6)∧(pw t=3↔¬(t.Kind=4∨t.Kind=5∨t.Kind=6)):=by
 unfold pw
 split <;> (try split) <;> (try split) <;> refine⟨⟨fun h=>?_,fun h=>?_⟩,⟨fun h=>?_,fun h=>?_⟩⟩ <;> omega
theorem BT:∀(n:Nat) (t:ai),dN t≤n→pD t→right t=true→∃s r,tk t=s::r∧Hd s (decide (1≤pw t))
 | 0,t,h,_,_=>by have:=jE t;omega
 | n+1,t,h,ho,hr=>by
  have hp:=JK (t:=t)
  have up:∀{s:ByteArray},Hd s true→∀b,Hd s b:=fun h b=>⟨h.rp,fun _=>h.le rfl⟩
  rcases kinds hr with hk | hk | hk | hk | hk | hk
  ·obtain⟨h0,_⟩:=Nf hr hk
   exact⟨_,_,Vi hk,up (T3 (um ((l7 t).1 ho).1.1 h0).2.1) _⟩
  ·exact⟨_,_,Vh hk,up (Ro (Nd hr hk).1) _⟩
  ·exact⟨_,_,Vg hk,up (Ro (Nc hr hk).1) _⟩
  ·obtain⟨h1,h2,_⟩:=CC hr hk
   rw[Tm hk h2,Ju]
   cases hw:cZ t (k0 t) 0 with
   | true=>exact⟨_,_,rfl,up UY _⟩
   | false=>
    have hlt:=oW (kR h2)
    obtain⟨s,r,e,hh⟩:=BT n (k0 t) (by omega) (((l7 t).1 ho).2 _ (kR h2)) (zz hr (kR h2))
    have e':tok (it (k0 t))=s::r:=e
    refine⟨s,_,by show tok (it (k0 t))++_=_;rw[e'];rfl,hh.rp,fun hb=>hh.le ?_⟩
    have:=rU.1 hw
    have hb:=of_decide_eq_true hb
    exact decide_eq_true (by omega)
  ·rw[Vf hk (Nb hr hk).2.1]
   exact⟨_,_,rfl,kC (by decide),fun hb=>by have:=of_decide_eq_true hb;have:=hp.1.2 (.inl hk);omega⟩
  ·rw[Ve hk (Na hr hk).2.2.1]
   exact⟨_,_,rfl,kC (by decide),fun hb=>by have:=of_decide_eq_true hb;have:=hp.1.2 (.inr hk);omega⟩
theorem Rk {S:Nat→R ai}:∀(ks:List ai) (acc:List ai) (i m:Nat),(∀x∈ks,∀i,eg X i (tk x)→I7 X (i+(tk x).length)→S i=.ok x (i+(tk x).length))→0<acc.length→eg X i (more tk ks++[ByteArray.mk #[41]])→ks.length<m→jU X S m i acc=.ok (acc++ks) (i+(more tk ks).length)
 | ks,acc,i,0,_,_,_,h=>by omega
 | [],acc,i,m+1,_,_,h,_=>by
  unfold jU
  rw[if_pos (p5 (eg.hd h)),bL];rfl
 | x::r,acc,i,m+1,hS,ha,h,hm=>by
  have e:more tk (x::r)=ByteArray.mk #[44]::(tk x++more tk r):=by unfold more;simp
  rw[e] at h⊢
  have hd:=eg.hd h
  have h1:eg X (i+1) (tk x++(more tk r++[ByteArray.mk #[41]])):=by rw[bd,aA] at h;exact eg.tl h
  have h2:=h1.right
  have hf:I7 X (i+1+(tk x).length):=by
   cases r with
   | nil=>exact s9 (eg.hd h2) (.inl rfl)
   | cons y r=>
    have e2:more tk (y::r)=ByteArray.mk #[44]::(tk y++more tk r):=by unfold more;simp
    rw[e2] at h2
    exact s9 (eg.hd h2) (.inr (.inl rfl))
  have hs:=hS x au (i+1) h1.left hf
  have ih:=Rk r (acc++[x]) (i+1+(tk x).length) m (fun y hy=>hS y (ap _ hy)) (by simp) h2 (by simp only[aZ] at hm;omega)
  unfold jU
  rw[oJ hd (kC (by decide)),if_neg (by decide),if_pos ha,il hd]
  show(S (i+1)).bind _=_
  rw[hs]
  show jU X S m _ (acc++[x])=_
  rw[ih,aA]
  simp only[aZ,ak]
  congr 1;omega
theorem NR {S:Nat→R ai}{ks:List ai}{i:Nat}(hS:∀x∈ks,∀i,eg X i (tk x)→I7 X (i+(tk x).length)→S i=.ok x (i+(tk x).length)) (hh:∀x∈ks,∃s r,tk x=s::r∧s≠ByteArray.mk #[41]) (h:eg X i (tok (fq [w [44],sp] (ks.map it))++[ByteArray.mk #[41]])):
  jU X S (X.L.length-i+1) i []=.ok ks (i+(tok (fq [w [44],sp] (ks.map it))).length):=by
 cases ks with
 | nil=>
  unfold jU
  rw[if_pos (p5 (eg.hd h))];rfl
 | cons x r=>
  rw[Bf] at h⊢
  have h:eg X i (tk x++more tk r++[ByteArray.mk #[41]]):=h
  show _=R.ok _ (i+(tk x++more tk r).length)
  have hlt:=h.lt (by decide)
  rw[aA] at h
  have hml:=BK tk r
  rw[ak] at hlt
  obtain⟨s,q,e,hne⟩:=hh x au
  have hd:X.tx i=s:=by have h2:=h.left;rw[e] at h2;exact h2.hd
  have hql:0<(tk x).length:=by rw[e];simp
  have h2:=h.right
  have hf:I7 X (i+(tk x).length):=by
   cases r with
   | nil=>exact s9 (eg.hd h2) (.inl rfl)
   | cons y r=>
    have e2:more tk (y::r)=ByteArray.mk #[44]::(tk y++more tk r):=by unfold more;simp
    rw[e2] at h2
    exact s9 (eg.hd h2) (.inr (.inl rfl))
  have hs:=hS x au i h.left hf
  have ih:=Rk (X:=X) (S:=S) r [x] (i+(tk x).length) (X.L.length-i) (fun y hy=>hS y (ap _ hy)) (by simp) h2 (by omega)
  unfold jU
  rw[oJ hd hne,if_neg (by decide),if_neg (by simp)]
  show(S i).bind _=_
  rw[hs]
  show jU X S _ _ ([]++[x])=_
  rw[cX,ih,ak,nR];rfl
end Go.DN
