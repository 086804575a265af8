import Derived.Test.YtaobkpnecfcefaaDoorUpA
/-
  Text, reading: what stands at a place of the tokens; names, numbers; the reader's small steps.
-/
set_option linter.unusedVariables false
set_option linter.unusedSimpArgs false
namespace Go.DN
open Go.AM
theorem ue (a:ByteArray):a.toList=a.data.toList:=by simp[ByteArray.toList_eq]
theorem gz {a b:ByteArray}(h:(a.toList==b.toList)=true):a=b:=by
 rw[ue,ue] at h
 have h:=eq_of_beq h
 cases a with
 | mk x=>cases b with
  | mk y=>simp at h;rw[h]
theorem NG (a:Array UInt8):(ByteArray.mk a).toList=a.toList:=by rw[ue]
theorem oN {s:ByteArray}:(s.toList==(ByteArray.mk #[]).toList)=decide (s.size=0):=by
 rw[ue,NG]
 have:s.size=s.data.toList.length:=(Array.length_toList (xs:=s.data)).symm
 rw[this]
 cases s.data.toList with
 | nil=>rfl
 | cons x r=>simp
structure GC (t:ah):Prop where
 ne:0<t.Text.size
 le:t.Text.size≤Mx
 num:kq (ch t.Text 0)=true→t.Text.data.toList.all D8=true∧vl 0 t.Text.data.toList≤wc
structure jk where
 L:List ah
 en:Int
 ok:∀t∈L,GC t
 sz:L.length≤Mx
variable (X:jk)
def jk.tx (i:Nat):ByteArray:=match X.L[i]? with
 | some t=>t.Text
 | none=>ByteArray.mk #[]
def jk.at_ (i:Nat):Int:=match X.L[i]? with
 | some t=>t.At
 | none=>X.en
def jk.is (i:Nat) (w:ByteArray):Bool:=(X.tx i).toList==w.toList
variable {X}
theorem nb {i:Nat}(h:0<(X.tx i).size):i<X.L.length:=by
 unfold jk.tx at h
 cases hx:X.L[i]? with
 | none=>rw[hx] at h;exact absurd h (by decide)
 | some t=>exact nH hx
theorem Q7 (i:Nat):(X.tx i).size≤Mx:=by
 unfold jk.tx
 cases hx:X.L[i]? with
 | none=>exact cv _
 | some t=>exact(X.ok t (aL hx)).le
theorem is_lt {i:Nat}{w:ByteArray}(hw:0<w.size) (h:X.is i w=true):i<X.L.length:=by
 have:=gz h
 exact nb (by rw[this];exact hw)
theorem Tj {i:Nat}(h0:0<(X.tx i).size) (h:kq (ch (X.tx i) 0)=true):(X.tx i).data.toList.all D8=true∧vl 0 (X.tx i).data.toList≤wc:=by
 unfold jk.tx at h h0⊢
 cases hx:X.L[i]? with
 | none=>rw[hx] at h0;exact absurd h0 (by decide)
 | some t=>rw[hx] at h;exact(X.ok t (aL hx)).num h
theorem DA (i:Nat):(X.L[i]?=none∧X.L.drop i=[])∨∃t,X.L[i]?=some t∧X.L.drop i=t::X.L.drop (i+1):=by
 by_cases h:i<X.L.length
 ·exact .inr ⟨X.L[i],by simp[h],(fc h)⟩
 ·exact .inl ⟨by simp;omega,by simp;omega⟩
theorem qm (fu i:Nat) (e d:Int):F.dy fu (⟨X.L.drop i,e,d⟩:dR)=some (X.tx i):=by
 unfold F.dy jk.tx
 rcases DA (X:=X) i with ⟨h1,h2⟩ | ⟨t,h1,h2⟩
 ·simp only[h1,h2];rfl
 ·have:(((t::X.L.drop (i+1)).length:Int)==0)=false:=by simp;omega
  simp only[h1,h2,this,cond_false]
  rfl
theorem AJ (fu i:Nat) (d:Int):F.gB fu (⟨X.L.drop i,X.en,d⟩:dR)=some (X.at_ i):=by
 unfold F.gB jk.at_
 rcases DA (X:=X) i with ⟨h1,h2⟩ | ⟨t,h1,h2⟩
 ·simp only[h1,h2];rfl
 ·have:(((t::X.L.drop (i+1)).length:Int)==0)=false:=by simp;omega
  simp only[h1,h2,this,cond_false]
  rfl
theorem JB {i:Nat}(h:i<X.L.length):dA ((0:Int)≤1∧1≤((X.L.drop i).length:Int))=some ()∧jm (X.L.drop i) 1 ((X.L.drop i).length:Int)=X.L.drop (i+1):=by
 have hl:(X.L.drop i).length=X.L.length-i:=by simp
 refine⟨lN ⟨by decide,by rw[hl];omega⟩,?_⟩
 unfold jm
 have e1:(1:Int).toNat=1:=rfl
 have e2:(((X.L.drop i).length:Nat):Int).toNat=(X.L.drop i).length:=by simp
 rw[e1,e2,List.drop_drop]
 exact di (by simp;omega)
theorem tX (fu i:Nat) (d:Int){w:ByteArray}(hw:0<w.size):F.eU fu w (X.L.drop i) X.en d=some (X.is i w,X.L.drop (if X.is i w=true then i+1 else i),X.en,d):=by
 unfold F.eU
 rw[qm]
 simp only[aa]
 show cond (!(X.is i w)) _ _=_
 cases h:X.is i w with
 | false=>rfl
 | true=>
  obtain⟨h1,h2⟩:=JB (is_lt hw h)
  simp only[de,cond_false,h1,aa,h2,if_true]
inductive R (α:Type) where
 | ok (a:α) (i:Nat)
 | bad (e p:Int)
def R.bind {α β:Type}:R α→(α→Nat→R β)→R β
 | .ok a i,f=>f a i
 | .bad e p,_=>.bad e p
abbrev Rd (α:Type):=Option ((α×(List ah)×Int×Int)⊕((Int×Int)×((List ah)×Int×Int)))
abbrev V6:=Option (((List ah)×Int×Int)⊕((Int×Int)×((List ah)×Int×Int)))
variable (X)
def Pr {α:Type}(d:Int) (r:R α) (o:Rd α):Prop:=match r with
 | .ok a i=>i≤X.L.length∧o=some (.inl (a,X.L.drop i,X.en,d))
 | .bad e p=>e≠0∧∃l,o=some (.inr ((e,p),(l,X.en,d)))
def V7 (d:Int) (r:R Unit) (o:V6):Prop:=match r with
 | .ok _ i=>i≤X.L.length∧o=some (.inl (X.L.drop i,X.en,d))
 | .bad e p=>e≠0∧∃l,o=some (.inr ((e,p),(l,X.en,d)))
def cg (w:ByteArray) (i:Nat):R Unit:=if X.is i w=true then .ok () (i+1) else .bad 7 (X.at_ i)
variable {X}
theorem iv (fu i:Nat) (d:Int){w:ByteArray}(hw:0<w.size):V7 X d (cg X w i) (F.bF fu w (X.L.drop i) X.en d):=by
 unfold F.bF cg
 rw[tX fu i d hw]
 cases h:X.is i w with
 | false=>
  simp only[aa,eo,cond_true]
  rw[if_neg (by decide),if_neg (by decide),AJ]
  exact⟨by decide,_,rfl⟩
 | true=>
  simp only[aa,de,cond_false,if_true]
  exact⟨is_lt hw h,rfl⟩
def kw (s:ByteArray):Bool:=s.toList==(ByteArray.mk #[102,110]).toList||(s.toList==(ByteArray.mk #[108,101,116]).toList||(s.toList==(ByteArray.mk #[105,110]).toList||(s.toList==(ByteArray.mk #[114,101,112,101,97,116]).toList||s.toList==(ByteArray.mk #[119,105,116,104]).toList)))
def nm (s:ByteArray):Bool:=!(decide (s.size=0))&&(pJ (ch s 0)&&(!(kw s)&&nw cO s))
theorem C9 (fu:Nat) (s:ByteArray):F.qI fu s=some (kw s):=by
 unfold F.qI kw
 generalize (s.toList==(ByteArray.mk #[102,110]).toList)=a
 generalize (s.toList==(ByteArray.mk #[108,101,116]).toList)=b
 generalize (s.toList==(ByteArray.mk #[105,110]).toList)=c
 generalize (s.toList==(ByteArray.mk #[114,101,112,101,97,116]).toList)=x
 generalize (s.toList==(ByteArray.mk #[119,105,116,104]).toList)=y
 cases a <;> cases b <;> cases c <;> cases x <;> cases y <;> rfl
theorem HA {s:ByteArray}(hs:s.size≤Mx){fu:Nat}(hf:s.size<fu):F.jF fu s=some (nm s):=by
 unfold F.jF nm
 rw[oN]
 by_cases h0:s.size=0
 ·simp only[h0,decide_true,cond_true,aa,de,Bool.false_and]
 ·obtain⟨c,h1,h2⟩:=nM (s:=s) (i:=0) (by omega)
  have h1:lF s 0=some c:=h1
  have hd:decide (s.size=0)=false:=decide_eq_false h0
  have h:=Cg hs (p:=cO) (body:=F.eL fu s) (fun i=>(false,(i:Int))) (Ex.ret false) (Ex.cD ()) (fun i hi=>by
   obtain⟨c,h1,h2⟩:=nM hi
   have hdc:decide ((i:Int)<(s.size:Int))=true:=by simp;omega
   simp only[F.eL,hdc,cond_true,h1,aa,oH,p9,h2]
   rw[wr hi hs]
   unfold cO
   cases pJ (ch s i) <;> cases kq (ch s i) <;> simp) (by simp[F.eL]) fu 0 (by omega) (by omega) (fun k hk=>by omega)
  have h:aX (F.eL fu s) fu (false,0)=_:=h
  simp only[hd,cond_false,h1,aa,oH,h2,C9,h,eo,iL]
  cases pJ (ch s 0) <;> cases kw s <;> cases nw cO s <;> rfl
def num (s:ByteArray):Bool:=!(decide (s.size=0))&&kq (ch s 0)
def val (s:ByteArray):Int:=(vl 0 s.data.toList:Nat)
theorem s7 {s:ByteArray}(h:num s=true):0<s.size∧kq (ch s 0)=true:=by
 unfold num at h
 simp only[ag,a7,decide_eq_false_iff_not] at h
 exact⟨by omega,h.2⟩
theorem wm (fu i:Nat) (e d:Int):F.gA fu (⟨X.L.drop i,e,d⟩:dR)=some (num (X.tx i)):=by
 unfold F.gA num
 simp only[qm,aa]
 rw[oN]
 by_cases h0:(X.tx i).size=0
 ·simp only[h0,decide_true,de,cond_false,aa,Bool.false_and]
 ·obtain⟨c,h1,h2⟩:=nM (s:=X.tx i) (i:=0) (by omega)
  have h1:lF (X.tx i) 0=some c:=h1
  have hd:decide ((X.tx i).size=0)=false:=decide_eq_false h0
  simp only[hd,eo,cond_true,h1,aa,p9,h2,iL]
theorem Nt {s:ByteArray}(hs:s.size≤Mx) (h0:0<s.size) (hd:s.data.toList.all D8=true) (hb:vl 0 s.data.toList≤wc):pB s 10 64=some (val s,false):=by
 unfold pB val
 rw[lN ⟨rfl,rfl,hs⟩,aa]
 have hn:=Nz h0
 generalize s.data.toList=l at hd hn hb
 cases l with
 | nil=>exact absurd rfl hn
 | cons c r=>
  have hc:48≤c.toNat∧c.toNat≤57:=by
   simp only[fC,ag] at hd
   exact Ab.1 hd.1
  rw[Lib.parseIntB_plain 64 c r (by omega) (by omega)]
  have e:Lib.parseUintB 64 (c::r)=Lib.parseUintM (2^64-1) 0 (c::r):=by
   unfold Lib.parseUintB;rw[if_neg (by simp)]
  rw[e,pk (by decide) _ _ hd (cv _)]
  generalize vl 0 (c::r)=v at hb
  have h63:(2:Nat)^(64-1)=9223372036854775808:=by decide
  rw[h63,if_pos (by have:=xj;omega)]
  have e1:Lib.signlessC 9223372036854775808 (.ok v)=.ok (v:Int):=by simp only[Lib.signlessC];rw[if_neg (by have:=xj;omega)]
  rw[e1]
variable (X)
def jT (i:Nat):R ByteArray:=if nm (X.tx i)=true then .ok (X.tx i) (i+1) else .bad 7 (X.at_ i)
def mJ (i:Nat):R Int:=if num (X.tx i)=true then .ok (val (X.tx i)) (i+1) else .bad 7 (X.at_ i)
variable {X}
theorem JA (fu i:Nat) (d:Int) (h0:0<(X.tx i).size):F.lh fu (X.L.drop i) X.en d=some (.inl (X.tx i,X.L.drop (i+1),X.en,d)):=by
 unfold F.lh
 rw[qm,aa,oN]
 obtain⟨h1,h2⟩:=JB (nb h0)
 have hd:decide ((X.tx i).size=0)=false:=decide_eq_false (by omega)
 simp only[hd,cond_false,h1,aa,h2]
theorem CS {s:ByteArray}(h:nm s=true):0<s.size:=by
 unfold nm at h
 simp only[ag,a7,decide_eq_false_iff_not] at h
 omega
theorem uo {fu:Nat}(hf:Mx<fu) (i:Nat) (d:Int):Pr X d (jT X i) (F.ez fu (X.L.drop i) X.en d):=by
 unfold F.ez jT
 have hs:=Q7 (X:=X) i
 rw[qm,aa,HA hs (by omega)]
 cases h:nm (X.tx i) with
 | false=>
  simp only[aa,eo,cond_true]
  rw[if_neg (by decide),AJ]
  exact⟨by decide,_,rfl⟩
 | true=>
  simp only[aa,de,cond_false,if_true]
  rw[JA fu i d (CS h)]
  exact⟨nb (CS h),rfl⟩
theorem vF (fu i:Nat) (d:Int):Pr X d (mJ X i) (F.gb fu (X.L.drop i) X.en d):=by
 unfold F.gb mJ
 rw[wm,aa]
 cases h:num (X.tx i) with
 | false=>
  simp only[eo,cond_true]
  rw[if_neg (by decide),AJ]
  exact⟨by decide,_,rfl⟩
 | true=>
  obtain⟨h0,h1⟩:=s7 h
  obtain⟨h2,h3⟩:=Tj h0 h1
  simp only[de,cond_false,if_true]
  rw[JA fu i d h0]
  simp only[aD,aa,Nt (Q7 i) h0 h2 h3]
  exact⟨nb h0,rfl⟩
end Go.DN
