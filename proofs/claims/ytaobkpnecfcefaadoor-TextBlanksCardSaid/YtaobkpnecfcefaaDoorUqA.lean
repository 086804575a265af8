/-
  Text, reading: what stands at a place of the tokens; names, numbers; the reader's small steps.
-/
import Derived.Test.YtaobkpnecfcefaaDoorUpE
set_option linter.unusedVariables false
set_option linter.unusedSimpArgs false
namespace Go.DN
open Go.AM
theorem toListD (a:ByteArray):a.toList=a.data.toList:=by simp[ByteArray.toList_eq]
theorem toList_ext {a b:ByteArray}(h:(a.toList==b.toList)=true):a=b:=by
 rw[toListD,toListD] at h
 have h:=eq_of_beq h
 cases a with
 | mk x=>cases b with
  | mk y=>simp at h;rw[h]
theorem mkL (a:Array UInt8):(ByteArray.mk a).toList=a.toList:=by rw[toListD]
theorem empty_iff {s:ByteArray}:(s.toList==(ByteArray.mk #[]).toList)=decide (s.size=0):=by
 rw[toListD,mkL]
 have:s.size=s.data.toList.length:=(Array.length_toList (xs:=s.data)).symm
 rw[this]
 cases s.data.toList with
 | nil=>rfl
 | cons x r=>simp
structure TokOk (t:SToken):Prop where
 ne:0<t.Text.size
 le:t.Text.size≤Mx
 num:isD (ch t.Text 0)=true→t.Text.data.toList.all D8=true∧vl 0 t.Text.data.toList≤Big
structure Toks where
 L:List SToken
 en:Int
 ok:∀t∈L,TokOk t
 sz:L.length≤Mx
variable (X:Toks)
def Toks.tx (i:Nat):ByteArray:=match X.L[i]? with
 | some t=>t.Text
 | none=>ByteArray.mk #[]
def Toks.at_ (i:Nat):Int:=match X.L[i]? with
 | some t=>t.At
 | none=>X.en
def Toks.is (i:Nat) (w:ByteArray):Bool:=(X.tx i).toList==w.toList
variable {X}
theorem tx_lt {i:Nat}(h:0<(X.tx i).size):i<X.L.length:=by
 unfold Toks.tx at h
 cases hx:X.L[i]? with
 | none=>rw[hx] at h;exact absurd h (by decide)
 | some t=>exact get_lt hx
theorem tx_sz (i:Nat):(X.tx i).size≤Mx:=by
 unfold Toks.tx
 cases hx:X.L[i]? with
 | none=>exact Nat.zero_le _
 | some t=>exact(X.ok t (List.mem_of_getElem? hx)).le
theorem is_lt {i:Nat}{w:ByteArray}(hw:0<w.size) (h:X.is i w=true):i<X.L.length:=by
 have:=toList_ext h
 exact tx_lt (by rw[this];exact hw)
theorem tx_num {i:Nat}(h0:0<(X.tx i).size) (h:isD (ch (X.tx i) 0)=true):(X.tx i).data.toList.all D8=true∧vl 0 (X.tx i).data.toList≤Big:=by
 unfold Toks.tx at h h0⊢
 cases hx:X.L[i]? with
 | none=>rw[hx] at h0;exact absurd h0 (by decide)
 | some t=>rw[hx] at h;exact(X.ok t (List.mem_of_getElem? hx)).num h
theorem drop_cases (i:Nat):(X.L[i]?=none∧X.L.drop i=[])∨∃t,X.L[i]?=some t∧X.L.drop i=t::X.L.drop (i+1):=by
 by_cases h:i<X.L.length
 ·exact .inr ⟨X.L[i],by simp[h],(List.drop_eq_getElem_cons h)⟩
 ·exact .inl ⟨by simp;omega,by simp;omega⟩
theorem peek_ok (fu i:Nat) (e d:Int):F.text_reader_peek fu (⟨X.L.drop i,e,d⟩:Sreader)=some (X.tx i):=by
 unfold F.text_reader_peek Toks.tx
 rcases drop_cases (X:=X) i with ⟨h1,h2⟩ | ⟨t,h1,h2⟩
 ·simp only[h1,h2];rfl
 ·have:(((t::X.L.drop (i+1)).length:Int)==0)=false:=by simp;omega
  simp only[h1,h2,this,cond_false]
  rfl
theorem at_ok (fu i:Nat) (d:Int):F.text_reader_at fu (⟨X.L.drop i,X.en,d⟩:Sreader)=some (X.at_ i):=by
 unfold F.text_reader_at Toks.at_
 rcases drop_cases (X:=X) i with ⟨h1,h2⟩ | ⟨t,h1,h2⟩
 ·simp only[h1,h2];rfl
 ·have:(((t::X.L.drop (i+1)).length:Int)==0)=false:=by simp;omega
  simp only[h1,h2,this,cond_false]
  rfl
theorem tail_ok {i:Nat}(h:i<X.L.length):chk ((0:Int)≤1∧1≤((X.L.drop i).length:Int))=some ()∧lpart (X.L.drop i) 1 ((X.L.drop i).length:Int)=X.L.drop (i+1):=by
 have hl:(X.L.drop i).length=X.L.length-i:=by simp
 refine⟨chk_pos ⟨by decide,by rw[hl];omega⟩,?_⟩
 unfold lpart
 have e1:(1:Int).toNat=1:=rfl
 have e2:(((X.L.drop i).length:Nat):Int).toNat=(X.L.drop i).length:=by simp
 rw[e1,e2,List.drop_drop]
 exact List.take_of_length_le (by simp;omega)
theorem is_ok (fu i:Nat) (d:Int){w:ByteArray}(hw:0<w.size):F.text_reader_is fu w (X.L.drop i) X.en d=some (X.is i w,X.L.drop (if X.is i w=true then i+1 else i),X.en,d):=by
 unfold F.text_reader_is
 rw[peek_ok]
 simp only[Option.bind_some]
 show cond (!(X.is i w)) _ _=_
 cases h:X.is i w with
 | false=>rfl
 | true=>
  obtain⟨h1,h2⟩:=tail_ok (is_lt hw h)
  simp only[Bool.not_true,cond_false,h1,Option.bind_some,h2,if_true]
inductive R (α:Type) where
 | ok (a:α) (i:Nat)
 | bad (e p:Int)
def R.bind {α β:Type}:R α→(α→Nat→R β)→R β
 | .ok a i,f=>f a i
 | .bad e p,_=>.bad e p
abbrev Rd (α:Type):=Option ((α×(List SToken)×Int×Int)⊕((Int×Int)×((List SToken)×Int×Int)))
abbrev Rd0:=Option (((List SToken)×Int×Int)⊕((Int×Int)×((List SToken)×Int×Int)))
variable (X)
def Pr {α:Type}(d:Int) (r:R α) (o:Rd α):Prop:=match r with
 | .ok a i=>i≤X.L.length∧o=some (.inl (a,X.L.drop i,X.en,d))
 | .bad e p=>e≠0∧∃l,o=some (.inr ((e,p),(l,X.en,d)))
def Pr0 (d:Int) (r:R Unit) (o:Rd0):Prop:=match r with
 | .ok _ i=>i≤X.L.length∧o=some (.inl (X.L.drop i,X.en,d))
 | .bad e p=>e≠0∧∃l,o=some (.inr ((e,p),(l,X.en,d)))
def pMust (w:ByteArray) (i:Nat):R Unit:=if X.is i w=true then .ok () (i+1) else .bad 7 (X.at_ i)
variable {X}
theorem must_ok (fu i:Nat) (d:Int){w:ByteArray}(hw:0<w.size):Pr0 X d (pMust X w i) (F.text_reader_must fu w (X.L.drop i) X.en d):=by
 unfold F.text_reader_must pMust
 rw[is_ok fu i d hw]
 cases h:X.is i w with
 | false=>
  simp only[Option.bind_some,Bool.not_false,cond_true]
  rw[if_neg (by decide),if_neg (by decide),at_ok]
  exact⟨by decide,_,rfl⟩
 | true=>
  simp only[Option.bind_some,Bool.not_true,cond_false,if_true]
  exact⟨is_lt hw h,rfl⟩
def kw (s:ByteArray):Bool:=s.toList==(ByteArray.mk #[102,110]).toList||(s.toList==(ByteArray.mk #[108,101,116]).toList||(s.toList==(ByteArray.mk #[105,110]).toList||(s.toList==(ByteArray.mk #[114,101,112,101,97,116]).toList||s.toList==(ByteArray.mk #[119,105,116,104]).toList)))
def nm (s:ByteArray):Bool:=!(decide (s.size=0))&&(isL (ch s 0)&&(!(kw s)&&allB isLD s))
theorem keyword_ok (fu:Nat) (s:ByteArray):F.text_keyword fu s=some (kw s):=by
 unfold F.text_keyword kw
 generalize (s.toList==(ByteArray.mk #[102,110]).toList)=a
 generalize (s.toList==(ByteArray.mk #[108,101,116]).toList)=b
 generalize (s.toList==(ByteArray.mk #[105,110]).toList)=c
 generalize (s.toList==(ByteArray.mk #[114,101,112,101,97,116]).toList)=x
 generalize (s.toList==(ByteArray.mk #[119,105,116,104]).toList)=y
 cases a <;> cases b <;> cases c <;> cases x <;> cases y <;> rfl
theorem plainName_ok {s:ByteArray}(hs:s.size≤Mx){fu:Nat}(hf:s.size<fu):F.text_plainName fu s=some (nm s):=by
 unfold F.text_plainName nm
 rw[empty_iff]
 by_cases h0:s.size=0
 ·simp only[h0,decide_true,cond_true,Option.bind_some,Bool.not_true,Bool.false_and]
 ·obtain⟨c,h1,h2⟩:=ch_get (s:=s) (i:=0) (by omega)
  have h1:bidx s 0=some c:=h1
  have hd:decide (s.size=0)=false:=decide_eq_false h0
  have h:=all_loop hs (p:=isLD) (body:=F.text_plainName_l1 fu s) (fun i=>(false,(i:Int))) (Ex.ret false) (Ex.brk ()) (fun i hi=>by
   obtain⟨c,h1,h2⟩:=ch_get hi
   have hdc:decide ((i:Int)<(s.size:Int))=true:=by simp;omega
   simp only[F.text_plainName_l1,hdc,cond_true,h1,Option.bind_some,letter_ok,digit_ok,h2]
   rw[wr hi hs]
   unfold isLD
   cases isL (ch s i) <;> cases isD (ch s i) <;> simp) (by simp[F.text_plainName_l1]) fu 0 (by omega) (by omega) (fun k hk=>by omega)
  have h:loopF (F.text_plainName_l1 fu s) fu (false,0)=_:=h
  simp only[hd,cond_false,h1,Option.bind_some,letter_ok,h2,keyword_ok,h,Bool.not_false,Bool.true_and]
  cases isL (ch s 0) <;> cases kw s <;> cases allB isLD s <;> rfl
def num (s:ByteArray):Bool:=!(decide (s.size=0))&&isD (ch s 0)
def val (s:ByteArray):Int:=(vl 0 s.data.toList:Nat)
theorem num_ne {s:ByteArray}(h:num s=true):0<s.size∧isD (ch s 0)=true:=by
 unfold num at h
 simp only[Bool.and_eq_true,Bool.not_eq_true',decide_eq_false_iff_not] at h
 exact⟨by omega,h.2⟩
theorem isNumber_ok (fu i:Nat) (e d:Int):F.text_reader_isNumber fu (⟨X.L.drop i,e,d⟩:Sreader)=some (num (X.tx i)):=by
 unfold F.text_reader_isNumber num
 simp only[peek_ok,Option.bind_some]
 rw[empty_iff]
 by_cases h0:(X.tx i).size=0
 ·simp only[h0,decide_true,Bool.not_true,cond_false,Option.bind_some,Bool.false_and]
 ·obtain⟨c,h1,h2⟩:=ch_get (s:=X.tx i) (i:=0) (by omega)
  have h1:bidx (X.tx i) 0=some c:=h1
  have hd:decide ((X.tx i).size=0)=false:=decide_eq_false h0
  simp only[hd,Bool.not_false,cond_true,h1,Option.bind_some,digit_ok,h2,Bool.true_and]
theorem parse_val {s:ByteArray}(hs:s.size≤Mx) (h0:0<s.size) (hd:s.data.toList.all D8=true) (hb:vl 0 s.data.toList≤Big):parseI s 10 64=some (val s,false):=by
 unfold parseI val
 rw[chk_pos ⟨rfl,rfl,hs⟩,Option.bind_some]
 have hn:=nonnil h0
 generalize s.data.toList=l at hd hn hb
 cases l with
 | nil=>exact absurd rfl hn
 | cons c r=>
  have hc:48≤c.toNat∧c.toNat≤57:=by
   simp only[List.all_cons,Bool.and_eq_true] at hd
   exact D8_iff.1 hd.1
  rw[Lib.parseIntB_plain 64 c r (by omega) (by omega)]
  have e:Lib.parseUintB 64 (c::r)=Lib.parseUintM (2^64-1) 0 (c::r):=by
   unfold Lib.parseUintB;rw[if_neg (by simp)]
  rw[e,parseUintM_digits (by decide) _ _ hd (Nat.zero_le _)]
  generalize vl 0 (c::r)=v at hb
  have h63:(2:Nat)^(64-1)=9223372036854775808:=by decide
  rw[h63,if_pos (by have:=Big_eq;omega)]
  have e1:Lib.signlessC 9223372036854775808 (.ok v)=.ok (v:Int):=by simp only[Lib.signlessC];rw[if_neg (by have:=Big_eq;omega)]
  rw[e1]
variable (X)
def pName (i:Nat):R ByteArray:=if nm (X.tx i)=true then .ok (X.tx i) (i+1) else .bad 7 (X.at_ i)
def pNumber (i:Nat):R Int:=if num (X.tx i)=true then .ok (val (X.tx i)) (i+1) else .bad 7 (X.at_ i)
variable {X}
theorem take_ok (fu i:Nat) (d:Int) (h0:0<(X.tx i).size):F.text_reader_take fu (X.L.drop i) X.en d=some (.inl (X.tx i,X.L.drop (i+1),X.en,d)):=by
 unfold F.text_reader_take
 rw[peek_ok,Option.bind_some,empty_iff]
 obtain⟨h1,h2⟩:=tail_ok (tx_lt h0)
 have hd:decide ((X.tx i).size=0)=false:=decide_eq_false (by omega)
 simp only[hd,cond_false,h1,Option.bind_some,h2]
theorem nm_ne {s:ByteArray}(h:nm s=true):0<s.size:=by
 unfold nm at h
 simp only[Bool.and_eq_true,Bool.not_eq_true',decide_eq_false_iff_not] at h
 omega
theorem name_ok {fu:Nat}(hf:Mx<fu) (i:Nat) (d:Int):Pr X d (pName X i) (F.text_reader_name fu (X.L.drop i) X.en d):=by
 unfold F.text_reader_name pName
 have hs:=tx_sz (X:=X) i
 rw[peek_ok,Option.bind_some,plainName_ok hs (by omega)]
 cases h:nm (X.tx i) with
 | false=>
  simp only[Option.bind_some,Bool.not_false,cond_true]
  rw[if_neg (by decide),at_ok]
  exact⟨by decide,_,rfl⟩
 | true=>
  simp only[Option.bind_some,Bool.not_true,cond_false,if_true]
  rw[take_ok fu i d (nm_ne h)]
  exact⟨tx_lt (nm_ne h),rfl⟩
theorem number_ok (fu i:Nat) (d:Int):Pr X d (pNumber X i) (F.text_reader_number fu (X.L.drop i) X.en d):=by
 unfold F.text_reader_number pNumber
 rw[isNumber_ok,Option.bind_some]
 cases h:num (X.tx i) with
 | false=>
  simp only[Bool.not_false,cond_true]
  rw[if_neg (by decide),at_ok]
  exact⟨by decide,_,rfl⟩
 | true=>
  obtain⟨h0,h1⟩:=num_ne h
  obtain⟨h2,h3⟩:=tx_num h0 h1
  simp only[Bool.not_true,cond_false,if_true]
  rw[take_ok fu i d h0]
  simp only[bindP,Option.bind_some,parse_val (tx_sz i) h0 h2 h3]
  exact⟨tx_lt h0,rfl⟩
end Go.DN
