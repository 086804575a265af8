/-
  Text: tokens: the plain law: the reference's numbers.
-/
import Derived.Test.YtaobkpnecfcefaaDoorUpB
set_option linter.unusedVariables false
set_option linter.unusedSimpArgs false
namespace Go.DN
open Go.AM
theorem list_get {s:ByteArray}{i:Nat}{c:UInt8}{r:List UInt8}(h:s.data.toList.drop i=c::r):i<s.size∧bidx s (i:Int)=some c∧s.data.toList.drop (i+1)=r:=by
 have hi:i<s.data.toList.length:=by
  rcases Nat.lt_or_ge i s.data.toList.length with h1 | h1
  ·exact h1
  ·rw[List.drop_eq_nil_of_le h1] at h;cases h
 have hs:i<s.size:=by simpa using hi
 rw[List.drop_eq_getElem_cons hi] at h
 have h1:=(List.cons.inj h).1
 refine⟨hs,?_,(List.cons.inj h).2⟩
 obtain⟨x,h2,h3⟩:=bidx_lt (l:=s) (i:=(i:Int)) (by omega) (by omega)
 rw[h2]
 have h3:s[i]?=some x:=by simpa using h3
 have h4:s[i]?=some s[i]:=getElem?_pos ..
 rw[h4] at h3
 have h5:s[i]=x:=Option.some.inj h3
 rw[←h5,←h1]
 rfl
theorem size_drop {s:ByteArray}{i:Nat}(hi:i≤s.size) (h:s.data.toList.drop i=[]):i=s.size:=by
 have:=congrArg List.length h
 simp at this
 have e:s.data.size=s.size:=rfl
 omega
theorem value_step (n d:Nat) (hd:d≤9) (hn:n≤Big):decide ((n:Int)>IntKind.wrap .i64 (Int.tdiv (IntKind.wrap .i64 (9223372036854775807-(d:Int))) 10))=decide (Big<n*10+d):=by
 have hB:=Big_eq
 rw[i64 (n:=9223372036854775807-(d:Int)) (by omega) (by omega)]
 have h0:(0:Int)≤9223372036854775807-(d:Int):=by omega
 rw[Int.tdiv_eq_ediv_of_nonneg h0]
 rw[i64 (n:=(9223372036854775807-(d:Int))/10) (by omega) (by omega)]
 by_cases h:Big<n*10+d
 ·rw[decide_eq_true h];exact decide_eq_true (by omega)
 ·rw[decide_eq_false h];exact decide_eq_false (by omega)
theorem value_loop {s:ByteArray}(hs:s.size≤Mx) (f0:Nat):∀(r:List UInt8) (i fu n:Nat),s.data.toList.drop i=r→r.all D8=true→r.length<fu→i≤s.size→n≤Big→
  loopF (F.adjointref3_Value_l1 f0 s) fu ((0:Int),false,(n:Int),(i:Int))=some (if Big<vl n r then .ret ((0:Int),false) else .brk (vl n r:Int)):=by
 intro r
 induction r with
 | nil=>
  intro i fu n hr hd hf hi hn
  obtain⟨f,rfl⟩:∃f,fu=f+1:=⟨fu-1,by simp at hf;omega⟩
  have:=size_drop hi hr
  subst this
  have hdc:decide ((s.size:Int)<(s.size:Int))=false:=by simp
  rw[show vl n []=n from rfl,if_neg (Nat.not_lt.2 hn)]
  simp only[loopF,F.adjointref3_Value_l1]
  simp only[hdc,cond_false]
 | cons c r ih=>
  intro i fu n hr hd hf hi hn
  obtain⟨f,rfl⟩:∃f,fu=f+1:=⟨fu-1,by simp at hf;omega⟩
  obtain⟨h1,h2,h3⟩:=list_get hr
  simp only[List.all_cons,Bool.and_eq_true] at hd
  have hc:=D8_iff.1 hd.1
  have hdc:decide ((i:Int)<(s.size:Int))=true:=by simp;omega
  have e1:IntKind.wrap .i64 (IntKind.wrap .u8 (((c.toNat:Nat):Int)-48))=((c.toNat-48:Nat):Int):=by
   have:IntKind.wrap .u8 (((c.toNat:Nat):Int)-48)=((c.toNat-48:Nat):Int):=by
    rw[IntKind.wrap_u8];omega
   rw[this,i64 (by omega) (by omega)]
  have e2:=value_step n (c.toNat-48) (by omega) hn
  have e3:vl n (c::r)=vl (n*10+(c.toNat-48)) r:=rfl
  have hch:chk ((10:Nat)≠0)=some ():=chk_pos (by decide)
  have hB:=Big_eq
  simp only[loopF,F.adjointref3_Value_l1]
  simp only[hdc,cond_true,h2,Option.bind_some,e1,e2,hch]
  rw[e3]
  by_cases hb:Big<n*10+(c.toNat-48)
  ·rw[decide_eq_true hb]
   have:=vl_ge r (n*10+(c.toNat-48))
   simp only[cond_true]
   rw[if_pos (show Big<vl (n*10+(c.toNat-48)) r from by have:=Big_eq;omega)]
  ·rw[decide_eq_false hb]
   simp only[cond_false]
   rw[i64 (n:=(n:Int)*10) (by omega) (by omega),wr h1 hs]
   have e4:IntKind.wrap .i64 ((n:Int)*10+((c.toNat-48:Nat):Int))=((n*10+(c.toNat-48):Nat):Int):=by
    rw[i64 (by omega) (by omega)];omega
   rw[e4]
   exact ih (i+1) f _ h3 hd.2 (by simp at hf;omega) (by omega) (by omega)
theorem value_ok {s:ByteArray}(hs:s.size≤Mx){fu:Nat}(hf:s.size<fu) (hd:s.data.toList.all D8=true):
  ∃v,F.adjointref3_Value fu s=some (v,!decide (Big<vl 0 s.data.toList)):=by
 unfold F.adjointref3_Value
 have h:=value_loop hs fu s.data.toList 0 fu 0 (by simp) hd (by simpa using hf) (by omega) (by omega)
 rw[show(((0:Nat)):Int)=0 from rfl] at h
 rw[h]
 by_cases hb:Big<vl 0 s.data.toList
 ·rw[if_pos hb,decide_eq_true hb];exact⟨0,rfl⟩
 ·rw[if_neg hb,decide_eq_false hb];exact⟨_,rfl⟩
theorem all_D8 {s:ByteArray}(h:allB isD s=true):s.data.toList.all D8=true:=by
 rw[List.all_eq_true]
 intro c hc
 obtain⟨i,hi,rfl⟩:=List.getElem_of_mem hc
 have hs:i<s.size:=by simpa using hi
 have:=allB_iff.1 h i hs
 unfold ch at this
 have h4:s[i]?=some s[i]:=getElem?_pos ..
 rw[h4] at this
 exact this
def numl (s:ByteArray):Bool:=allB isD s&&(decide (s.size=1)||!decide (ch s 0=48))
theorem numeral_ok {s:ByteArray}(hs:s.size≤Mx) (h0:0<s.size){fu:Nat}(hf:s.size<fu):F.adjointref3_numeral fu s=some (numl s):=by
 unfold F.adjointref3_numeral
 have h:=all_loop hs (p:=isD) (body:=F.adjointref3_numeral_l1 fu s) (fun i=>(false,(i:Int))) (Ex.ret false) (Ex.brk ()) (fun i hi=>by
  obtain⟨c,h1,h2⟩:=ch_get hi
  have hdc:decide ((i:Int)<(s.size:Int))=true:=by simp;omega
  simp only[F.adjointref3_numeral_l1,hdc,cond_true,h1,Option.bind_some,isDigit_ok,h2]
  rw[wr hi hs]
  cases isD (ch s i) <;> simp) (by simp[F.adjointref3_numeral_l1]) fu 0 (by omega) (by omega) (fun k hk=>by omega)
 have h:loopF (F.adjointref3_numeral_l1 fu s) fu (false,0)=_:=h
 rw[h]
 unfold numl
 obtain⟨c,h1,h2⟩:=ch_get h0
 have h1:bidx s 0=some c:=h1
 cases ha:allB isD s with
 | false=>simp[bindE]
 | true=>
  have e1:((s.size:Int)==1)=decide (s.size=1):=nat_beq s.size 1
  have e2:(((c.toNat:Nat):Int) !=48)=!decide (ch s 0=48):=by rw[←h2];exact congrArg not (nat_beq c.toNat 48)
  simp only[if_true,bindE,e1,h1,Option.bind_some,e2,Bool.true_and]
  cases decide (s.size=1) <;> simp
end Go.DN
