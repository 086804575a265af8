/-
  Text, printing: the plain law: expressions.
-/
import Derived.Test.YtmhbeopldeccmaaDoorVpE
set_option linter.unusedVariables false
set_option linter.unusedSimpArgs false
namespace Go.DN
open Go.AM
def mL (t:ai) (L:Nat):Nat:=max (dK t) (if t.Kind=4 then L+chain t-1 else 0)
def fP (t:ai) (least L d:Nat):Bool:=if pw t<least then mE t (d+1) else(decide (64<d+levels t-1)||decide (64<mL t L))
abbrev SP:Type:=ai→Int→Int→Bool→Int→Bool→List Int→RS
def CQ (self:SP) (t:ai) (d:Nat):Prop:=∀x∈t.Kids,∀(least L:Nat) (b:Bool) (m:Bool) (l:List Int),1≤least→least≤3→1≤L→L+bD x≤Bd→(64<d→m=true)→l.length+40*bD x+2≤140737488355328→
 ix (right x) d (m||fP x least L d) (l++bw (decide (pw x<least)) (tx x)) (self x least L b d m l)
theorem fD {t:ai}(h:t.Kids.length=2):t.Kids=[k0 t,k1 t]:=by
 unfold k0 k1
 match hk:t.Kids,h with
 | [a,b],_=>rfl
theorem IH (t:ai):pw t≤3:=by
 unfold pw
 split
 ·omega
 ·split
  ·split <;> omega
  ·omega
theorem oi (t:ai):1≤levels t:=by rw[pL];omega
theorem Gt (t:ai):chain t≤dK t:=by rw[qo];omega
theorem Ls {t:ai}(h:t.Kind=4):1≤chain t:=by rw[wM,if_pos h];split <;> omega
theorem wL {t:ai}(h:t.Kind≠4):chain t=0:=by rw[wM,if_neg h]
theorem I3 {t:ai}(h4:t.Kind=4) (h:t.Kids.length=2):levels t=1+max (if pw (k0 t)<pw t then levels (k0 t) else levels (k0 t)-1) (if pw (k1 t)<pw t+1 then levels (k1 t) else levels (k1 t)-1):=by
 rw[pL,fD h]
 have e:∀(k:ai) (j m:Nat),Dl t j k m=if pw k<pw t+j then m else m-1:=by
  intro k j m
  unfold Dl jU
  by_cases hw:pw k<pw t+j
  ·rw[if_neg (by simp[hw]),if_pos hw]
  ·rw[if_pos ⟨h4,by simp[hw]⟩,if_neg hw]
 simp only[az,dE,su,iI,e,fG,cN,Nat.max_zero]
theorem G5 {t:ai}(h:t.Kids.length=2):dK t=max (chain t) (max (dK (k0 t)) (dK (k1 t))):=by
 rw[qo]
 conv=>lhs;rw[fD h]
 simp only[az,dE,iI,Nat.max_zero]
theorem DI {t:ai}(h4:t.Kind=4) (h:t.Kids.length=2):chain t=if pw (k0 t)=pw t then chain (k0 t)+1 else 1:=by
 rw[wM,if_pos h4]
 conv=>lhs;rw[fD h]
 rfl
theorem we (t:ai) (L:Nat):mL t L=max (dK t) (if t.Kind=4 then L+chain t-1 else 0):=rfl
theorem HO {x:ai}{least L d:Nat}(h:pw x<least):fP x least L d=true↔64<d+levels x∨64<dK x:=by
 unfold fP mE
 rw[if_pos h]
 simp only[cf,decide_eq_true_eq]
 have:=oi x
 omega
theorem Lg {x:ai}{least d:Nat}(h:¬pw x<least):fP x least 1 d=true↔64<d+(levels x-1)∨64<dK x:=by
 unfold fP
 rw[if_neg h,we]
 simp only[cf,decide_eq_true_eq]
 have h1:=oi x
 have h2:=Gt x
 split <;> omega
theorem Pp {x:ai}{least L d:Nat}(h:¬pw x<least) (h4:x.Kind=4):fP x least L d=true↔64<d+(levels x-1)∨64<dK x∨64<L+chain x-1:=by
 unfold fP
 rw[if_neg h,we,if_pos h4]
 simp only[cf,decide_eq_true_eq]
 have h1:=oi x
 omega
theorem Ko {t:ai}(h4:t.Kind=4) (he:pw (k0 t)=pw t):(k0 t).Kind=4:=by
 have h12:pw t=1∨pw t=2:=by
  unfold pw
  rw[if_neg (by omega),if_pos h4]
  split
  ·exact .inr rfl
  ·exact .inl rfl
 rw[←he] at h12
 unfold pw at h12
 by_cases h5:(k0 t).Kind=5∨(k0 t).Kind=6
 ·rw[if_pos h5] at h12;omega
 ·rw[if_neg h5] at h12
  by_cases h6:(k0 t).Kind=4
  ·exact h6
  ·rw[if_neg h6] at h12;omega
theorem LJ {L d lt X0 X1 gt g0 g1 ct c:Nat}(h1:lt=1+max X0 X1) (h2:gt=max ct (max g0 g1)) (hL:1≤L) (hc:ct=1∨ct=c+1){P0 P1:Prop}
  (h0:P0↔64<d+X0∨64<g0∨(ct=c+1∧1≤c∧64<L+1+c-1)) (h3:P1↔64<d+X1∨64<g1):(((64<L∨P0)∨P1)∨64<d)↔((64<d+lt-1∨64<max gt (L+ct-1))∨64<d):=by
 rw[h0,h3]
 omega
theorem MK {t:ai}{L d:Nat}(hL:1≤L) (h4:t.Kind=4) (h:t.Kids.length=2):
  (((decide (64<L)||fP (k0 t) (pw t) (if pw (k0 t)=pw t then L+1 else 1) d)||fP (k1 t) (pw t+1) 1 d)||decide (64<d))=((decide (64<d+levels t-1)||decide (64<mL t L))||decide (64<d)):=by
 have h1:=I3 h4 h
 have h2:=G5 h
 have h3:=DI h4 h
 rw[eD]
 simp only[cf,decide_eq_true_eq]
 rw[we,if_pos h4]
 refine LJ (c:=chain (k0 t)) h1 h2 hL (by rw[h3];split <;> first | exact .inr rfl | exact .inl rfl) ?_ ?_
 ·by_cases s0:pw (k0 t)=pw t
  ·have k4:=Ko h4 s0
   rw[if_pos s0] at h3⊢
   have nl:¬pw (k0 t)<pw t:=by omega
   rw[Pp nl k4,if_neg nl]
   have:=Ls k4
   omega
  ·rw[if_neg s0] at h3⊢
   by_cases w0:pw (k0 t)<pw t
   ·rw[HO w0,if_pos w0];omega
   ·rw[Lg w0,if_neg w0];omega
 ·by_cases w1:pw (k1 t)<pw t+1
  ·rw[HO w1,if_pos w1]
  ·rw[Lg w1,if_neg w1]
end Go.DN
