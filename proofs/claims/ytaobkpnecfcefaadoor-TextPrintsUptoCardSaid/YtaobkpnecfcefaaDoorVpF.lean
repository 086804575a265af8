/-
  Text, printing: the plain law: expressions.
-/
import Derived.Test.YtaobkpnecfcefaaDoorVpE
set_option linter.unusedVariables false
set_option linter.unusedSimpArgs false
namespace Go.DN
open Go.AM
def mL (t:STree) (L:Nat):Nat:=max (longest t) (if t.Kind=4 then L+chain t-1 else 0)
def fP (t:STree) (least L d:Nat):Bool:=if pw t<least then mE t (d+1) else(decide (64<d+levels t-1)||decide (64<mL t L))
abbrev SP:Type:=STree→Int→Int→Bool→Int→Bool→List Int→RS
def PartsOk (self:SP) (t:STree) (d:Nat):Prop:=∀x∈t.Kids,∀(least L:Nat) (b:Bool) (m:Bool) (l:List Int),1≤least→least≤3→1≤L→L+wtT x≤Bd→(64<d→m=true)→l.length+40*wtT x+2≤140737488355328→
 OkW (right x) d (m||fP x least L d) (l++brk (decide (pw x<least)) (tx x)) (self x least L b d m l)
theorem two_kids {t:STree}(h:t.Kids.length=2):t.Kids=[k0 t,k1 t]:=by
 unfold k0 k1
 match hk:t.Kids,h with
 | [a,b],_=>rfl
theorem pw_le (t : STree) : pw t ≤ 3 := by unfold pw; split; · omega
                                           split; · split <;> omega
                                           omega
theorem levels_pos (t:STree):1≤levels t:=by rw[levels_eq];omega
theorem chain_le (t:STree):chain t≤longest t:=by rw[longest_eq];omega
theorem chain_pos {t:STree}(h:t.Kind=4):1≤chain t:=by rw[chain_eq,if_pos h];split <;> omega
theorem chain_zero {t:STree}(h:t.Kind≠4):chain t=0:=by rw[chain_eq,if_neg h]
theorem levels_two {t:STree}(h4:t.Kind=4) (h:t.Kids.length=2):levels t=1+max (if pw (k0 t)<pw t then levels (k0 t) else levels (k0 t)-1) (if pw (k1 t)<pw t+1 then levels (k1 t) else levels (k1 t)-1):=by
 rw[levels_eq,two_kids h]
 have e:∀(k:STree) (j m:Nat),lvW t j k m=if pw k<pw t+j then m else m-1:=by
  intro k j m
  unfold lvW weakB
  by_cases hw:pw k<pw t+j
  ·rw[if_neg (by simp[hw]),if_pos hw]
  ·rw[if_pos ⟨h4,by simp[hw]⟩,if_neg hw]
 simp only[List.map_cons,List.map_nil,lvL,maxL,e,Nat.add_zero,Nat.zero_add,Nat.max_zero]
theorem longest_two {t:STree}(h:t.Kids.length=2):longest t=max (chain t) (max (longest (k0 t)) (longest (k1 t))):=by
 rw[longest_eq]
 conv=>lhs;rw[two_kids h]
 simp only[List.map_cons,List.map_nil,maxL,Nat.max_zero]
theorem chain_two {t:STree}(h4:t.Kind=4) (h:t.Kids.length=2):chain t=if pw (k0 t)=pw t then chain (k0 t)+1 else 1:=by
 rw[chain_eq,if_pos h4]
 conv=>lhs;rw[two_kids h]
 rfl
theorem mL_eq (t:STree) (L:Nat):mL t L=max (longest t) (if t.Kind=4 then L+chain t-1 else 0):=rfl
theorem fP_weak {x:STree}{least L d:Nat}(h:pw x<least):fP x least L d=true↔64<d+levels x∨64<longest x:=by
 unfold fP mE
 rw[if_pos h]
 simp only[Bool.or_eq_true,decide_eq_true_eq]
 have:=levels_pos x
 omega
theorem fP_one {x:STree}{least d:Nat}(h:¬pw x<least):fP x least 1 d=true↔64<d+(levels x-1)∨64<longest x:=by
 unfold fP
 rw[if_neg h,mL_eq]
 simp only[Bool.or_eq_true,decide_eq_true_eq]
 have h1:=levels_pos x
 have h2:=chain_le x
 split <;> omega
theorem fP_same {x:STree}{least L d:Nat}(h:¬pw x<least) (h4:x.Kind=4):fP x least L d=true↔64<d+(levels x-1)∨64<longest x∨64<L+chain x-1:=by
 unfold fP
 rw[if_neg h,mL_eq,if_pos h4]
 simp only[Bool.or_eq_true,decide_eq_true_eq]
 have h1:=levels_pos x
 omega
theorem same_kind {t:STree}(h4:t.Kind=4) (he:pw (k0 t)=pw t):(k0 t).Kind=4:=by
 have h12:pw t=1∨pw t=2:=by
  unfold pw
  rw[if_neg (by omega),if_pos h4]
  split
  ·exact .inr rfl
  ·exact .inl rfl
 rw[←he] at h12
 unfold pw at h12
 by_cases h5:(k0 t).Kind=5∨(k0 t).Kind=6
 ·rw[if_pos h5] at h12;omega
 ·rw[if_neg h5] at h12
  by_cases h6:(k0 t).Kind=4
  ·exact h6
  ·rw[if_neg h6] at h12;omega
theorem arith_two {L d lt X0 X1 gt g0 g1 ct c:Nat}(h1:lt=1+max X0 X1) (h2:gt=max ct (max g0 g1)) (hL:1≤L) (hc:ct=1∨ct=c+1){P0 P1:Prop}
  (h0:P0↔64<d+X0∨64<g0∨(ct=c+1∧1≤c∧64<L+1+c-1)) (h3:P1↔64<d+X1∨64<g1):(((64<L∨P0)∨P1)∨64<d)↔((64<d+lt-1∨64<max gt (L+ct-1))∨64<d):=by
 rw[h0,h3]
 omega
theorem much_two {t:STree}{L d:Nat}(hL:1≤L) (h4:t.Kind=4) (h:t.Kids.length=2):
  (((decide (64<L)||fP (k0 t) (pw t) (if pw (k0 t)=pw t then L+1 else 1) d)||fP (k1 t) (pw t+1) 1 d)||decide (64<d))=((decide (64<d+levels t-1)||decide (64<mL t L))||decide (64<d)):=by
 have h1:=levels_two h4 h
 have h2:=longest_two h
 have h3:=chain_two h4 h
 rw[Bool.eq_iff_iff]
 simp only[Bool.or_eq_true,decide_eq_true_eq]
 rw[mL_eq,if_pos h4]
 refine arith_two (c:=chain (k0 t)) h1 h2 hL (by rw[h3];split <;> first | exact .inr rfl | exact .inl rfl) ?_ ?_
 ·by_cases s0:pw (k0 t)=pw t
  ·have k4:=same_kind h4 s0
   rw[if_pos s0] at h3⊢
   have nl:¬pw (k0 t)<pw t:=by omega
   rw[fP_same nl k4,if_neg nl]
   have:=chain_pos k4
   omega
  ·rw[if_neg s0] at h3⊢
   by_cases w0:pw (k0 t)<pw t
   ·rw[fP_weak w0,if_pos w0];omega
   ·rw[fP_one w0,if_neg w0];omega
 ·by_cases w1:pw (k1 t)<pw t+1
  ·rw[fP_weak w1,if_pos w1]
  ·rw[fP_one w1,if_neg w1]
end Go.DN
