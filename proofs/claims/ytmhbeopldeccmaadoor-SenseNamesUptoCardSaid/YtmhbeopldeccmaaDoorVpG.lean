/-
  Text, printing: the plain law: expressions, by their size.
-/
import Derived.Test.YtmhbeopldeccmaaDoorVpF
set_option linter.unusedVariables false
set_option linter.unusedSimpArgs false
namespace Go.DN
open Go.AM
theorem lx {t:ai}(h:t.Kids.length=2):k0 t∈t.Kids:=by rw[fD h];exact aC
theorem qs {t:ai}(h:t.Kids.length=2):k1 t∈t.Kids:=by rw[fD h];exact aw _ aC
theorem vk {t:ai}(h:t.Kids.length=2):idx t.Kids 0=some (k0 t):=by rw[fD h];rfl
theorem xN {t:ai}(h:t.Kids.length=2):idx t.Kids 1=some (k1 t):=by rw[fD h];rfl
theorem u7 {t:ai}(h:t.Kids.length=2):bD (k0 t)+bD (k1 t)+t.Name.size+8≤bD t:=by
 have:=lE t
 rw[fD h] at this
 simp only[az,dE,iy,List.sum_nil] at this
 simp only[gM,bu] at this
 omega
theorem GF {x:ai}{b:Bool}(h:oP x):(bw b (tx x)).length+8≤40*bD x:=by have:=kl h;have:=CL b (tx x);omega
theorem Rb (s:ByteArray):(cond (!(s.toList==(ByteArray.mk #[43]).toList)) (cond (!(s.toList==(ByteArray.mk #[45]).toList)) (some (!(s.toList==(ByteArray.mk #[42]).toList))) (some false)) (some false):Option Bool)=some (!(Dd s)):=by
 unfold Dd P8 Qn mul
 cases s.toList==(ByteArray.mk #[43]).toList <;> cases s.toList==(ByteArray.mk #[45]).toList <;> cases s.toList==(ByteArray.mk #[42]).toList <;> rfl
def qV (t:ai):List Int:=bw (jU t (k0 t) 0) (tx (k0 t))++([32]++aF t.Name++[32])++bw (jU t (k1 t) 1) (tx (k1 t))
theorem OD {self:SP}{f:Nat}{t:ai}{L:Nat}{b:Bool}{d:Nat}{m:Bool}{l:List Int}(hf:4<f) (h4:t.Kind=4) (h2:t.Kids.length=2) (hw:L+bD t≤Bd) (hL:1≤L) (ho:oP t) (hd:64<d→m=true) (hk:CQ self t d) (h:l.length+40*bD t≤140737488355328):
  ix (Dd t.Name&&(right (k0 t)&&right (k1 t))) d (m||(decide (64<d+levels t-1)||decide (64<mL t L))) (l++qV t) (F.nA self f t (pw t) L b d m l):=by
 obtain⟨_,o4⟩:=(nN t).1 ho
 have hw2:=u7 h2
 have hp:=IH t
 have hp1:1≤pw t:=by unfold pw;rw[if_neg (by omega),if_pos h4];split <;> omega
 have hp2:pw t≤2:=by unfold pw;rw[if_neg (by omega),if_pos h4];split <;> omega
 unfold F.nA
 rw[Rb,aa]
 cases hop:Dd t.Name with
 | false=>exact ix.no (by rfl) ⟨(b,(d:Int),m,l),rfl⟩
 | true=>
  simp only[dL,cond_false]
  have hm1:(cond m (some (b,(d:Int),true)) (some (b,(d:Int),decide ((L:Int)>64))):Option (Bool×Int×Bool))=some (b,(d:Int),m||decide (64<L)):=by
   cases m with
   | true=>rfl
   | false=>
    have:decide ((L:Int)>64)=decide (64<L):=by rw[decide_eq_decide];omega
    rw[this];rfl
  have hn:(cond ((pw (k0 t):Int)==(pw t:Int)) (some (IntKind.wrap .i64 ((L:Int)+1))) (some 1):Option Int)=some (((if pw (k0 t)=pw t then L+1 else 1:Nat)):Int):=by
   rw[yC]
   by_cases he:pw (k0 t)=pw t
   ·rw[decide_eq_true he,if_pos he,cond_true,mH (i:=L) (n:=Bd) (by have:=dS t;omega) (ar _)]
   ·rw[decide_eq_false he,if_neg he];rfl
  rw[hm1,aa,vk h2]
  simp only[aa,uU]
  rw[hn,aa]
  generalize hn1:(if pw (k0 t)=pw t then L+1 else 1)=n1
  have hn1':n1≤L+1:=by rw[←hn1];split <;> omega
  have hn1p:1≤n1:=by rw[←hn1];split <;> omega
  have h0:=hk (k0 t) (lx h2) (pw t) n1 b (m||decide (64<L)) l hp1 hp hn1p (by omega) (fun hh=>by rw[hd hh];rfl) (by omega)
  cases hr0:right (k0 t) with
  | false=>
   rw[hr0] at h0
   obtain⟨⟨s1,s2,s3,s4⟩,h0⟩:=h0
   exact ix.no (by rfl) ⟨(s1,s2,s3,s4),by simp only[h0,aV,aa]⟩
  | true=>
   rw[hr0] at h0
   obtain⟨b1,h0⟩:=h0
   simp only[h0,aV,aa]
   have hbl:=GF (x:=k0 t) (b:=decide (pw (k0 t)<pw t)) (o4 _ (lx h2))
   have hl1:(l++bw (decide (pw (k0 t)<pw t)) (tx (k0 t))).length+8≤l.length+40*bD (k0 t):=by rw[al];omega
   generalize hLL:l++bw (decide (pw (k0 t)<pw t)) (tx (k0 t))=LL at hl1⊢
   have hcat:sj [ByteArray.mk #[32],t.Name,ByteArray.mk #[32]]=[32]++aF t.Name++[32]:=by
    show aF (ByteArray.mk #[32])++(aF t.Name++(aF (ByteArray.mk #[32])++[]))=_
    simp only[cH,aL];rfl
   have hcl:(sj [ByteArray.mk #[32],t.Name,ByteArray.mk #[32]]).length=t.Name.size+2:=by rw[hcat];simp only[al,dl,bI];omega
   obtain⟨b2,hp3⟩:=KC (fu:=f) (ls:=[ByteArray.mk #[32],t.Name,ByteArray.mk #[32]]) (b:=b1) (d:=(d:Int)) (m:=(m||decide (64<L))||fP (k0 t) (pw t) n1 d) (l:=LL) (by simp;omega) (by show 3≤1099511627776;decide) (by rw[hcl];omega)
   rw[hp3]
   simp only[aa,xN h2]
   rw[hcat]
   have hl2:(LL++([32]++aF t.Name++[32])).length=LL.length+(t.Name.size+2):=by rw[←hcat,al,hcl]
   have hs1:IntKind.wrap .i64 ((pw t:Int)+1)=((pw t+1:Nat):Int):=by rw[i64 (by omega) (by omega)];omega
   rw[hs1]
   have h1:=hk (k1 t) (qs h2) (pw t+1) 1 b2 ((m||decide (64<L))||fP (k0 t) (pw t) n1 d) (LL++([32]++aF t.Name++[32])) (by omega) (by omega) (ar _) (by have:=dS (k0 t);omega) (fun hh=>by rw[hd hh];rfl) (by omega)
   have h1:ix (right (k1 t)) d (((m||decide (64<L))||fP (k0 t) (pw t) n1 d)||fP (k1 t) (pw t+1) 1 d) _ (self (k1 t) ((pw t+1:Nat):Int) 1 b2 d _ _):=h1
   cases hr1:right (k1 t) with
   | false=>
    rw[hr1] at h1
    obtain⟨⟨s1,s2,s3,s4⟩,h1⟩:=h1
    exact ix.no (by rfl) ⟨(s1,s2,s3,s4),by simp only[h1,aa]⟩
   | true=>
    rw[hr1] at h1
    obtain⟨b3,h1⟩:=h1
    refine⟨b3,?_⟩
    simp only[h1,aa]
    have hflag:(((m||decide (64<L))||fP (k0 t) (pw t) n1 d)||fP (k1 t) (pw t+1) 1 d)=(m||(decide (64<d+levels t-1)||decide (64<mL t L))):=by
     have hm:=MK (L:=L) (d:=d) hL h4 h2
     rw[hn1] at hm
     generalize decide (64<L)=x1 at hm⊢
     generalize fP (k0 t) (pw t) n1 d=x2 at hm⊢
     generalize fP (k1 t) (pw t+1) 1 d=x3 at hm⊢
     generalize (decide (64<d+levels t-1)||decide (64<mL t L))=x4 at hm⊢
     by_cases hd6:64<d
     ·rw[hd hd6];rfl
     ·rw[decide_eq_false hd6,di,di] at hm
      rw[←hm]
      cases m <;> cases x1 <;> cases x2 <;> cases x3 <;> rfl
    rw[hflag]
    have htx:LL++([32]++aF t.Name++[32])++bw (decide (pw (k1 t)<pw t+1)) (tx (k1 t))=l++qV t:=by
     rw[←hLL];unfold qV jU;simp only[aL,fG]
    rw[htx]
theorem Dq {t:ai}(h:t.Kids.length=0):levels t=1:=by rw[pL,aX h];rfl
theorem AV {t:ai}(h4:t.Kind≠4) (h:t.Kids.length=0):dK t=0:=by rw[qo,wL h4,aX h];rfl
theorem Dn {t:ai}(h4:t.Kind≠4):∀(j:Nat) (ks:List ai),su t j ks (ks.map levels)=ks.map levels
 | _,[]=>rfl
 | j,k::r=>by simp only[az,su,Dn h4 (j+1) r];rw[show Dl t j k (levels k)=levels k from if_neg (by rintro⟨h,_⟩;exact h4 h)]
theorem xK {t:ai}(h4:t.Kind≠4):levels t=1+iI (t.Kids.map levels):=by rw[pL,Dn h4]
theorem xa {t:ai}(h4:t.Kind≠4):dK t=iI (t.Kids.map dK):=by rw[qo,wL h4,Nat.zero_max]
theorem NU {q p:Bool}{d u v a b:Nat}(ih:(q=true∨64<d)↔((64<d+u∨64<v)∨64<d)) (hp:p=true↔(64<d+a∨64<b)):((p||q)=true∨64<d)↔((64<d+max a u∨64<max b v)∨64<d):=by
 cases q <;> cases p <;> simp at ih hp⊢<;> omega
theorem any_max (d:Nat):∀l:List ai,(l.any (fun x=>mE x (d+1))=true∨64<d)↔((64<d+iI (l.map levels)∨64<iI (l.map dK))∨64<d)
 | []=>by simp only[fH,dE,iI];simp
 | x::r=>by
  have hp:=oi x
  have:(mE x (d+1)=true)↔(64<d+levels x∨64<dK x):=by
   unfold mE;simp only[cf,decide_eq_true_eq];omega
  rw[cG,az,az]
  exact NU (any_max d r) this
theorem Qa {m a c:Bool}{d:Nat}(hd:64<d→m=true) (h:(a=true∨64<d)↔(c=true∨64<d)):(m||a)=(m||c):=by
 by_cases h6:64<d
 ·rw[hd h6];rfl
 ·have:a=c:=by
   rw[eD]
   constructor
   ·intro ha;exact(h.1 (.inl ha)).resolve_right h6
   ·intro hc;exact(h.2 (.inl hc)).resolve_right h6
  rw[this]
theorem xy {t:ai}(h:ql t=false):right t=false:=by rw[kL,h];rfl
theorem FR {t:ai}(h:t.Kids.length=0):t.Kids.all right=true:=by rw[aX h];rfl
theorem N5 {self:SE}{self2:SP}{f:Nat}{t:ai}{least L:Nat}{b:Bool}{d:Nat}{m:Bool}{l:List Int}(hf:bD t+10<f) (hl:least≤pw t) (hp:1≤pw t) (hw:L+bD t≤Bd) (hL:1≤L) (ho:oP t) (hd:64<d→m=true)
  (hk:BV self t d) (hk2:CQ self2 t d) (h:l.length+40*bD t≤140737488355328):
  ix (right t) d (m||(decide (64<d+levels t-1)||decide (64<mL t L))) (l++tx t) (F.jN self self2 f t least L b d m l):=by
 obtain⟨⟨o1,o2,o3⟩,o4⟩:=(nN t).1 ho
 have hwp:=lE t
 have hpos:=dS t
 unfold gM at hwp
 unfold F.jN
 simp only[gT,z7,uU,aa]
 cases hc:cB t with
 | false=>exact ix.no (xy (xE hc)) ⟨(b,(d:Int),m,l),rfl⟩
 | true=>
  have hlt:decide ((pw t:Int)<(least:Int))=false:=decide_eq_false (by omega)
  simp only[dL,cond_false,hlt]
  have hk56:t.Kind≠5∧t.Kind≠6:=by
   refine⟨fun e=>?_,fun e=>?_⟩
   ·unfold pw at hp;rw[if_pos (.inl e)] at hp;omega
   ·unfold pw at hp;rw[if_pos (.inr e)] at hp;omega
  rw[kE,kE,kE]
  unfold cB at hc
  by_cases h1:t.Kind=1
  ·rw[if_pos h1] at hc
   simp only[ah,decide_eq_true_eq] at hc
   obtain⟨c1,c2,c3⟩:=hc
   have h4:t.Kind≠4:=by omega
   have hr:right t=decide (0≤t.Number):=by
    rw[kL,FR c3,jF]
    unfold ql
    rw[if_pos h1,c1,c2,decide_eq_true c3];simp
   have hfl:(m||(decide (64<d+levels t-1)||decide (64<mL t L)))=m:=by
    rw[Dq c3,we,if_neg h4,AV h4 c3]
    have:(m||(decide (64<d+1-1)||decide (64<max 0 0)))=(m||false):=Qa hd (by simp)
    rw[this,di]
   have htx:tx t=dg t.Number:=by rw[o7];unfold uh;rw[if_pos h1]
   rw[hr,hfl,htx,decide_eq_true h1]
   simp only[cond_true]
   have hn:=sG (fu:=f) (n:=t.Number) (b:=b) (d:=(d:Int)) (m:=m) (l:=l) (by omega) o1 (by omega)
   cases hv:decide (0≤t.Number) with
   | false=>
    rw[hv] at hn
    obtain⟨⟨s1,s2,s3,s4⟩,hn⟩:=hn
    exact⟨(s1,s2,s3,s4),by simp only[hn,aV,br,aa]⟩
   | true=>
    rw[hv] at hn
    obtain⟨b1,hn⟩:=hn
    exact⟨b1,by simp only[hn,aV,br,aa]⟩
  rw[if_neg h1] at hc
  rw[decide_eq_false h1]
  simp only[cond_false]
  by_cases h2:t.Kind=2
  ·rw[if_pos h2] at hc
   simp only[ah,decide_eq_true_eq] at hc
   obtain⟨c1,c2,c3⟩:=hc
   have h4:t.Kind≠4:=by omega
   have hr:right t=nm t.Name:=by
    rw[kL,FR c3,jF]
    unfold ql
    rw[if_neg h1,if_pos h2,c1,decide_eq_true c2,decide_eq_true c3];simp
   have hfl:(m||(decide (64<d+levels t-1)||decide (64<mL t L)))=m:=by
    rw[Dq c3,we,if_neg h4,AV h4 c3]
    have:(m||(decide (64<d+1-1)||decide (64<max 0 0)))=(m||false):=Qa hd (by simp)
    rw[this,di]
   have htx:tx t=aF t.Name:=by rw[o7];unfold uh;rw[if_neg h1,if_pos h2]
   rw[hr,hfl,htx,decide_eq_true h2]
   simp only[cond_true]
   have hn:=pk (fu:=f) (s:=t.Name) (b:=b) (d:=(d:Int)) (m:=m) (l:=l) (by omega) (by omega) (by omega) (by omega)
   cases hv:nm t.Name with
   | false=>
    rw[hv] at hn
    obtain⟨⟨s1,s2,s3,s4⟩,hn⟩:=hn
    exact⟨(s1,s2,s3,s4),by simp only[hn,aV,br,aa]⟩
   | true=>
    rw[hv] at hn
    obtain⟨b1,hn⟩:=hn
    exact⟨b1,by simp only[hn,aV,br,aa]⟩
  rw[if_neg h2] at hc
  rw[decide_eq_false h2]
  simp only[cond_false]
  by_cases h4:t.Kind=4
  ·rw[if_pos (.inl h4)] at hc
   simp only[ah,decide_eq_true_eq] at hc
   obtain⟨c1,c2,c3⟩:=hc
   have hr:right t=(Dd t.Name&&(right (k0 t)&&right (k1 t))):=by
    rw[kL]
    unfold ql
    rw[if_neg h1,if_neg h2,if_pos h4,c1,decide_eq_true c2,decide_eq_true c3]
    conv=>lhs;rw[fD c3]
    simp
   have htx:tx t=qV t:=by
    rw[o7];unfold uh qV;rw[if_neg h1,if_neg h2,if_pos h4]
    conv=>lhs;rw[fD c3]
    rfl
   rw[hr,htx,decide_eq_true h4]
   simp only[cond_true]
   have hn:=OD (self:=self2) (f:=f) (b:=b) (l:=l) (by omega) h4 c3 hw hL ho hd hk2 h
   cases hv:(Dd t.Name&&(right (k0 t)&&right (k1 t))) with
   | false=>
    rw[hv] at hn
    obtain⟨⟨s1,s2,s3,s4⟩,hn⟩:=hn
    exact⟨(s1,s2,s3,s4),by simp only[hn,aV,br,aa]⟩
   | true=>
    rw[hv] at hn
    obtain⟨b1,hn⟩:=hn
    exact⟨b1,by simp only[hn,aV,br,aa]⟩
  rw[if_neg (by omega),if_neg hk56.2] at hc
  rw[decide_eq_false h4]
  simp only[cond_false]
  by_cases h3:t.Kind=3
  ·rw[if_pos h3] at hc
   simp only[ah,decide_eq_true_eq] at hc
   obtain⟨c1,c2⟩:=hc
   have hr:right t=u2 t:=by
    rw[kL]
    unfold ql u2
    rw[if_neg h1,if_neg h2,if_neg h4,if_neg hk56.1,if_neg hk56.2,if_pos h3,decide_eq_true c1,c2]
    have:t.Shape.all ga=(!t.Shaped||t.Shape.all ga):=by
     cases hs:t.Shaped with
     | true=>rfl
     | false=>
      rw[hs] at c2
      have:t.Shape=[]:=by simpa using c2
      rw[this];rfl
    rw[←this]
    cases nm t.Name <;> cases t.Shape.all ga <;> cases t.aE.all nP <;> simp
   have hfl:(m||t.Kids.any (fun x=>mE x (d+1)))=(m||(decide (64<d+levels t-1)||decide (64<mL t L))):=by
    refine Qa hd ?_
    rw[any_max,xK h4,we,if_neg h4,xa h4]
    simp only[cf,decide_eq_true_eq]
    omega
   have htx:tx t=Gq t:=by
    rw[o7];unfold uh Gq;rw[if_neg h1,if_neg h2,if_neg h4,if_neg hk56.1,if_neg hk56.2]
   rw[hr,htx,←hfl]
   have hn:=Ny (self:=self) (f:=f) (b:=b) (m:=m) (l:=l) (by omega) (by omega) ho hk h
   cases hv:u2 t with
   | false=>
    rw[hv] at hn
    obtain⟨⟨s1,s2,s3,s4⟩,hn⟩:=hn
    exact⟨(s1,s2,s3,s4),by simp only[hn,aV,br,aa]⟩
   | true=>
    rw[hv] at hn
    obtain⟨b1,hn⟩:=hn
    exact⟨b1,by simp only[hn,aV,br,aa]⟩
  ·rw[if_neg h3] at hc;cases hc
end Go.DN
