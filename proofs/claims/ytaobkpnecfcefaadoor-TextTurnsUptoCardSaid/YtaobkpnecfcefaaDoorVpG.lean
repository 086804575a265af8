/-
  Text, printing: the plain law: expressions, by their size.
-/
import Derived.Test.YtaobkpnecfcefaaDoorVpF
set_option linter.unusedVariables false
set_option linter.unusedSimpArgs false
namespace Go.DN
open Go.AM
theorem kR {t:ai}(h:t.Kids.length=2):k0 t∈t.Kids:=by rw[fj h];exact au
theorem pI {t:ai}(h:t.Kids.length=2):k1 t∈t.Kids:=by rw[fj h];exact ap _ au
theorem Ib {t:ai}(h:t.Kids.length=2):idx t.Kids 0=some (k0 t):=by rw[fj h];rfl
theorem Ia {t:ai}(h:t.Kids.length=2):idx t.Kids 1=some (k1 t):=by rw[fj h];rfl
theorem GI {t:ai}(h:t.Kids.length=2):dN (k0 t)+dN (k1 t)+t.Name.size+8≤dN t:=by
 have:=xk t
 rw[fj h] at this
 simp only[aB,eJ,mh,List.sum_nil] at this
 simp only[nB,dG] at this
 omega
theorem Uu {x:ai}{b:Bool}(h:pD x):(cD b (tx x)).length+8≤40*dN x:=by have:=vr h;have:=EP b (tx x);omega
theorem US (s:ByteArray):(cond (!(s.toList==(ByteArray.mk #[43]).toList)) (cond (!(s.toList==(ByteArray.mk #[45]).toList)) (some (!(s.toList==(ByteArray.mk #[42]).toList))) (some false)) (some false):Option Bool)=some (!(zs s)):=by
 unfold zs Vm Vo mul
 cases s.toList==(ByteArray.mk #[43]).toList <;> cases s.toList==(ByteArray.mk #[45]).toList <;> cases s.toList==(ByteArray.mk #[42]).toList <;> rfl
def GX (t:ai):List Int:=cD (cZ t (k0 t) 0) (tx (k0 t))++([32]++aH t.Name++[32])++cD (cZ t (k1 t) 1) (tx (k1 t))
theorem RI {self:SP}{f:Nat}{t:ai}{L:Nat}{b:Bool}{d:Nat}{m:Bool}{l:List Int}(hf:4<f) (h4:t.Kind=4) (h2:t.Kids.length=2) (hw:L+dN t≤Bd) (hL:1≤L) (ho:pD t) (hd:64<d→m=true) (hk:EW self t d) (h:l.length+40*dN t≤140737488355328):
  iK (zs t.Name&&(right (k0 t)&&right (k1 t))) d (m||(decide (64<d+levels t-1)||decide (64<mL t L))) (l++GX t) (F.n7 self f t (pw t) L b d m l):=by
 obtain⟨_,o4⟩:=(l7 t).1 ho
 have hw2:=GI h2
 have hp:=La t
 have hp1:1≤pw t:=by unfold pw;rw[if_neg (by omega),if_pos h4];split <;> omega
 have hp2:pw t≤2:=by unfold pw;rw[if_neg (by omega),if_pos h4];split <;> omega
 unfold F.n7
 rw[US,aa]
 cases hop:zs t.Name with
 | false=>exact iK.no (by rfl) ⟨(b,(d:Int),m,l),rfl⟩
 | true=>
  simp only[de,cond_false]
  have hm1:(cond m (some (b,(d:Int),true)) (some (b,(d:Int),decide ((L:Int)>64))):Option (Bool×Int×Bool))=some (b,(d:Int),m||decide (64<L)):=by
   cases m with
   | true=>rfl
   | false=>
    have:decide ((L:Int)>64)=decide (64<L):=by rw[decide_eq_decide];omega
    rw[this];rfl
  have hn:(cond ((pw (k0 t):Int)==(pw t:Int)) (some (IntKind.wrap .i64 ((L:Int)+1))) (some 1):Option Int)=some (((if pw (k0 t)=pw t then L+1 else 1:Nat)):Int):=by
   rw[qo]
   by_cases he:pw (k0 t)=pw t
   ·rw[decide_eq_true he,if_pos he,cond_true,yU (i:=L) (n:=Bd) (by have:=jE t;omega) (aq _)]
   ·rw[decide_eq_false he,if_neg he];rfl
  rw[hm1,aa,Ib h2]
  simp only[aa,wi]
  rw[hn,aa]
  generalize hn1:(if pw (k0 t)=pw t then L+1 else 1)=n1
  have hn1':n1≤L+1:=by rw[←hn1];split <;> omega
  have hn1p:1≤n1:=by rw[←hn1];split <;> omega
  have h0:=hk (k0 t) (kR h2) (pw t) n1 b (m||decide (64<L)) l hp1 hp hn1p (by omega) (fun hh=>by rw[hd hh];rfl) (by omega)
  cases hr0:right (k0 t) with
  | false=>
   rw[hr0] at h0
   obtain⟨⟨s1,s2,s3,s4⟩,h0⟩:=h0
   exact iK.no (by rfl) ⟨(s1,s2,s3,s4),by simp only[h0,aD,aa]⟩
  | true=>
   rw[hr0] at h0
   obtain⟨b1,h0⟩:=h0
   simp only[h0,aD,aa]
   have hbl:=Uu (x:=k0 t) (b:=decide (pw (k0 t)<pw t)) (o4 _ (kR h2))
   have hl1:(l++cD (decide (pw (k0 t)<pw t)) (tx (k0 t))).length+8≤l.length+40*dN (k0 t):=by rw[ak];omega
   generalize hLL:l++cD (decide (pw (k0 t)<pw t)) (tx (k0 t))=LL at hl1⊢
   have hcat:tG [ByteArray.mk #[32],t.Name,ByteArray.mk #[32]]=[32]++aH t.Name++[32]:=by
    show aH (ByteArray.mk #[32])++(aH t.Name++(aH (ByteArray.mk #[32])++[]))=_
    simp only[bL,aA];rfl
   have hcl:(tG [ByteArray.mk #[32],t.Name,ByteArray.mk #[32]]).length=t.Name.size+2:=by rw[hcat];simp only[ak,cY,cu];omega
   obtain⟨b2,hp3⟩:=Nl (fu:=f) (ls:=[ByteArray.mk #[32],t.Name,ByteArray.mk #[32]]) (b:=b1) (d:=(d:Int)) (m:=(m||decide (64<L))||fP (k0 t) (pw t) n1 d) (l:=LL) (by simp;omega) (by show 3≤1099511627776;decide) (by rw[hcl];omega)
   rw[hp3]
   simp only[aa,Ia h2]
   rw[hcat]
   have hl2:(LL++([32]++aH t.Name++[32])).length=LL.length+(t.Name.size+2):=by rw[←hcat,ak,hcl]
   have hs1:IntKind.wrap .i64 ((pw t:Int)+1)=((pw t+1:Nat):Int):=by rw[i64 (by omega) (by omega)];omega
   rw[hs1]
   have h1:=hk (k1 t) (pI h2) (pw t+1) 1 b2 ((m||decide (64<L))||fP (k0 t) (pw t) n1 d) (LL++([32]++aH t.Name++[32])) (by omega) (by omega) (aq _) (by have:=jE (k0 t);omega) (fun hh=>by rw[hd hh];rfl) (by omega)
   have h1:iK (right (k1 t)) d (((m||decide (64<L))||fP (k0 t) (pw t) n1 d)||fP (k1 t) (pw t+1) 1 d) _ (self (k1 t) ((pw t+1:Nat):Int) 1 b2 d _ _):=h1
   cases hr1:right (k1 t) with
   | false=>
    rw[hr1] at h1
    obtain⟨⟨s1,s2,s3,s4⟩,h1⟩:=h1
    exact iK.no (by rfl) ⟨(s1,s2,s3,s4),by simp only[h1,aa]⟩
   | true=>
    rw[hr1] at h1
    obtain⟨b3,h1⟩:=h1
    refine⟨b3,?_⟩
    simp only[h1,aa]
    have hflag:(((m||decide (64<L))||fP (k0 t) (pw t) n1 d)||fP (k1 t) (pw t+1) 1 d)=(m||(decide (64<d+levels t-1)||decide (64<mL t L))):=by
     have hm:=PI (L:=L) (d:=d) hL h4 h2
     rw[hn1] at hm
     generalize decide (64<L)=x1 at hm⊢
     generalize fP (k0 t) (pw t) n1 d=x2 at hm⊢
     generalize fP (k1 t) (pw t+1) 1 d=x3 at hm⊢
     generalize (decide (64<d+levels t-1)||decide (64<mL t L))=x4 at hm⊢
     by_cases hd6:64<d
     ·rw[hd hd6];rfl
     ·rw[decide_eq_false hd6,k7,k7] at hm
      rw[←hm]
      cases m <;> cases x1 <;> cases x2 <;> cases x3 <;> rfl
    rw[hflag]
    have htx:LL++([32]++aH t.Name++[32])++cD (decide (pw (k1 t)<pw t+1)) (tx (k1 t))=l++GX t:=by
     rw[←hLL];unfold GX cZ;simp only[aA,dJ]
    rw[htx]
theorem Fl {t:ai}(h:t.Kids.length=0):levels t=1:=by rw[vG,aT h];rfl
theorem CY {t:ai}(h4:t.Kind≠4) (h:t.Kids.length=0):fF t=0:=by rw[qX,DE h4,aT h];rfl
theorem Fj {t:ai}(h4:t.Kind≠4):∀(j:Nat) (ks:List ai),JX t j ks (ks.map levels)=ks.map levels
 | _,[]=>rfl
 | j,k::r=>by simp only[aB,JX,Fj h4 (j+1) r];rw[show Rg t j k (levels k)=levels k from if_neg (by rintro⟨h,_⟩;exact h4 h)]
theorem qY {t:ai}(h4:t.Kind≠4):levels t=1+pX (t.Kids.map levels):=by rw[vG,Fj h4]
theorem yM {t:ai}(h4:t.Kind≠4):fF t=pX (t.Kids.map fF):=by rw[qX,DE h4,Nat.zero_max]
theorem QY {q p:Bool}{d u v a b:Nat}(ih:(q=true∨64<d)↔((64<d+u∨64<v)∨64<d)) (hp:p=true↔(64<d+a∨64<b)):((p||q)=true∨64<d)↔((64<d+max a u∨64<max b v)∨64<d):=by
 cases q <;> cases p <;> simp at ih hp⊢<;> omega
theorem any_max (d:Nat):∀l:List ai,(l.any (fun x=>mE x (d+1))=true∨64<d)↔((64<d+pX (l.map levels)∨64<pX (l.map fF))∨64<d)
 | []=>by simp only[List.any_nil,eJ,pX];simp
 | x::r=>by
  have hp:=ma x
  have:(mE x (d+1)=true)↔(64<d+levels x∨64<fF x):=by
   unfold mE;simp only[bD,decide_eq_true_eq];omega
  rw[List.any_cons,aB,aB]
  exact QY (any_max d r) this
theorem TD {m a c:Bool}{d:Nat}(hd:64<d→m=true) (h:(a=true∨64<d)↔(c=true∨64<d)):(m||a)=(m||c):=by
 by_cases h6:64<d
 ·rw[hd h6];rfl
 ·have:a=c:=by
   rw[Bool.eq_iff_iff]
   constructor
   ·intro ha;exact(h.1 (.inl ha)).resolve_right h6
   ·intro hc;exact(h.2 (.inl hc)).resolve_right h6
  rw[this]
theorem zj {t:ai}(h:mq t=false):right t=false:=by rw[li,h];rfl
theorem H9 {t:ai}(h:t.Kids.length=0):t.Kids.all right=true:=by rw[aT h];rfl
theorem Rc {self:SE}{self2:SP}{f:Nat}{t:ai}{least L:Nat}{b:Bool}{d:Nat}{m:Bool}{l:List Int}(hf:dN t+10<f) (hl:least≤pw t) (hp:1≤pw t) (hw:L+dN t≤Bd) (hL:1≤L) (ho:pD t) (hd:64<d→m=true)
  (hk:D0 self t d) (hk2:EW self2 t d) (h:l.length+40*dN t≤140737488355328):
  iK (right t) d (m||(decide (64<d+levels t-1)||decide (64<mL t L))) (l++tx t) (F.kh self self2 f t least L b d m l):=by
 obtain⟨⟨o1,o2,o3⟩,o4⟩:=(l7 t).1 ho
 have hwp:=xk t
 have hpos:=jE t
 unfold nB at hwp
 unfold F.kh
 simp only[AF,B4,wi,aa]
 cases hc:cB t with
 | false=>exact iK.no (zj (zr hc)) ⟨(b,(d:Int),m,l),rfl⟩
 | true=>
  have hlt:decide ((pw t:Int)<(least:Int))=false:=decide_eq_false (by omega)
  simp only[de,cond_false,hlt]
  have hk56:t.Kind≠5∧t.Kind≠6:=by
   refine⟨fun e=>?_,fun e=>?_⟩
   ·unfold pw at hp;rw[if_pos (.inl e)] at hp;omega
   ·unfold pw at hp;rw[if_pos (.inr e)] at hp;omega
  rw[sx,sx,sx]
  unfold cB at hc
  by_cases h1:t.Kind=1
  ·rw[if_pos h1] at hc
   simp only[ag,decide_eq_true_eq] at hc
   obtain⟨c1,c2,c3⟩:=hc
   have h4:t.Kind≠4:=by omega
   have hr:right t=decide (0≤t.Number):=by
    rw[li,H9 c3,jQ]
    unfold mq
    rw[if_pos h1,c1,c2,decide_eq_true c3];simp
   have hfl:(m||(decide (64<d+levels t-1)||decide (64<mL t L)))=m:=by
    rw[Fl c3,xW,if_neg h4,CY h4 c3]
    have:(m||(decide (64<d+1-1)||decide (64<max 0 0)))=(m||false):=TD hd (by simp)
    rw[this,k7]
   have htx:tx t=dg t.Number:=by rw[tR];unfold yK;rw[if_pos h1]
   rw[hr,hfl,htx,decide_eq_true h1]
   simp only[cond_true]
   have hn:=tW (fu:=f) (n:=t.Number) (b:=b) (d:=(d:Int)) (m:=m) (l:=l) (by omega) o1 (by omega)
   cases hv:decide (0≤t.Number) with
   | false=>
    rw[hv] at hn
    obtain⟨⟨s1,s2,s3,s4⟩,hn⟩:=hn
    exact⟨(s1,s2,s3,s4),by simp only[hn,aD,bx,aa]⟩
   | true=>
    rw[hv] at hn
    obtain⟨b1,hn⟩:=hn
    exact⟨b1,by simp only[hn,aD,bx,aa]⟩
  rw[if_neg h1] at hc
  rw[decide_eq_false h1]
  simp only[cond_false]
  by_cases h2:t.Kind=2
  ·rw[if_pos h2] at hc
   simp only[ag,decide_eq_true_eq] at hc
   obtain⟨c1,c2,c3⟩:=hc
   have h4:t.Kind≠4:=by omega
   have hr:right t=nm t.Name:=by
    rw[li,H9 c3,jQ]
    unfold mq
    rw[if_neg h1,if_pos h2,c1,decide_eq_true c2,decide_eq_true c3];simp
   have hfl:(m||(decide (64<d+levels t-1)||decide (64<mL t L)))=m:=by
    rw[Fl c3,xW,if_neg h4,CY h4 c3]
    have:(m||(decide (64<d+1-1)||decide (64<max 0 0)))=(m||false):=TD hd (by simp)
    rw[this,k7]
   have htx:tx t=aH t.Name:=by rw[tR];unfold yK;rw[if_neg h1,if_pos h2]
   rw[hr,hfl,htx,decide_eq_true h2]
   simp only[cond_true]
   have hn:=pW (fu:=f) (s:=t.Name) (b:=b) (d:=(d:Int)) (m:=m) (l:=l) (by omega) (by omega) (by omega) (by omega)
   cases hv:nm t.Name with
   | false=>
    rw[hv] at hn
    obtain⟨⟨s1,s2,s3,s4⟩,hn⟩:=hn
    exact⟨(s1,s2,s3,s4),by simp only[hn,aD,bx,aa]⟩
   | true=>
    rw[hv] at hn
    obtain⟨b1,hn⟩:=hn
    exact⟨b1,by simp only[hn,aD,bx,aa]⟩
  rw[if_neg h2] at hc
  rw[decide_eq_false h2]
  simp only[cond_false]
  by_cases h4:t.Kind=4
  ·rw[if_pos (.inl h4)] at hc
   simp only[ag,decide_eq_true_eq] at hc
   obtain⟨c1,c2,c3⟩:=hc
   have hr:right t=(zs t.Name&&(right (k0 t)&&right (k1 t))):=by
    rw[li]
    unfold mq
    rw[if_neg h1,if_neg h2,if_pos h4,c1,decide_eq_true c2,decide_eq_true c3]
    conv=>lhs;rw[fj c3]
    simp
   have htx:tx t=GX t:=by
    rw[tR];unfold yK GX;rw[if_neg h1,if_neg h2,if_pos h4]
    conv=>lhs;rw[fj c3]
    rfl
   rw[hr,htx,decide_eq_true h4]
   simp only[cond_true]
   have hn:=RI (self:=self2) (f:=f) (b:=b) (l:=l) (by omega) h4 c3 hw hL ho hd hk2 h
   cases hv:(zs t.Name&&(right (k0 t)&&right (k1 t))) with
   | false=>
    rw[hv] at hn
    obtain⟨⟨s1,s2,s3,s4⟩,hn⟩:=hn
    exact⟨(s1,s2,s3,s4),by simp only[hn,aD,bx,aa]⟩
   | true=>
    rw[hv] at hn
    obtain⟨b1,hn⟩:=hn
    exact⟨b1,by simp only[hn,aD,bx,aa]⟩
  rw[if_neg (by omega),if_neg hk56.2] at hc
  rw[decide_eq_false h4]
  simp only[cond_false]
  by_cases h3:t.Kind=3
  ·rw[if_pos h3] at hc
   simp only[ag,decide_eq_true_eq] at hc
   obtain⟨c1,c2⟩:=hc
   have hr:right t=wx t:=by
    rw[li]
    unfold mq wx
    rw[if_neg h1,if_neg h2,if_neg h4,if_neg hk56.1,if_neg hk56.2,if_pos h3,decide_eq_true c1,c2]
    have:t.Shape.all iG=(!t.Shaped||t.Shape.all iG):=by
     cases hs:t.Shaped with
     | true=>rfl
     | false=>
      rw[hs] at c2
      have:t.Shape=[]:=by simpa using c2
      rw[this];rfl
    rw[←this]
    cases nm t.Name <;> cases t.Shape.all iG <;> cases t.bC.all rN <;> simp
   have hfl:(m||t.Kids.any (fun x=>mE x (d+1)))=(m||(decide (64<d+levels t-1)||decide (64<mL t L))):=by
    refine TD hd ?_
    rw[any_max,qY h4,xW,if_neg h4,yM h4]
    simp only[bD,decide_eq_true_eq]
    omega
   have htx:tx t=IP t:=by
    rw[tR];unfold yK IP;rw[if_neg h1,if_neg h2,if_neg h4,if_neg hk56.1,if_neg hk56.2]
   rw[hr,htx,←hfl]
   have hn:=Qy (self:=self) (f:=f) (b:=b) (m:=m) (l:=l) (by omega) (by omega) ho hk h
   cases hv:wx t with
   | false=>
    rw[hv] at hn
    obtain⟨⟨s1,s2,s3,s4⟩,hn⟩:=hn
    exact⟨(s1,s2,s3,s4),by simp only[hn,aD,bx,aa]⟩
   | true=>
    rw[hv] at hn
    obtain⟨b1,hn⟩:=hn
    exact⟨b1,by simp only[hn,aD,bx,aa]⟩
  ·rw[if_neg h3] at hc;cases hc
end Go.DN
