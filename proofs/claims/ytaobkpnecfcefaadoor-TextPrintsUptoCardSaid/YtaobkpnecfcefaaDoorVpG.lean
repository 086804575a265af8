/-
  Text, printing: the plain law: expressions, by their size.
-/
import Derived.Test.YtaobkpnecfcefaaDoorVpF
set_option linter.unusedVariables false
set_option linter.unusedSimpArgs false
namespace Go.DN
open Go.AM
theorem k0_mem {t:STree}(h:t.Kids.length=2):k0 t∈t.Kids:=by rw[two_kids h];exact List.mem_cons_self
theorem k1_mem {t:STree}(h:t.Kids.length=2):k1 t∈t.Kids:=by rw[two_kids h];exact List.mem_cons_of_mem _ List.mem_cons_self
theorem k0_get {t:STree}(h:t.Kids.length=2):idx t.Kids 0=some (k0 t):=by rw[two_kids h];rfl
theorem k1_get {t:STree}(h:t.Kids.length=2):idx t.Kids 1=some (k1 t):=by rw[two_kids h];rfl
theorem wt_two {t:STree}(h:t.Kids.length=2):wtT (k0 t)+wtT (k1 t)+t.Name.size+8≤wtT t:=by
 have:=wt_parts t
 rw[two_kids h] at this
 simp only[List.map_cons,List.map_nil,List.sum_cons,List.sum_nil] at this
 simp only[wtS,wtL] at this
 omega
theorem brk_le {x:STree}{b:Bool}(h:okT x):(brk b (tx x)).length+8≤40*wtT x:=by have:=tx_le h;have:=brk_len b (tx x);omega
theorem op_eq (s:ByteArray):(cond (!(s.toList==(ByteArray.mk #[43]).toList)) (cond (!(s.toList==(ByteArray.mk #[45]).toList)) (some (!(s.toList==(ByteArray.mk #[42]).toList))) (some false)) (some false):Option Bool)=some (!(opB s)):=by
 unfold opB pls mns mul
 cases s.toList==(ByteArray.mk #[43]).toList <;> cases s.toList==(ByteArray.mk #[45]).toList <;> cases s.toList==(ByteArray.mk #[42]).toList <;> rfl
def twoX (t:STree):List Int:=brk (weakB t (k0 t) 0) (tx (k0 t))++([32]++bytesI t.Name++[32])++brk (weakB t (k1 t) 1) (tx (k1 t))
theorem two_okP {self:SP}{f:Nat}{t:STree}{L:Nat}{b:Bool}{d:Nat}{m:Bool}{l:List Int}(hf:4<f) (h4:t.Kind=4) (h2:t.Kids.length=2) (hw:L+wtT t≤Bd) (hL:1≤L) (ho:okT t) (hd:64<d→m=true) (hk:PartsOk self t d) (h:l.length+40*wtT t≤140737488355328):
  OkW (opB t.Name&&(right (k0 t)&&right (k1 t))) d (m||(decide (64<d+levels t-1)||decide (64<mL t L))) (l++twoX t) (F.text_writer_two self f t (pw t) L b d m l):=by
 obtain⟨_,o4⟩:=(okT_eq t).1 ho
 have hw2:=wt_two h2
 have hp:=pw_le t
 have hp1:1≤pw t:=by unfold pw;rw[if_neg (by omega),if_pos h4];split <;> omega
 have hp2:pw t≤2:=by unfold pw;rw[if_neg (by omega),if_pos h4];split <;> omega
 unfold F.text_writer_two
 rw[op_eq,Option.bind_some]
 cases hop:opB t.Name with
 | false=>exact OkW.no (by rfl) ⟨(b,(d:Int),m,l),rfl⟩
 | true=>
  simp only[Bool.not_true,cond_false]
  have hm1:(cond m (some (b,(d:Int),true)) (some (b,(d:Int),decide ((L:Int)>64))):Option (Bool×Int×Bool))=some (b,(d:Int),m||decide (64<L)):=by
   cases m with
   | true=>rfl
   | false=>
    have:decide ((L:Int)>64)=decide (64<L):=by rw[decide_eq_decide];omega
    rw[this];rfl
  have hn:(cond ((pw (k0 t):Int)==(pw t:Int)) (some (IntKind.wrap .i64 ((L:Int)+1))) (some 1):Option Int)=some (((if pw (k0 t)=pw t then L+1 else 1:Nat)):Int):=by
   rw[nat_beq]
   by_cases he:pw (k0 t)=pw t
   ·rw[decide_eq_true he,if_pos he,cond_true,wrB (i:=L) (n:=Bd) (by have:=wtT_pos t;omega) (Nat.le_refl _)]
   ·rw[decide_eq_false he,if_neg he];rfl
  rw[hm1,Option.bind_some,k0_get h2]
  simp only[Option.bind_some,strength_ok]
  rw[hn,Option.bind_some]
  generalize hn1:(if pw (k0 t)=pw t then L+1 else 1)=n1
  have hn1':n1≤L+1:=by rw[←hn1];split <;> omega
  have hn1p:1≤n1:=by rw[←hn1];split <;> omega
  have h0:=hk (k0 t) (k0_mem h2) (pw t) n1 b (m||decide (64<L)) l hp1 hp hn1p (by omega) (fun hh=>by rw[hd hh];rfl) (by omega)
  cases hr0:right (k0 t) with
  | false=>
   rw[hr0] at h0
   obtain⟨⟨s1,s2,s3,s4⟩,h0⟩:=h0
   exact OkW.no (by rfl) ⟨(s1,s2,s3,s4),by simp only[h0,bindP,Option.bind_some]⟩
  | true=>
   rw[hr0] at h0
   obtain⟨b1,h0⟩:=h0
   simp only[h0,bindP,Option.bind_some]
   have hbl:=brk_le (x:=k0 t) (b:=decide (pw (k0 t)<pw t)) (o4 _ (k0_mem h2))
   have hl1:(l++brk (decide (pw (k0 t)<pw t)) (tx (k0 t))).length+8≤l.length+40*wtT (k0 t):=by rw[List.length_append];omega
   generalize hLL:l++brk (decide (pw (k0 t)<pw t)) (tx (k0 t))=LL at hl1⊢
   have hcat:catI [ByteArray.mk #[32],t.Name,ByteArray.mk #[32]]=[32]++bytesI t.Name++[32]:=by
    show bytesI (ByteArray.mk #[32])++(bytesI t.Name++(bytesI (ByteArray.mk #[32])++[]))=_
    simp only[List.append_nil,List.append_assoc];rfl
   have hcl:(catI [ByteArray.mk #[32],t.Name,ByteArray.mk #[32]]).length=t.Name.size+2:=by rw[hcat];simp only[List.length_append,List.length_singleton,bytesI_length];omega
   obtain⟨b2,hp3⟩:=put_ok (fu:=f) (ls:=[ByteArray.mk #[32],t.Name,ByteArray.mk #[32]]) (b:=b1) (d:=(d:Int)) (m:=(m||decide (64<L))||fP (k0 t) (pw t) n1 d) (l:=LL) (by simp;omega) (by show 3≤1099511627776;decide) (by rw[hcl];omega)
   rw[hp3]
   simp only[Option.bind_some,k1_get h2]
   rw[hcat]
   have hl2:(LL++([32]++bytesI t.Name++[32])).length=LL.length+(t.Name.size+2):=by rw[←hcat,List.length_append,hcl]
   have hs1:IntKind.wrap .i64 ((pw t:Int)+1)=((pw t+1:Nat):Int):=by rw[i64 (by omega) (by omega)];omega
   rw[hs1]
   have h1:=hk (k1 t) (k1_mem h2) (pw t+1) 1 b2 ((m||decide (64<L))||fP (k0 t) (pw t) n1 d) (LL++([32]++bytesI t.Name++[32])) (by omega) (by omega) (Nat.le_refl _) (by have:=wtT_pos (k0 t);omega) (fun hh=>by rw[hd hh];rfl) (by omega)
   have h1:OkW (right (k1 t)) d (((m||decide (64<L))||fP (k0 t) (pw t) n1 d)||fP (k1 t) (pw t+1) 1 d) _ (self (k1 t) ((pw t+1:Nat):Int) 1 b2 d _ _):=h1
   cases hr1:right (k1 t) with
   | false=>
    rw[hr1] at h1
    obtain⟨⟨s1,s2,s3,s4⟩,h1⟩:=h1
    exact OkW.no (by rfl) ⟨(s1,s2,s3,s4),by simp only[h1,Option.bind_some]⟩
   | true=>
    rw[hr1] at h1
    obtain⟨b3,h1⟩:=h1
    refine⟨b3,?_⟩
    simp only[h1,Option.bind_some]
    have hflag:(((m||decide (64<L))||fP (k0 t) (pw t) n1 d)||fP (k1 t) (pw t+1) 1 d)=(m||(decide (64<d+levels t-1)||decide (64<mL t L))):=by
     have hm:=much_two (L:=L) (d:=d) hL h4 h2
     rw[hn1] at hm
     generalize decide (64<L)=x1 at hm⊢
     generalize fP (k0 t) (pw t) n1 d=x2 at hm⊢
     generalize fP (k1 t) (pw t+1) 1 d=x3 at hm⊢
     generalize (decide (64<d+levels t-1)||decide (64<mL t L))=x4 at hm⊢
     by_cases hd6:64<d
     ·rw[hd hd6];rfl
     ·rw[decide_eq_false hd6,Bool.or_false,Bool.or_false] at hm
      rw[←hm]
      cases m <;> cases x1 <;> cases x2 <;> cases x3 <;> rfl
    rw[hflag]
    have htx:LL++([32]++bytesI t.Name++[32])++brk (decide (pw (k1 t)<pw t+1)) (tx (k1 t))=l++twoX t:=by
     rw[←hLL];unfold twoX weakB;simp only[List.append_assoc,Nat.add_zero]
    rw[htx]
theorem levels_no {t:STree}(h:t.Kids.length=0):levels t=1:=by rw[levels_eq,List.eq_nil_of_length_eq_zero h];rfl
theorem longest_no {t:STree}(h4:t.Kind≠4) (h:t.Kids.length=0):longest t=0:=by rw[longest_eq,chain_zero h4,List.eq_nil_of_length_eq_zero h];rfl
theorem lvL_plain {t:STree}(h4:t.Kind≠4):∀(j:Nat) (ks:List STree),lvL t j ks (ks.map levels)=ks.map levels
 | _,[]=>rfl
 | j,k::r=>by simp only[List.map_cons,lvL,lvL_plain h4 (j+1) r];rw[show lvW t j k (levels k)=levels k from if_neg (by rintro⟨h,_⟩;exact h4 h)]
theorem levels_plain {t:STree}(h4:t.Kind≠4):levels t=1+maxL (t.Kids.map levels):=by rw[levels_eq,lvL_plain h4]
theorem longest_plain {t:STree}(h4:t.Kind≠4):longest t=maxL (t.Kids.map longest):=by rw[longest_eq,chain_zero h4,Nat.zero_max]
theorem any_step {q p:Bool}{d u v a b:Nat}(ih:(q=true∨64<d)↔((64<d+u∨64<v)∨64<d)) (hp:p=true↔(64<d+a∨64<b)):((p||q)=true∨64<d)↔((64<d+max a u∨64<max b v)∨64<d):=by
 cases q <;> cases p <;> simp at ih hp⊢<;> omega
theorem any_max (d:Nat):∀l:List STree,(l.any (fun x=>mE x (d+1))=true∨64<d)↔((64<d+maxL (l.map levels)∨64<maxL (l.map longest))∨64<d)
 | []=>by simp only[List.any_nil,List.map_nil,maxL];simp
 | x::r=>by
  have hp:=levels_pos x
  have:(mE x (d+1)=true)↔(64<d+levels x∨64<longest x):=by
   unfold mE;simp only[Bool.or_eq_true,decide_eq_true_eq];omega
  rw[List.any_cons,List.map_cons,List.map_cons]
  exact any_step (any_max d r) this
theorem orD {m a c:Bool}{d:Nat}(hd:64<d→m=true) (h:(a=true∨64<d)↔(c=true∨64<d)):(m||a)=(m||c):=by
 by_cases h6:64<d
 ·rw[hd h6];rfl
 ·have:a=c:=by
   rw[Bool.eq_iff_iff]
   constructor
   ·intro ha;exact(h.1 (.inl ha)).resolve_right h6
   ·intro hc;exact(h.2 (.inl hc)).resolve_right h6
  rw[this]
theorem right_own {t:STree}(h:ownB t=false):right t=false:=by rw[right_eq,h];rfl
theorem kids_nil {t:STree}(h:t.Kids.length=0):t.Kids.all right=true:=by rw[List.eq_nil_of_length_eq_zero h];rfl
theorem part0 {self:SE}{self2:SP}{f:Nat}{t:STree}{least L:Nat}{b:Bool}{d:Nat}{m:Bool}{l:List Int}(hf:wtT t+10<f) (hl:least≤pw t) (hp:1≤pw t) (hw:L+wtT t≤Bd) (hL:1≤L) (ho:okT t) (hd:64<d→m=true)
  (hk:KidsOk self t d) (hk2:PartsOk self2 t d) (h:l.length+40*wtT t≤140737488355328):
  OkW (right t) d (m||(decide (64<d+levels t-1)||decide (64<mL t L))) (l++tx t) (F.text_writer_part_b self self2 f t least L b d m l):=by
 obtain⟨⟨o1,o2,o3⟩,o4⟩:=(okT_eq t).1 ho
 have hwp:=wt_parts t
 have hpos:=wtT_pos t
 unfold wtS at hwp
 unfold F.text_writer_part_b
 simp only[eta_t,clean_ok,strength_ok,Option.bind_some]
 cases hc:cB t with
 | false=>exact OkW.no (right_own (own_clean hc)) ⟨(b,(d:Int),m,l),rfl⟩
 | true=>
  have hlt:decide ((pw t:Int)<(least:Int))=false:=decide_eq_false (by omega)
  simp only[Bool.not_true,cond_false,hlt]
  have hk56:t.Kind≠5∧t.Kind≠6:=by
   refine⟨fun e=>?_,fun e=>?_⟩
   ·unfold pw at hp;rw[if_pos (.inl e)] at hp;omega
   ·unfold pw at hp;rw[if_pos (.inr e)] at hp;omega
  rw[int_eqd,int_eqd,int_eqd]
  unfold cB at hc
  by_cases h1:t.Kind=1
  ·rw[if_pos h1] at hc
   simp only[Bool.and_eq_true,decide_eq_true_eq] at hc
   obtain⟨c1,c2,c3⟩:=hc
   have h4:t.Kind≠4:=by omega
   have hr:right t=decide (0≤t.Number):=by
    rw[right_eq,kids_nil c3,Bool.and_true]
    unfold ownB
    rw[if_pos h1,c1,c2,decide_eq_true c3];simp
   have hfl:(m||(decide (64<d+levels t-1)||decide (64<mL t L)))=m:=by
    rw[levels_no c3,mL_eq,if_neg h4,longest_no h4 c3]
    have:(m||(decide (64<d+1-1)||decide (64<max 0 0)))=(m||false):=orD hd (by simp)
    rw[this,Bool.or_false]
   have htx:tx t=dg t.Number:=by rw[tx_eq];unfold txB;rw[if_pos h1]
   rw[hr,hfl,htx,decide_eq_true h1]
   simp only[cond_true]
   have hn:=number_okP (fu:=f) (n:=t.Number) (b:=b) (d:=(d:Int)) (m:=m) (l:=l) (by omega) o1 (by omega)
   cases hv:decide (0≤t.Number) with
   | false=>
    rw[hv] at hn
    obtain⟨⟨s1,s2,s3,s4⟩,hn⟩:=hn
    exact⟨(s1,s2,s3,s4),by simp only[hn,bindP,bindE,Option.bind_some]⟩
   | true=>
    rw[hv] at hn
    obtain⟨b1,hn⟩:=hn
    exact⟨b1,by simp only[hn,bindP,bindE,Option.bind_some]⟩
  rw[if_neg h1] at hc
  rw[decide_eq_false h1]
  simp only[cond_false]
  by_cases h2:t.Kind=2
  ·rw[if_pos h2] at hc
   simp only[Bool.and_eq_true,decide_eq_true_eq] at hc
   obtain⟨c1,c2,c3⟩:=hc
   have h4:t.Kind≠4:=by omega
   have hr:right t=nm t.Name:=by
    rw[right_eq,kids_nil c3,Bool.and_true]
    unfold ownB
    rw[if_neg h1,if_pos h2,c1,decide_eq_true c2,decide_eq_true c3];simp
   have hfl:(m||(decide (64<d+levels t-1)||decide (64<mL t L)))=m:=by
    rw[levels_no c3,mL_eq,if_neg h4,longest_no h4 c3]
    have:(m||(decide (64<d+1-1)||decide (64<max 0 0)))=(m||false):=orD hd (by simp)
    rw[this,Bool.or_false]
   have htx:tx t=bytesI t.Name:=by rw[tx_eq];unfold txB;rw[if_neg h1,if_pos h2]
   rw[hr,hfl,htx,decide_eq_true h2]
   simp only[cond_true]
   have hn:=name_okP (fu:=f) (s:=t.Name) (b:=b) (d:=(d:Int)) (m:=m) (l:=l) (by omega) (by omega) (by omega) (by omega)
   cases hv:nm t.Name with
   | false=>
    rw[hv] at hn
    obtain⟨⟨s1,s2,s3,s4⟩,hn⟩:=hn
    exact⟨(s1,s2,s3,s4),by simp only[hn,bindP,bindE,Option.bind_some]⟩
   | true=>
    rw[hv] at hn
    obtain⟨b1,hn⟩:=hn
    exact⟨b1,by simp only[hn,bindP,bindE,Option.bind_some]⟩
  rw[if_neg h2] at hc
  rw[decide_eq_false h2]
  simp only[cond_false]
  by_cases h4:t.Kind=4
  ·rw[if_pos (.inl h4)] at hc
   simp only[Bool.and_eq_true,decide_eq_true_eq] at hc
   obtain⟨c1,c2,c3⟩:=hc
   have hr:right t=(opB t.Name&&(right (k0 t)&&right (k1 t))):=by
    rw[right_eq]
    unfold ownB
    rw[if_neg h1,if_neg h2,if_pos h4,c1,decide_eq_true c2,decide_eq_true c3]
    conv=>lhs;rw[two_kids c3]
    simp
   have htx:tx t=twoX t:=by
    rw[tx_eq];unfold txB twoX;rw[if_neg h1,if_neg h2,if_pos h4]
    conv=>lhs;rw[two_kids c3]
    rfl
   rw[hr,htx,decide_eq_true h4]
   simp only[cond_true]
   have hn:=two_okP (self:=self2) (f:=f) (b:=b) (l:=l) (by omega) h4 c3 hw hL ho hd hk2 h
   cases hv:(opB t.Name&&(right (k0 t)&&right (k1 t))) with
   | false=>
    rw[hv] at hn
    obtain⟨⟨s1,s2,s3,s4⟩,hn⟩:=hn
    exact⟨(s1,s2,s3,s4),by simp only[hn,bindP,bindE,Option.bind_some]⟩
   | true=>
    rw[hv] at hn
    obtain⟨b1,hn⟩:=hn
    exact⟨b1,by simp only[hn,bindP,bindE,Option.bind_some]⟩
  rw[if_neg (by omega),if_neg hk56.2] at hc
  rw[decide_eq_false h4]
  simp only[cond_false]
  by_cases h3:t.Kind=3
  ·rw[if_pos h3] at hc
   simp only[Bool.and_eq_true,decide_eq_true_eq] at hc
   obtain⟨c1,c2⟩:=hc
   have hr:right t=cllB t:=by
    rw[right_eq]
    unfold ownB cllB
    rw[if_neg h1,if_neg h2,if_neg h4,if_neg hk56.1,if_neg hk56.2,if_pos h3,decide_eq_true c1,c2]
    have:t.Shape.all dimB=(!t.Shaped||t.Shape.all dimB):=by
     cases hs:t.Shaped with
     | true=>rfl
     | false=>
      rw[hs] at c2
      have:t.Shape=[]:=by simpa using c2
      rw[this];rfl
    rw[←this]
    cases nm t.Name <;> cases t.Shape.all dimB <;> cases t.Lists.all nlB <;> simp
   have hfl:(m||t.Kids.any (fun x=>mE x (d+1)))=(m||(decide (64<d+levels t-1)||decide (64<mL t L))):=by
    refine orD hd ?_
    rw[any_max,levels_plain h4,mL_eq,if_neg h4,longest_plain h4]
    simp only[Bool.or_eq_true,decide_eq_true_eq]
    omega
   have htx:tx t=cllX t:=by
    rw[tx_eq];unfold txB cllX;rw[if_neg h1,if_neg h2,if_neg h4,if_neg hk56.1,if_neg hk56.2]
   rw[hr,htx,←hfl]
   have hn:=call_okP (self:=self) (f:=f) (b:=b) (m:=m) (l:=l) (by omega) (by omega) ho hk h
   cases hv:cllB t with
   | false=>
    rw[hv] at hn
    obtain⟨⟨s1,s2,s3,s4⟩,hn⟩:=hn
    exact⟨(s1,s2,s3,s4),by simp only[hn,bindP,bindE,Option.bind_some]⟩
   | true=>
    rw[hv] at hn
    obtain⟨b1,hn⟩:=hn
    exact⟨b1,by simp only[hn,bindP,bindE,Option.bind_some]⟩
  ·rw[if_neg h3] at hc;cases hc
end Go.DN
