/-
  Text, printing: the plain law: the program's small steps.
-/
import Derived.Test.YtaobkpnecfcefaaDoorVpB
set_option linter.unusedVariables false
set_option linter.unusedSimpArgs false
namespace Go.DN
open Go.AM
abbrev W4:Type:=Bool×Int×Bool×List Int
abbrev RS:Type:=Option (W4⊕((Int×Int)×W4))
def OkW (g:Bool) (d:Int) (m:Bool) (l:List Int) (o:RS):Prop:=match g with
 | true=>∃b,o=some (.inl (b,d,m,l))
 | false=>∃s,o=some (.inr ((7,0),s))
theorem loop_idx {σ ρ α:Type}{body:σ→Option (σ⊕ρ)}(l:List α) (I:Nat→σ→Prop) (R:ρ→Prop)
  (hs:∀(k:Nat) (x:α) (s:σ),l[k]?=some x→I k s→(∃s',body s=some (.inl s')∧I (k+1) s')∨∃r,body s=some (.inr r)∧R r)
  (he:∀s,I l.length s→∃r,body s=some (.inr r)∧R r):∀(m k n:Nat) (s:σ),m=l.length-k→k≤l.length→m<n→I k s→∃r,loopF body n s=some r∧R r
 | 0,k,n,s,hm,hk,hn,hI=>by
  obtain rfl:k=l.length:=by omega
  obtain⟨n',rfl⟩:∃n',n=n'+1:=⟨n-1,by omega⟩
  obtain⟨r,h1,h2⟩:=he s hI
  exact⟨r,by simp only[loopF,h1],h2⟩
 | m+1,k,n,s,hm,hk,hn,hI=>by
  obtain⟨n',rfl⟩:∃n',n=n'+1:=⟨n-1,by omega⟩
  have hx:l[k]?=some (l[k]'(by omega)):=List.getElem?_eq_getElem _
  rcases hs k _ s hx hI with ⟨s',h1,h2⟩ | ⟨r,h1,h2⟩
  ·obtain⟨r,h3,h4⟩:=loop_idx l I R hs he m (k+1) n' s' (by omega) (by omega) (by omega) h2
   exact⟨r,by simp only[loopF,h1];exact h3,h4⟩
  ·exact⟨r,by simp only[loopF,h1],h2⟩
def catI:List ByteArray→List Int
 | []=>[]
 | x::r=>bytesI x++catI r
theorem ws_ok (fu:Nat) (s:ByteArray) (b:Bool) (d:Int) (m:Bool) (l:List Int) (h:l.length+s.size≤140737488355328):F.strings_Builder_WriteString fu s b d m l=some ((s.size:Int),d,m,l++bytesI s):=by
 unfold F.strings_Builder_WriteString copyF
 simp only[Option.bind_some,Nat.beq_refl,cond_true,chk_pos h]
theorem put_loop (fu:Nat) (ls:List ByteArray) (d:Int) (m:Bool) (hls:ls.length≤Bd):∀(r:List ByteArray) (k n:Nat) (b:Bool) (l:List Int),r=ls.drop k→k≤ls.length→r.length<n→l.length+(catI r).length≤140737488355328→
  ∃b',loopF (F.text_writer_put_l1 fu ls) n ((k:Int),b,d,m,l)=some (b',d,m,l++catI r)
 | [],k,n,b,l,hr,hk,hn,hl=>by
  obtain⟨n',rfl⟩:∃n',n=n'+1:=⟨n-1,by omega⟩
  have:k=ls.length:=by have:=List.drop_eq_nil_iff.1 hr.symm;omega
  subst this
  refine⟨b,?_⟩
  simp only[loopF,F.text_writer_put_l1,dec_end,cond_false,catI,List.append_nil]
 | x::r,k,n,b,l,hr,hk,hn,hl=>by
  obtain⟨n',rfl⟩:∃n',n=n'+1:=⟨n-1,by omega⟩
  have hlt:k<ls.length:=by
   rcases Nat.lt_or_ge k ls.length with h | h
   ·exact h
   ·rw[List.drop_eq_nil_of_le h] at hr;cases hr
  rw[List.drop_eq_getElem_cons hlt] at hr
  cases hr
  have hx:ls[k]?=some ls[k]:=List.getElem?_eq_getElem hlt
  simp only[catI,List.length_append,bytesI_length] at hl
  obtain⟨b',h⟩:=put_loop fu ls d m hls (ls.drop (k+1)) (k+1) n' false (l++bytesI ls[k]) rfl (by omega) (by simp at hn⊢;omega) (by rw[List.length_append,bytesI_length];omega)
  refine⟨b',?_⟩
  simp only[loopF,F.text_writer_put_l1,dec_lt hx,cond_true,idx_nat hx,Option.bind_some,ws_ok fu ls[k] b d m l (by omega),wrB hlt hls]
  rw[h,catI,List.append_assoc]
theorem put_ok {fu:Nat}{ls:List ByteArray}{b:Bool}{d:Int}{m:Bool}{l:List Int}(hf:ls.length<fu) (hls:ls.length≤Bd) (h:l.length+(catI ls).length≤140737488355328):∃b',F.text_writer_put fu ls b d m l=some (b',d,m,l++catI ls):=by
 obtain⟨b',h⟩:=put_loop fu ls d m hls ls 0 fu b l rfl (Nat.zero_le _) hf h
 refine⟨b',?_⟩
 unfold F.text_writer_put
 have h:loopF (F.text_writer_put_l1 fu ls) fu (0,b,d,m,l)=_:=h
 rw[h];rfl
theorem put1 {fu:Nat}{s:ByteArray}{b:Bool}{d:Int}{m:Bool}{l:List Int}(hf:1<fu) (h:l.length+s.size≤140737488355328):∃b',F.text_writer_put fu [s] b d m l=some (b',d,m,l++bytesI s):=by
 obtain⟨b',h⟩:=put_ok (fu:=fu) (ls:=[s]) (b:=b) (d:=d) (m:=m) (l:=l) hf (by show 1≤1099511627776;decide) (by simp[catI,bytesI_length];omega)
 exact⟨b',by rw[h];simp[catI]⟩
theorem name_okP {fu:Nat}{s:ByteArray}{b:Bool}{d:Int}{m:Bool}{l:List Int}(hf:1<fu) (hfs:s.size<fu) (hs:s.size≤Bd) (h:l.length+s.size≤140737488355328):OkW (nm s) d m (l++bytesI s) (F.text_writer_name fu s b d m l):=by
 unfold F.text_writer_name
 rw[plainName_okB hs hfs]
 cases hn:nm s with
 | false=>exact⟨_,rfl⟩
 | true=>
  obtain⟨b',h1⟩:=put1 (b:=b) (d:=d) (m:=m) hf h
  refine⟨b',?_⟩
  simp only[Option.bind_some,Bool.not_true,cond_false,h1]
theorem number_okP {fu:Nat}{n:Int}{b:Bool}{d:Int}{m:Bool}{l:List Int}(hf:1<fu) (hn:okI n) (h:l.length+20≤140737488355328):OkW (decide (0≤n)) d m (l++dg n) (F.text_writer_number fu n b d m l):=by
 unfold F.text_writer_number
 by_cases h0:n<0
 ·have:decide (0≤n)=false:=decide_eq_false (by omega)
  rw[this,decide_eq_true h0]
  exact⟨_,rfl⟩
 ·have h1:decide (0≤n)=true:=decide_eq_true (by omega)
  have hs:(strI n).size≤20:=by have:=dg_len hn;unfold dg at this;rw[bytesI_length] at this;exact this
  obtain⟨b',h2⟩:=put1 (s:=strI n) (b:=b) (d:=d) (m:=m) (l:=l) hf (by omega)
  rw[h1,decide_eq_false h0]
  refine⟨b',?_⟩
  unfold fmtI
  rw[chk_pos ⟨rfl,hn⟩]
  simp only[cond_false,Option.bind_some,h2]
  rfl
theorem em_eq (s:ByteArray):(s.toList==(ByteArray.mk #[]).toList)=em s:=empty_iff
theorem ahead_ok {fu:Nat}{k:Nat}{s:ByteArray}{b:Bool}{d:Int}{m:Bool}{l:List Int}(hf:1<fu) (h:l.length+s.size≤140737488355328):
  ∃b',(cond (decide ((k:Int)>0)) ((F.text_writer_put fu [s] b d m l).bind fun ((r1,r2,r3,r4):W4)=>some (r1,r2,r3,r4)) (some (b,d,m,l)):Option W4)=some (b',d,m,l++(if 0<k then bytesI s else[])):=by
 by_cases hk:0<k
 ·obtain⟨b',h1⟩:=put1 (b:=b) (d:=d) (m:=m) hf h
  refine⟨b',?_⟩
  rw[decide_eq_true (by omega),if_pos hk,cond_true,h1];rfl
 ·refine⟨b,?_⟩
  rw[decide_eq_false (by omega),if_neg hk,cond_false,List.append_nil]
abbrev XS:Type:=Ex W4 (W4⊕((Int×Int)×W4))
def R1 (g:Bool) (d:Int) (m:Bool) (l:List Int) (e:XS):Prop:=match g with
 | true=>∃b,e=.brk (b,d,m,l)
 | false=>∃s,e=.ret (.inr ((7,0),s))
theorem mem_of {α:Type}{l:List α}{k:Nat}{x:α}(h:l[k]?=some x):x∈l:=List.mem_of_getElem? h
theorem all_take {α:Type}{p:α→Bool}{l:List α}{k:Nat}{x:α}(h:l[k]?=some x):(l.take (k+1)).all p=((l.take k).all p&&p x):=by
 rw[List.take_add_one,h];simp
theorem all_false {α:Type}{p:α→Bool}{l:List α}{k:Nat}{x:α}(h:l[k]?=some x) (hp:p x=false):l.all p=false:=by
 rw[Bool.eq_false_iff]
 intro ha
 rw[List.all_eq_true.1 ha x (mem_of h)] at hp;cases hp
theorem sepTake_le {α:Type}{f:α→List Int}{w:α→Nat}{c:List Int}{K:Nat}{l:List α}(k:Nat) (h:∀x∈l,(f x).length+c.length≤K*w x):(sep c ((l.take k).map f)).length≤K*((l.take k).map w).sum:=sep_le fun x hx=>h x (List.mem_of_mem_take hx)
theorem sum_take {α:Type}{w:α→Nat}{l:List α}{k:Nat}{x:α}(h:l[k]?=some x):((l.take k).map w).sum+w x≤(l.map w).sum:=by
 conv=>rhs;rw[←List.take_append_drop k l]
 obtain⟨h1,h2⟩:=List.getElem?_eq_some_iff.1 h
 rw[List.drop_eq_getElem_cons h1,h2]
 simp only[List.map_append,List.map_cons,List.sum_append,List.sum_cons]
 omega
theorem shape_okP {fu:Nat}{sp:List SDim}{b:Bool}{d:Int}{m:Bool}{l:List Int}(hf:wtL wtD sp+1<fu) (ho:∀x∈sp,okD x) (hw:wtL wtD sp≤Bd) (h:l.length+40*wtL wtD sp≤140737488355328):
  OkW (sp.all dimB) d m (l++shapeX sp) (F.text_writer_shape fu sp b d m l):=by
 unfold F.text_writer_shape
 have hlen:sp.length≤(sp.map wtD).sum:=sum_len (w:=wtD) (fun x=>by simp only[wtD,wtS];omega) sp
 have hW:wtL wtD sp=(sp.map wtD).sum+1:=rfl
 obtain⟨b0,h0⟩:=put1 (fu:=fu) (s:=ByteArray.mk #[91]) (b:=b) (d:=d) (m:=m) (l:=l) (by omega) (by show l.length+1≤_;omega)
 rw[h0,Option.bind_some]
 obtain⟨r,h1,h2⟩:=loop_idx (body:=F.text_writer_shape_l1 fu sp) sp (fun k s=>(sp.take k).all dimB=true∧∃b',s=((k:Int),b',d,m,l++bytesI (ByteArray.mk #[91])++sep [32] ((sp.take k).map dimX)))
  (R1 (sp.all dimB) d m (l++bytesI (ByteArray.mk #[91])++sep [32] (sp.map dimX))) (by
   rintro k x s hx ⟨hall,b',rfl⟩
   have hk:=get_lt hx
   have hsum:=sum_take (w:=wtD) hx
   have hle:=sepTake_le (f:=dimX) (w:=wtD) (c:=[32]) (K:=40) (l:=sp) k fun y hy=>dimX_le (ho y hy)
   have hdx:=dimX_le (ho x (mem_of hx))
   have hb1:(l++bytesI (ByteArray.mk #[91])++sep [32] ((sp.take k).map dimX)).length+40*wtD x+1≤140737488355328:=by
    simp only[List.length_append,bytesI_length]
    have:(ByteArray.mk #[91]).size=1:=rfl
    omega
   obtain⟨b2,h3⟩:=ahead_ok (fu:=fu) (k:=k) (s:=ByteArray.mk #[32]) (b:=b') (d:=d) (m:=m) (l:=l++bytesI (ByteArray.mk #[91])++sep [32] ((sp.take k).map dimX)) (by omega) (by show _+1≤_;omega)
   generalize hL:l++bytesI (ByteArray.mk #[91])++sep [32] ((sp.take k).map dimX)=L at hb1 h3⊢
   have hL2:(L++(if 0<k then bytesI (ByteArray.mk #[32]) else[])).length≤L.length+1:=by
    rw[List.length_append];split
    ·show _+1≤_;omega
    ·simp
   simp only[F.text_writer_shape_l1,dec_lt hx,cond_true,idx_nat hx,Option.bind_some,em_eq]
   rw[h3,Option.bind_some]
   have hnx:l++bytesI (ByteArray.mk #[91])++sep [32] ((sp.take (k+1)).map dimX)=L++(if 0<k then bytesI (ByteArray.mk #[32]) else[])++dimX x:=by
    rw[sep_take dimX [32] hx,←hL]
    simp only[List.append_assoc]
    rfl
   generalize hM:L++(if 0<k then bytesI (ByteArray.mk #[32]) else[])=M at hL2 h3 hnx⊢
   cases he:em x.Name with
   | true=>
    have hdim:dimB x=decide (0≤x.Size):=by unfold dimB;rw[he];rfl
    have hdX:dimX x=dg x.Size:=by unfold dimX;rw[he];rfl
    have hn:=number_okP (fu:=fu) (n:=x.Size) (b:=b2) (d:=d) (m:=m) (l:=M) (by omega) (ho x (mem_of hx)) (by simp only[wtD,wtS] at hb1;omega)
    cases hv:decide (0≤x.Size) with
    | true=>
     rw[hv] at hn
     obtain⟨b3,hn⟩:=hn
     left
     refine⟨_,?_,(all_take hx).trans (by rw[hall,hdim,hv];rfl),b3,rfl⟩
     simp only[cond_true,hn,bindP,bindE,Option.bind_some]
     rw[wrB hk (by omega),hnx,hdX]
    | false=>
     rw[hv] at hn
     obtain⟨s,hn⟩:=hn
     obtain⟨s1,s2,s3,s4⟩:=s
     right
     have:sp.all dimB=false:=all_false hx (by rw[hdim,hv])
     rw[this]
     refine⟨_,?_,(s1,s2,s3,s4),rfl⟩
     simp only[cond_true,hn,bindP,bindE,Option.bind_some]
   | false=>
    have hdX:dimX x=bytesI x.Name:=by unfold dimX;rw[he];rfl
    by_cases hz:x.Size=0
    ·have hdim:dimB x=nm x.Name:=by unfold dimB;rw[he,decide_eq_true hz];rfl
     have hz2:(x.Size !=0)=false:=by simp[hz]
     have hn:=name_okP (fu:=fu) (s:=x.Name) (b:=b2) (d:=d) (m:=m) (l:=M) (by omega) (by simp only[wtD,wtS] at hsum;omega) (by simp only[wtD,wtS] at hsum;omega) (by simp only[wtD,wtS] at hb1;omega)
     cases hv:nm x.Name with
     | true=>
      rw[hv] at hn
      obtain⟨b3,hn⟩:=hn
      left
      refine⟨_,?_,(all_take hx).trans (by rw[hall,hdim,hv];rfl),b3,rfl⟩
      simp only[cond_false,hz2,hn,bindP,bindE,Option.bind_some]
      rw[wrB hk (by omega),hnx,hdX]
     | false=>
      rw[hv] at hn
      obtain⟨s,hn⟩:=hn
      obtain⟨s1,s2,s3,s4⟩:=s
      right
      have:sp.all dimB=false:=all_false hx (by rw[hdim,hv])
      rw[this]
      refine⟨_,?_,(s1,s2,s3,s4),rfl⟩
      simp only[cond_false,hz2,hn,bindP,bindE,Option.bind_some]
    ·have hdim:dimB x=false:=by unfold dimB;rw[he,decide_eq_false hz];rfl
     have hz2:(x.Size !=0)=true:=by simp[hz]
     right
     have:sp.all dimB=false:=all_false hx hdim
     rw[this]
     refine⟨_,?_,(b2,d,m,M),rfl⟩
     simp only[cond_false,cond_true,hz2,bindE])
  (by
   rintro s ⟨hall,b',rfl⟩
   rw[take_all] at hall⊢
   rw[hall]
   exact⟨_,by simp only[F.text_writer_shape_l1,dec_end,cond_false],b',rfl⟩) sp.length 0 fu ((0:Nat),b0,d,m,l++bytesI (ByteArray.mk #[91])) rfl (Nat.zero_le _) (by omega) ⟨rfl,b0,by simp[sep]⟩
 have h1:loopF (F.text_writer_shape_l1 fu sp) fu (0,b0,d,m,l++bytesI (ByteArray.mk #[91]))=some r:=h1
 dsimp only
 rw[h1]
 cases ha:sp.all dimB with
 | true=>
  rw[ha] at h2
  obtain⟨b4,rfl⟩:=h2
  have hle:=sep_le (f:=dimX) (w:=wtD) (c:=[32]) (K:=40) (l:=sp) fun y hy=>dimX_le (ho y hy)
  obtain⟨b5,h5⟩:=put1 (fu:=fu) (s:=ByteArray.mk #[93]) (b:=b4) (d:=d) (m:=m) (l:=l++bytesI (ByteArray.mk #[91])++sep [32] (sp.map dimX)) (by omega) (by
   simp only[List.length_append,bytesI_length]
   show l.length+1+_+1≤_
   omega)
  refine⟨b5,?_⟩
  simp only[bindE,h5,Option.bind_some]
  rw[show l++bytesI (ByteArray.mk #[91])++sep [32] (sp.map dimX)++bytesI (ByteArray.mk #[93])=l++shapeX sp by unfold shapeX;simp only[List.append_assoc];rfl]
 | false=>
  rw[ha] at h2
  obtain⟨s,rfl⟩:=h2
  exact⟨s,rfl⟩
end Go.DN
