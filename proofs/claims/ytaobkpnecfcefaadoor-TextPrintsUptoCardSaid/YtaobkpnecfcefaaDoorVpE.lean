/-
  Text, printing: the plain law: calls; sums and products.
-/
import Derived.Test.YtaobkpnecfcefaaDoorVpD
set_option linter.unusedVariables false
set_option linter.unusedSimpArgs false
namespace Go.DN
open Go.AM
def mE (t:STree) (d:Nat):Bool:=decide (64<d+levels t-1)||decide (64<longest t)
abbrev SE:Type:=STree→Bool→Int→Bool→List Int→RS
def KidsOk (self:SE) (t:STree) (d:Nat):Prop:=∀x∈t.Kids,∀(b:Bool) (m:Bool) (l:List Int),l.length+40*wtT x≤140737488355328→OkW (right x) d (m||mE x (d+1)) (l++tx x) (self x b d m l)
def R2 (g:Bool) (d:Int) (m:Bool) (l:List Int) (e:Ex W4 ((Int×W4)⊕XS)):Prop:=match g with
 | true=>∃b,e=.brk (b,d,m,l)
 | false=>∃s,e=.ret (.inr (.ret (.inr ((7,0),s))))
theorem list_okP {self:SE}{f fu:Nat}{x:List Int}{b:Bool}{d:Int}{m:Bool}{l:List Int}(hf1:1<f) (hf:wtL wtI x+1<fu) (hw:wtL wtI x≤Bd) (ho:∀n∈x,okI n) (h:l.length+40*wtL wtI x≤140737488355328):
  ∃r,loopF (F.text_writer_call_l1 self f x) fu (0,b,d,m,l)=some r∧R2 (nlB x) d m (l++sep [32] (x.map dg)) r:=by
 have hlen:x.length≤(x.map wtI).sum:=sum_len (w:=wtI) (fun _=>Nat.le_refl _) x
 have hW:wtL wtI x=(x.map wtI).sum+1:=rfl
 have hwi:∀n∈x,(dg n).length+[32].length≤40*wtI n:=fun n hn=>by have:=dg_len (ho n hn);simp only[List.length_singleton,wtI];omega
 refine loop_idx (body:=F.text_writer_call_l1 self f x) x (fun k s=>(x.take k).all (fun n=>decide (0≤n))=true∧∃b',s=((k:Int),b',d,m,l++sep [32] ((x.take k).map dg))) _ ?_ ?_ x.length 0 fu ((0:Nat),b,d,m,l) rfl (Nat.zero_le _) (by omega) ⟨rfl,b,by simp[sep]⟩
 ·rintro k y s hx ⟨hall,b',rfl⟩
  have hk:=get_lt hx
  have hsum:=sum_take (w:=wtI) hx
  have hle:=sepTake_le (f:=dg) (w:=wtI) (c:=[32]) (K:=40) (l:=x) k hwi
  have hdx:=hwi y (mem_of hx)
  have hb1:(l++sep [32] ((x.take k).map dg)).length+40≤140737488355328:=by
   simp only[List.length_append]
   simp only[wtI] at hsum
   omega
  obtain⟨b2,h3⟩:=ahead_ok (fu:=f) (k:=k) (s:=ByteArray.mk #[32]) (b:=b') (d:=d) (m:=m) (l:=l++sep [32] ((x.take k).map dg)) hf1 (by show _+1≤_;omega)
  generalize hL:l++sep [32] ((x.take k).map dg)=L at hb1 h3⊢
  have hL2:(L++(if 0<k then bytesI (ByteArray.mk #[32]) else[])).length≤L.length+1:=by
   rw[List.length_append];split
   ·show _+1≤_;omega
   ·simp
  simp only[F.text_writer_call_l1,dec_lt hx,cond_true,idx_nat hx,Option.bind_some]
  rw[h3,Option.bind_some]
  have hnx:l++sep [32] ((x.take (k+1)).map dg)=L++(if 0<k then bytesI (ByteArray.mk #[32]) else[])++dg y:=by
   rw[sep_take dg [32] hx,←hL]
   simp only[List.append_assoc]
   rfl
  generalize hM:L++(if 0<k then bytesI (ByteArray.mk #[32]) else[])=M at hL2 h3 hnx⊢
  have hn:=number_okP (fu:=f) (n:=y) (b:=b2) (d:=d) (m:=m) (l:=M) hf1 (ho y (mem_of hx)) (by omega)
  cases hv:decide (0≤y) with
  | true=>
   rw[hv] at hn
   obtain⟨b3,hn⟩:=hn
   left
   refine⟨_,?_,(all_take hx).trans (by rw[hall,hv];rfl),b3,rfl⟩
   simp only[hn,bindP,Option.bind_some]
   rw[wrB hk (by omega),hnx]
  | false=>
   rw[hv] at hn
   obtain⟨s,hn⟩:=hn
   obtain⟨s1,s2,s3,s4⟩:=s
   right
   have:nlB x=false:=all_false (p:=fun n=>decide (0≤n)) hx hv
   rw[this]
   refine⟨_,?_,(s1,s2,s3,s4),rfl⟩
   simp only[hn,bindP,Option.bind_some]
 ·rintro s ⟨hall,b',rfl⟩
  rw[take_all] at hall⊢
  have:nlB x=true:=hall
  rw[this]
  exact⟨_,by simp only[F.text_writer_call_l1,dec_end,cond_false],b',rfl⟩
theorem lists_okP {self:SE}{f:Nat}{t:STree}{b:Bool}{d:Int}{m:Bool}{l:List Int}(hf:wtL (wtL wtI) t.Lists+1<f) (hw:wtL (wtL wtI) t.Lists≤Bd) (ho:∀x∈t.Lists,∀n∈x,okI n) (h:l.length+40*wtL (wtL wtI) t.Lists≤140737488355328):
  ∃r,loopF (F.text_writer_call_l2 self f t) f (0,b,d,m,l)=some r∧R1 (t.Lists.all nlB) d m (l++(t.Lists.map listX).flatten) r:=by
 have hlen:t.Lists.length≤(t.Lists.map (wtL wtI)).sum:=sum_len (w:=wtL wtI) (fun _=>Nat.succ_le_succ (Nat.zero_le _)) t.Lists
 have hW:wtL (wtL wtI) t.Lists=(t.Lists.map (wtL wtI)).sum+1:=rfl
 have hwi:∀x∈t.Lists,(listX x).length≤40*wtL wtI x:=fun x hx=>by have:=listX_le (ho x hx);omega
 refine loop_idx (body:=F.text_writer_call_l2 self f t) t.Lists (fun k s=>(t.Lists.take k).all nlB=true∧∃b',s=((k:Int),b',d,m,l++((t.Lists.take k).map listX).flatten)) _ ?_ ?_ t.Lists.length 0 f ((0:Nat),b,d,m,l) rfl (Nat.zero_le _) (by omega) ⟨rfl,b,by simp⟩
 ·rintro k y s hx ⟨hall,b',rfl⟩
  have hk:=get_lt hx
  have hsum:=sum_take (w:=wtL wtI) hx
  have hle:=flat_le (f:=listX) (w:=wtL wtI) (K:=40) (l:=t.Lists.take k) fun z hz=>hwi z (List.mem_of_mem_take hz)
  have hly:=listX_le (ho y (mem_of hx))
  have hb1:(l++((t.Lists.take k).map listX).flatten).length+40*wtL wtI y+3≤140737488355328:=by
   simp only[List.length_append]
   omega
  generalize hL:l++((t.Lists.take k).map listX).flatten=L at hb1⊢
  obtain⟨b1,h1⟩:=put1 (fu:=f) (s:=ByteArray.mk #[123]) (b:=b') (d:=d) (m:=m) (l:=L) (by omega) (by show _+1≤_;omega)
  have hL1:(L++bytesI (ByteArray.mk #[123])).length=L.length+1:=by rw[List.length_append];rfl
  obtain⟨r,h2,h3⟩:=list_okP (self:=self) (f:=f) (fu:=f) (x:=y) (b:=b1) (d:=d) (m:=m) (l:=L++bytesI (ByteArray.mk #[123])) (by omega) (by omega) (by omega) (ho y (mem_of hx)) (by omega)
  simp only[F.text_writer_call_l2,dec_lt hx,cond_true,idx_nat hx,Option.bind_some]
  rw[h1,Option.bind_some]
  dsimp only
  rw[h2]
  cases hv:nlB y with
  | true=>
   rw[hv] at h3
   obtain⟨b3,rfl⟩:=h3
   have hsl:=sep_le (f:=dg) (w:=wtI) (c:=[32]) (K:=40) (l:=y) fun n hn=>by have:=dg_len (ho y (mem_of hx) n hn);simp only[List.length_singleton,wtI];omega
   have hWy:wtL wtI y=(y.map wtI).sum+1:=rfl
   obtain⟨b4,h4⟩:=put1 (fu:=f) (s:=ByteArray.mk #[125]) (b:=b3) (d:=d) (m:=m) (l:=L++bytesI (ByteArray.mk #[123])++sep [32] (y.map dg)) (by omega) (by
    rw[List.length_append,hL1]
    show _+1≤_
    omega)
   left
   refine⟨_,?_,(all_take hx).trans (by rw[hall,hv];rfl),b4,rfl⟩
   simp only[bindE,h4,Option.bind_some]
   rw[wrB hk (by omega),flat_take listX hx]
   have:l++(((t.Lists.take k).map listX).flatten++listX y)=L++bytesI (ByteArray.mk #[123])++sep [32] (y.map dg)++bytesI (ByteArray.mk #[125]):=by
    rw[←hL];unfold listX;simp only[List.append_assoc];rfl
   rw[this]
  | false=>
   rw[hv] at h3
   obtain⟨s,rfl⟩:=h3
   right
   have:t.Lists.all nlB=false:=all_false hx hv
   rw[this]
   exact⟨_,rfl,s,rfl⟩
 ·rintro s ⟨hall,b',rfl⟩
  rw[take_all] at hall⊢
  rw[hall]
  exact⟨_,by simp only[F.text_writer_call_l2,dec_end,cond_false],b',rfl⟩
theorem kids_okP {self:SE}{f:Nat}{t:STree}{b:Bool}{d:Nat}{m:Bool}{l:List Int}(hf:(t.Kids.map wtT).sum+1<f) (hw:(t.Kids.map wtT).sum≤Bd) (ho:∀x∈t.Kids,okT x) (hk:KidsOk self t d) (h:l.length+40*(t.Kids.map wtT).sum+2≤140737488355328):
  ∃r,loopF (F.text_writer_call_l3 self f t) f (0,b,(d:Int),m,l)=some r∧R1 (t.Kids.all right) d (m||t.Kids.any (fun x=>mE x (d+1))) (l++sep [44,32] (t.Kids.map tx)) r:=by
 have hlen:t.Kids.length≤(t.Kids.map wtT).sum:=sum_len (w:=wtT) (fun x=>by have:=wtT_pos x;omega) t.Kids
 have hwi:∀x∈t.Kids,(tx x).length+[44,32].length≤40*wtT x:=fun x hx=>by have:=tx_le (ho x hx);simp only[List.length_cons,List.length_nil];omega
 refine loop_idx (body:=F.text_writer_call_l3 self f t) t.Kids (fun k s=>(t.Kids.take k).all right=true∧∃b',s=((k:Int),b',(d:Int),(m||(t.Kids.take k).any (fun x=>mE x (d+1))),l++sep [44,32] ((t.Kids.take k).map tx))) _ ?_ ?_ t.Kids.length 0 f ((0:Nat),b,d,m,l) rfl (Nat.zero_le _) (by omega) ⟨rfl,b,by simp[sep]⟩
 ·rintro k y s hx ⟨hall,b',rfl⟩
  have hkl:=get_lt hx
  have hsum:=sum_take (w:=wtT) hx
  have hle:=sepTake_le (f:=tx) (w:=wtT) (c:=[44,32]) (K:=40) (l:=t.Kids) k hwi
  have hb1:(l++sep [44,32] ((t.Kids.take k).map tx)).length+40*wtT y+2≤140737488355328:=by
   simp only[List.length_append]
   omega
  have hlx:=hwi y (mem_of hx)
  have hpos:=wtT_pos y
  have hany:(m||(t.Kids.take (k+1)).any (fun x=>mE x (d+1)))=((m||(t.Kids.take k).any (fun x=>mE x (d+1)))||mE y (d+1)):=by
   rw[List.take_add_one,hx];simp[Bool.or_assoc]
  generalize hmm:(m||(t.Kids.take k).any (fun x=>mE x (d+1)))=mm at hany⊢
  obtain⟨b2,h3⟩:=ahead_ok (fu:=f) (k:=k) (s:=ByteArray.mk #[44,32]) (b:=b') (d:=(d:Int)) (m:=mm) (l:=l++sep [44,32] ((t.Kids.take k).map tx)) (by omega) (by show _+2≤_;omega)
  generalize hL:l++sep [44,32] ((t.Kids.take k).map tx)=L at hb1 h3⊢
  have hL2:(L++(if 0<k then bytesI (ByteArray.mk #[44,32]) else[])).length≤L.length+2:=by
   rw[List.length_append];split
   ·show _+2≤_;omega
   ·simp
  simp only[F.text_writer_call_l3,dec_lt hx,cond_true,idx_nat hx,Option.bind_some,eta_t]
  rw[h3,Option.bind_some]
  have hnx:l++sep [44,32] ((t.Kids.take (k+1)).map tx)=L++(if 0<k then bytesI (ByteArray.mk #[44,32]) else[])++tx y:=by
   rw[sep_take tx [44,32] hx,←hL]
   simp only[List.append_assoc]
   rfl
  generalize hM:L++(if 0<k then bytesI (ByteArray.mk #[44,32]) else[])=M at hL2 h3 hnx⊢
  have hn:=hk y (mem_of hx) b2 mm M (by omega)
  cases hv:right y with
  | true=>
   rw[hv] at hn
   obtain⟨b3,hn⟩:=hn
   left
   refine⟨_,?_,(all_take hx).trans (by rw[hall,hv];rfl),b3,rfl⟩
   simp only[hn,bindP,Option.bind_some]
   rw[wrB hkl (by omega),hnx,hany]
  | false=>
   rw[hv] at hn
   obtain⟨s,hn⟩:=hn
   obtain⟨s1,s2,s3,s4⟩:=s
   right
   have:t.Kids.all right=false:=all_false hx hv
   rw[this]
   refine⟨_,?_,(s1,s2,s3,s4),rfl⟩
   simp only[hn,bindP,Option.bind_some]
 ·rintro s ⟨hall,b',rfl⟩
  rw[take_all] at hall⊢
  rw[hall]
  exact⟨_,by simp only[F.text_writer_call_l3,dec_end,cond_false],b',rfl⟩
def cllB (t:STree):Bool:=nm t.Name&&((!t.Shaped||t.Shape.all dimB)&&(t.Lists.all nlB&&t.Kids.all right))
def cllX (t:STree):List Int:=bytesI t.Name++(bif t.Shaped then shapeX t.Shape else[])++(t.Lists.map listX).flatten++[40]++sep [44,32] (t.Kids.map tx)++[41]
theorem wt_parts (t:STree):wtT t=1+wtS t.Name+1+1+wtL wtD t.Shape+wtL (wtL wtI) t.Lists+((t.Kids.map wtT).sum+1)+1:=wtT_eq t
theorem OkW.no {g:Bool}{d:Int}{m:Bool}{l:List Int}{o:RS}(hg:g=false) (h:∃s,o=some (.inr ((7,0),s))):OkW g d m l o:=by subst hg;exact h
theorem call_okP {self:SE}{f:Nat}{t:STree}{b:Bool}{d:Nat}{m:Bool}{l:List Int}(hf:wtT t+3<f) (hw:wtT t≤Bd) (ho:okT t) (hk:KidsOk self t d) (h:l.length+40*wtT t≤140737488355328):
  OkW (cllB t) d (m||t.Kids.any (fun x=>mE x (d+1))) (l++cllX t) (F.text_writer_call self f t b d m l):=by
 obtain⟨⟨o1,o2,o3⟩,o4⟩:=(okT_eq t).1 ho
 have hp:=wt_parts t
 unfold wtS at hp
 unfold F.text_writer_call
 have hn:=name_okP (fu:=f) (s:=t.Name) (b:=b) (d:=(d:Int)) (m:=m) (l:=l) (by omega) (by omega) (by omega) (by omega)
 cases h1:nm t.Name with
 | false=>
  rw[h1] at hn
  obtain⟨⟨s1,s2,s3,s4⟩,hn⟩:=hn
  exact OkW.no (by unfold cllB;rw[h1];rfl) ⟨(s1,s2,s3,s4),by simp only[hn,bindP,Option.bind_some]⟩
 | true=>
  rw[h1] at hn
  obtain⟨b1,hn⟩:=hn
  simp only[hn,bindP,Option.bind_some]
  have hl1:(l++bytesI t.Name).length=l.length+t.Name.size:=by rw[List.length_append,bytesI_length]
  have hsh:∃r,(cond t.Shaped
     (bindP (F.text_writer_shape f t.Shape b1 (d:Int) m (l++bytesI t.Name))
       (fun ((r10,r11,r12,r13):Bool×Int×Bool×(List Int))=>
        some (.brk (r10,r11,r12,r13)))
       (fun ((e14,e15),(r16,r17,r18,r19))=>
        some (.ret (.inr ((e14,e15),(r16,r17,r18,r19))))))
     (some (.brk (b1,(d:Int),m,l++bytesI t.Name))):Option XS)=some r∧R1 (!t.Shaped||t.Shape.all dimB) d m (l++bytesI t.Name++(bif t.Shaped then shapeX t.Shape else[])) r:=by
   cases h2:t.Shaped with
   | false=>
    refine⟨_,rfl,b1,?_⟩
    simp
   | true=>
    have hs:=shape_okP (fu:=f) (sp:=t.Shape) (b:=b1) (d:=(d:Int)) (m:=m) (l:=l++bytesI t.Name) (by omega) o2 (by omega) (by omega)
    simp only[Bool.not_true,Bool.false_or,cond_true]
    cases h3:t.Shape.all dimB with
    | true=>
     rw[h3] at hs
     obtain⟨b2,hs⟩:=hs
     exact⟨_,by simp only[hs,bindP,Option.bind_some],b2,rfl⟩
    | false=>
     rw[h3] at hs
     obtain⟨⟨s1,s2,s3,s4⟩,hs⟩:=hs
     exact⟨_,by simp only[hs,bindP,Option.bind_some],(s1,s2,s3,s4),rfl⟩
  obtain⟨r,h2,h3⟩:=hsh
  rw[bindP] at h2
  rw[h2]
  cases h4:(!t.Shaped||t.Shape.all dimB) with
  | false=>
   rw[h4] at h3
   obtain⟨s,rfl⟩:=h3
   exact OkW.no (by unfold cllB;rw[h1,h4];rfl) ⟨s,rfl⟩
  | true=>
   rw[h4] at h3
   obtain⟨b2,rfl⟩:=h3
   simp only[bindE]
   have hshl:(bif t.Shaped then shapeX t.Shape else([]:List Int)).length≤(shapeX t.Shape).length:=by cases t.Shaped <;> simp
   have hsx:=shapeX_le o2
   have hl2:(l++bytesI t.Name++(bif t.Shaped then shapeX t.Shape else[])).length+38≤l.length+t.Name.size+40*wtL wtD t.Shape:=by rw[List.length_append,hl1];omega
   generalize hL:l++bytesI t.Name++(bif t.Shaped then shapeX t.Shape else[])=L at hl2⊢
   obtain⟨r,h5,h6⟩:=lists_okP (self:=self) (f:=f) (t:=t) (b:=b2) (d:=(d:Int)) (m:=m) (l:=L) (by omega) (by omega) o3 (by omega)
   rw[h5]
   cases h7:t.Lists.all nlB with
   | false=>
    rw[h7] at h6
    obtain⟨s,rfl⟩:=h6
    exact OkW.no (by unfold cllB;rw[h1,h4,h7];rfl) ⟨s,rfl⟩
   | true=>
    rw[h7] at h6
    obtain⟨b3,rfl⟩:=h6
    dsimp only
    have hfl:=flat_le (f:=listX) (w:=wtL wtI) (K:=40) (l:=t.Lists) fun x hx=>by have:=listX_le (o3 x hx);omega
    have hWl:wtL (wtL wtI) t.Lists=(t.Lists.map (wtL wtI)).sum+1:=rfl
    have hl3:(L++(t.Lists.map listX).flatten).length≤L.length+40*(t.Lists.map (wtL wtI)).sum:=by rw[List.length_append];omega
    generalize hM:L++(t.Lists.map listX).flatten=M at hl3⊢
    obtain⟨b4,h8⟩:=put1 (fu:=f) (s:=ByteArray.mk #[40]) (b:=b3) (d:=(d:Int)) (m:=m) (l:=M) (by omega) (by show _+1≤_;omega)
    rw[h8,Option.bind_some]
    dsimp only
    have hl4:(M++bytesI (ByteArray.mk #[40])).length=M.length+1:=by rw[List.length_append];rfl
    obtain⟨r,h9,h10⟩:=kids_okP (self:=self) (f:=f) (t:=t) (b:=b4) (d:=d) (m:=m) (l:=M++bytesI (ByteArray.mk #[40])) (by omega) (by omega) o4 hk (by omega)
    rw[h9]
    cases h11:t.Kids.all right with
    | false=>
     rw[h11] at h10
     obtain⟨s,rfl⟩:=h10
     exact OkW.no (by unfold cllB;rw[h1,h4,h7,h11];rfl) ⟨s,rfl⟩
    | true=>
     rw[h11] at h10
     obtain⟨b5,rfl⟩:=h10
     dsimp only
     have hkl:=sep_le (f:=tx) (w:=wtT) (c:=[44,32]) (K:=40) (l:=t.Kids) fun x hx=>by have:=tx_le (o4 x hx);simp only[List.length_cons,List.length_nil];omega
     obtain⟨b6,h12⟩:=put1 (fu:=f) (s:=ByteArray.mk #[41]) (b:=b5) (d:=(d:Int)) (m:=(m||t.Kids.any (fun x=>mE x (d+1)))) (l:=M++bytesI (ByteArray.mk #[40])++sep [44,32] (t.Kids.map tx)) (by omega) (by
      rw[List.length_append,hl4];show _+1≤_;omega)
     rw[h12,Option.bind_some]
     have hg:cllB t=true:=by unfold cllB;rw[h1,h4,h7,h11];rfl
     rw[hg]
     refine⟨b6,?_⟩
     have:M++bytesI (ByteArray.mk #[40])++sep [44,32] (t.Kids.map tx)++bytesI (ByteArray.mk #[41])=l++cllX t:=by
      rw[←hM,←hL];unfold cllX;simp only[List.append_assoc];rfl
     rw[this]
end Go.DN
