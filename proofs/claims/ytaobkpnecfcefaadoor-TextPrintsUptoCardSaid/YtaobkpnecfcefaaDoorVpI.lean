/-
  Text, printing: the plain law: functions, programs; what Print gives.
-/
import Derived.Test.YtaobkpnecfcefaaDoorVpH
set_option linter.unusedVariables false
set_option linter.unusedSimpArgs false
namespace Go.DN
open Go.AM
theorem wtG_ge (g:SGiven):1≤wtG g:=by unfold wtG;omega
theorem wtF_ge (f:SFunc):1≤wtF f:=by unfold wtF;omega
theorem givenX_le {g:SGiven}(h:okG g):(givenX g).length+2≤40*wtG g:=by
 have:=shapeX_le h
 unfold givenX wtG wtS
 simp only[List.length_append,List.length_cons,List.length_nil,bytesI_length]
 omega
theorem funcX_le {f:SFunc}(h:okF f):(funcX f).length+2≤40*wtF f:=by
 have h1:=sep_le (f:=givenX) (w:=wtG) (c:=[44,32]) (K:=40) (l:=f.Given) fun g hg=>givenX_le (h.1 g hg)
 have h2:=tx_le h.2
 unfold funcX wtF wtS
 simp only[List.length_append,List.length_cons,List.length_nil,bytesI_length,wtL]
 omega
theorem givens_okP {fu:Nat}{f:SFunc}{b:Bool}{d:Int}{m:Bool}{l:List Int}(hf:wtL wtG f.Given+10<fu) (hw:wtL wtG f.Given≤Bd) (ho:∀g∈f.Given,okG g) (h:l.length+40*wtL wtG f.Given≤140737488355328):
  ∃r,loopF (F.text_writer_function_l1 fu f) fu (0,b,d,m,l)=some r∧R1 (f.Given.all givenB) d m (l++sep [44,32] (f.Given.map givenX)) r:=by
 have hlen:f.Given.length≤(f.Given.map wtG).sum:=sum_len (w:=wtG) wtG_ge f.Given
 have hW:wtL wtG f.Given=(f.Given.map wtG).sum+1:=rfl
 have hwi:∀x∈f.Given,(givenX x).length+[44,32].length≤40*wtG x:=fun x hx=>givenX_le (ho x hx)
 refine loop_idx (body:=F.text_writer_function_l1 fu f) f.Given (fun k s=>(f.Given.take k).all givenB=true∧∃b',s=((k:Int),b',d,m,l++sep [44,32] ((f.Given.take k).map givenX))) _ ?_ ?_ f.Given.length 0 fu ((0:Nat),b,d,m,l) rfl (Nat.zero_le _) (by omega) ⟨rfl,b,by simp[sep]⟩
 ·rintro k y s hx ⟨hall,b',rfl⟩
  have hkl:=get_lt hx
  have hsum:=sum_take (w:=wtG) hx
  have hle:=sepTake_le (f:=givenX) (w:=wtG) (c:=[44,32]) (K:=40) (l:=f.Given) k hwi
  have hb1:(l++sep [44,32] ((f.Given.take k).map givenX)).length+40*wtG y+2≤140737488355328:=by
   simp only[List.length_append]
   omega
  obtain⟨b2,h3⟩:=ahead_ok (fu:=fu) (k:=k) (s:=ByteArray.mk #[44,32]) (b:=b') (d:=d) (m:=m) (l:=l++sep [44,32] ((f.Given.take k).map givenX)) (by omega) (by show _+2≤_;omega)
  generalize hL:l++sep [44,32] ((f.Given.take k).map givenX)=L at hb1 h3⊢
  have hL2:(L++(if 0<k then bytesI (ByteArray.mk #[44,32]) else[])).length≤L.length+2:=by
   rw[List.length_append];split
   ·show _+2≤_;omega
   ·simp
  simp only[F.text_writer_function_l1,dec_lt hx,cond_true,idx_nat hx,Option.bind_some]
  rw[h3,Option.bind_some]
  have hnx:l++sep [44,32] ((f.Given.take (k+1)).map givenX)=L++(if 0<k then bytesI (ByteArray.mk #[44,32]) else[])++givenX y:=by
   rw[sep_take givenX [44,32] hx,←hL]
   simp only[List.append_assoc]
   rfl
  generalize hM:L++(if 0<k then bytesI (ByteArray.mk #[44,32]) else[])=M at hL2 h3 hnx⊢
  have hwy:wtG y=y.Name.size+1+wtL wtD y.Dims+1:=rfl
  have hn:=name_okP (fu:=fu) (s:=y.Name) (b:=b2) (d:=d) (m:=m) (l:=M) (by omega) (by omega) (by omega) (by omega)
  cases hv:nm y.Name with
  | false=>
   rw[hv] at hn
   obtain⟨⟨s1,s2,s3,s4⟩,hn⟩:=hn
   right
   have:f.Given.all givenB=false:=all_false hx (by unfold givenB;rw[hv];rfl)
   rw[this]
   exact⟨_,by simp only[hn,bindP,Option.bind_some],(s1,s2,s3,s4),rfl⟩
  | true=>
   rw[hv] at hn
   obtain⟨b3,hn⟩:=hn
   simp only[hn,bindP,Option.bind_some]
   have e1:(M++bytesI y.Name).length=M.length+y.Name.size:=by rw[List.length_append,bytesI_length]
   obtain⟨b4,h4⟩:=put1 (fu:=fu) (s:=ByteArray.mk #[58,32]) (b:=b3) (d:=d) (m:=m) (l:=M++bytesI y.Name) (by omega) (by show _+2≤_;omega)
   rw[h4]
   simp only[Option.bind_some]
   have e2:(M++bytesI y.Name++bytesI (ByteArray.mk #[58,32])).length=M.length+y.Name.size+2:=by rw[List.length_append,e1];rfl
   have hs:=shape_okP (fu:=fu) (sp:=y.Dims) (b:=b4) (d:=d) (m:=m) (l:=M++bytesI y.Name++bytesI (ByteArray.mk #[58,32])) (by omega) (ho y (mem_of hx)) (by omega) (by omega)
   cases hv2:y.Dims.all dimB with
   | false=>
    rw[hv2] at hs
    obtain⟨⟨s1,s2,s3,s4⟩,hs⟩:=hs
    right
    have:f.Given.all givenB=false:=all_false hx (by unfold givenB;rw[hv2,Bool.and_false])
    rw[this]
    exact⟨_,by simp only[hs,Option.bind_some],(s1,s2,s3,s4),rfl⟩
   | true=>
    rw[hv2] at hs
    obtain⟨b5,hs⟩:=hs
    left
    refine⟨_,?_,(all_take hx).trans (by rw[hall];unfold givenB;rw[hv,hv2];rfl),b5,rfl⟩
    simp only[hs,Option.bind_some]
    have:M++bytesI y.Name++bytesI (ByteArray.mk #[58,32])++shapeX y.Dims=M++givenX y:=by unfold givenX;simp only[List.append_assoc];rfl
    rw[wrB hkl (by omega),hnx,this]
 ·rintro s ⟨hall,b',rfl⟩
  rw[take_all] at hall⊢
  rw[hall]
  exact⟨_,by simp only[F.text_writer_function_l1,dec_end,cond_false],b',rfl⟩
theorem function_okP {fu:Nat}{f:SFunc}{b:Bool}{m:Bool}{l:List Int}(hf:4*wtF f+40<fu) (hw:wtF f+10≤Bd) (ho:okF f) (h:l.length+40*wtF f≤140737488355328):
  OkW (funcB f) 0 (m||muchB f) (l++funcX f) (F.text_writer_function fu f b 0 m l):=by
 have hwf:wtF f=f.Name.size+1+wtL wtG f.Given+wtT f.Body+1:=rfl
 have hW:wtL wtG f.Given=(f.Given.map wtG).sum+1:=rfl
 have hpos:=wtT_pos f.Body
 unfold F.text_writer_function
 obtain⟨b1,hp1⟩:=put1 (fu:=fu) (s:=ByteArray.mk #[102,110,32]) (b:=b) (d:=0) (m:=m) (l:=l) (by omega) (by show _+3≤_;omega)
 rw[hp1]
 simp only[Option.bind_some]
 have e1:(l++bytesI (ByteArray.mk #[102,110,32])).length=l.length+3:=by rw[List.length_append];rfl
 generalize hL1:l++bytesI (ByteArray.mk #[102,110,32])=L1 at e1⊢
 have hn:=name_okP (fu:=fu) (s:=f.Name) (b:=b1) (d:=0) (m:=m) (l:=L1) (by omega) (by omega) (by omega) (by omega)
 cases h1:nm f.Name with
 | false=>
  rw[h1] at hn
  obtain⟨⟨s1,s2,s3,s4⟩,hn⟩:=hn
  exact OkW.no (by unfold funcB;rw[h1];rfl) ⟨(s1,s2,s3,s4),by simp only[hn,bindP,Option.bind_some]⟩
 | true=>
  rw[h1] at hn
  obtain⟨b2,hn⟩:=hn
  simp only[hn,bindP,Option.bind_some]
  have e2:(L1++bytesI f.Name).length=L1.length+f.Name.size:=by rw[List.length_append,bytesI_length]
  generalize hL2:L1++bytesI f.Name=L2 at e2⊢
  obtain⟨b3,hp3⟩:=put1 (fu:=fu) (s:=ByteArray.mk #[40]) (b:=b2) (d:=0) (m:=m) (l:=L2) (by omega) (by show _+1≤_;omega)
  rw[hp3]
  simp only[Option.bind_some]
  have e3:(L2++bytesI (ByteArray.mk #[40])).length=L2.length+1:=by rw[List.length_append];rfl
  generalize hL3:L2++bytesI (ByteArray.mk #[40])=L3 at e3⊢
  obtain⟨r,h2,h3⟩:=givens_okP (fu:=fu) (f:=f) (b:=b3) (d:=0) (m:=m) (l:=L3) (by omega) (by omega) ho.1 (by omega)
  rw[h2]
  cases h4:f.Given.all givenB with
  | false=>
   rw[h4] at h3
   obtain⟨⟨s1,s2,s3,s4⟩,rfl⟩:=h3
   exact OkW.no (by unfold funcB;rw[h1,h4];rfl) ⟨(s1,s2,s3,s4),rfl⟩
  | true=>
   rw[h4] at h3
   obtain⟨b4,rfl⟩:=h3
   simp only[bindE]
   have hsl:=sep_le (f:=givenX) (w:=wtG) (c:=[44,32]) (K:=40) (l:=f.Given) fun g hg=>givenX_le (ho.1 g hg)
   have e4:(L3++sep [44,32] (f.Given.map givenX)).length≤L3.length+40*(f.Given.map wtG).sum:=by rw[List.length_append];omega
   generalize hL4:L3++sep [44,32] (f.Given.map givenX)=L4 at e4⊢
   obtain⟨b5,hp5⟩:=put1 (fu:=fu) (s:=ByteArray.mk #[41,32,61,32]) (b:=b4) (d:=0) (m:=m) (l:=L4) (by omega) (by show _+4≤_;omega)
   rw[hp5]
   simp only[Option.bind_some,eta_t]
   have e5:(L4++bytesI (ByteArray.mk #[41,32,61,32])).length=L4.length+4:=by rw[List.length_append];rfl
   generalize hL5:L4++bytesI (ByteArray.mk #[41,32,61,32])=L5 at e5⊢
   have hx:=expr_okP ho.2 fu b5 0 m L5 (by omega) (by omega) (by omega)
   have hx:OkW (right f.Body) 0 (m||mE f.Body 1) (L5++tx f.Body) (F.text_writer_expr fu f.Body b5 0 m L5):=hx
   have hmb:mE f.Body 1=muchB f:=by unfold mE muchB;rw[show 1+levels f.Body-1=levels f.Body by omega]
   cases h5:right f.Body with
   | false=>
    rw[h5] at hx
    obtain⟨⟨s1,s2,s3,s4⟩,hx⟩:=hx
    exact OkW.no (by unfold funcB;rw[h1,h4,h5];rfl) ⟨(s1,s2,s3,s4),by simp only[hx,Option.bind_some]⟩
   | true=>
    rw[h5,hmb] at hx
    obtain⟨b6,hx⟩:=hx
    simp only[hx,Option.bind_some]
    have htl:=tx_le ho.2
    have e6:(L5++tx f.Body).length+10≤L5.length+40*wtT f.Body:=by rw[List.length_append];omega
    obtain⟨b7,hp7⟩:=put1 (fu:=fu) (s:=ByteArray.mk #[59,10]) (b:=b6) (d:=0) (m:=m||muchB f) (l:=L5++tx f.Body) (by omega) (by show _+2≤_;omega)
    rw[hp7]
    have hg:funcB f=true:=by unfold funcB;rw[h1,h4,h5];rfl
    rw[hg]
    refine⟨b7,?_⟩
    simp only[Option.bind_some]
    have:L5++tx f.Body++bytesI (ByteArray.mk #[59,10])=l++funcX f:=by rw[←hL5,←hL4,←hL3,←hL2,←hL1];unfold funcX;simp only[List.append_assoc];rfl
    rw[this]
def isBy (l:List Int):Prop:=∃s,l=bytesI s
theorem isBy.app {a b:List Int}(ha:isBy a) (hb:isBy b):isBy (a++b):=by
 obtain⟨x,rfl⟩:=ha
 obtain⟨y,rfl⟩:=hb
 exact⟨x++y,(bytesI_append x y).symm⟩
theorem isBy.nil:isBy []:=⟨ByteArray.mk #[],rfl⟩
theorem isBy.dg (n:Int):isBy (dg n):=⟨_,rfl⟩
theorem isBy.sep {c:List Int}(hc:isBy c):∀{l:List (List Int)},(∀x∈l,isBy x)→isBy (sep c l)
 | [],_=>.nil
 | [x],h=>h x List.mem_cons_self
 | x::y::r,h=>((h x List.mem_cons_self).app hc).app (isBy.sep hc fun z hz=>h z (List.mem_cons_of_mem _ hz))
theorem isBy.flat:∀{l:List (List Int)},(∀x∈l,isBy x)→isBy l.flatten
 | [],_=>.nil
 | x::r,h=>by rw[List.flatten_cons];exact(h x List.mem_cons_self).app (isBy.flat fun z hz=>h z (List.mem_cons_of_mem _ hz))
theorem isBy.map {α:Type}{f:α→List Int}(h:∀x,isBy (f x)) (l:List α):∀x∈l.map f,isBy x:=fun x hx=>by obtain⟨y,_,rfl⟩:=List.mem_map.1 hx;exact h y
theorem isBy.dimX (d:SDim):isBy (dimX d):=by unfold DN.dimX;split;exact⟨_,rfl⟩;exact⟨_,rfl⟩
theorem isBy.shapeX (l:List SDim):isBy (shapeX l):=(isBy.app (isBy.app ⟨ByteArray.mk #[91],rfl⟩ (isBy.sep ⟨ByteArray.mk #[32],rfl⟩ (isBy.map isBy.dimX l))) ⟨ByteArray.mk #[93],rfl⟩)
theorem isBy.listX (l:List Int):isBy (listX l):=(isBy.app (isBy.app ⟨ByteArray.mk #[123],rfl⟩ (isBy.sep ⟨ByteArray.mk #[32],rfl⟩ (isBy.map isBy.dg l))) ⟨ByteArray.mk #[125],rfl⟩)
theorem isBy.brk (b:Bool){x:List Int}(h:isBy x):isBy (brk b x):=by
 cases b
 ·exact h
 ·exact isBy.app (isBy.app ⟨ByteArray.mk #[40],rfl⟩ h) ⟨ByteArray.mk #[41],rfl⟩
theorem isBy.getD {l:List (List Int)}(h:∀x∈l,isBy x) (i:Nat):isBy (l.getD i []):=by
 rw[List.getD_eq_getElem?_getD]
 cases hx:l[i]? with
 | none=>exact .nil
 | some x=>exact h x (List.mem_of_getElem? hx)
theorem isBy.tx:∀(n:Nat) (t:STree),wtT t≤n→isBy (tx t)
 | 0,t,h=>by have:=wtT_pos t;omega
 | n+1,t,h=>by
  have hk:∀x∈t.Kids.map DN.tx,isBy x:=fun x hx=>by
   obtain⟨y,hy,rfl⟩:=List.mem_map.1 hx
   exact isBy.tx n y (by have:=wtT_kid hy;omega)
  have hnm:isBy (bytesI t.Name):=⟨_,rfl⟩
  rw[tx_eq]
  unfold txB
  split
  ·exact .dg _
  ·split
   ·exact hnm
   ·split
    ·exact((isBy.getD hk 0).brk _).app ((isBy.app (isBy.app ⟨ByteArray.mk #[32],rfl⟩ hnm) ⟨ByteArray.mk #[32],rfl⟩)) |>.app ((isBy.getD hk 1).brk _)
    ·split
     ·exact(((((isBy.app ⟨ByteArray.mk #[108,101,116,32],rfl⟩ hnm).app ⟨ByteArray.mk #[32,61,32],rfl⟩).app (isBy.getD hk 0)).app ⟨ByteArray.mk #[32,105,110,32],rfl⟩).app (isBy.getD hk 1))
     ·split
      ·exact(((((((isBy.app ⟨ByteArray.mk #[114,101,112,101,97,116,32],rfl⟩ (.dg _)).app ⟨ByteArray.mk #[32],rfl⟩).app hnm).app ⟨ByteArray.mk #[32,61,32],rfl⟩).app (isBy.getD hk 0)).app ⟨ByteArray.mk #[32,119,105,116,104,32],rfl⟩).app (isBy.getD hk 1))
      ·refine((((hnm.app ?_).app (isBy.flat (isBy.map isBy.listX _))).app ⟨ByteArray.mk #[40],rfl⟩).app (isBy.sep ⟨ByteArray.mk #[44,32],rfl⟩ hk)).app ⟨ByteArray.mk #[41],rfl⟩
       cases t.Shaped
       ·exact .nil
       ·exact .shapeX _
theorem isBy.givenX (g:SGiven):isBy (givenX g):=(isBy.app (isBy.app ⟨_,rfl⟩ ⟨ByteArray.mk #[58,32],rfl⟩) (.shapeX _))
theorem isBy.funcX (f:SFunc):isBy (funcX f):=(((((isBy.app ⟨ByteArray.mk #[102,110,32],rfl⟩ ⟨_,rfl⟩).app ⟨ByteArray.mk #[40],rfl⟩).app (isBy.sep ⟨ByteArray.mk #[44,32],rfl⟩ (isBy.map isBy.givenX _))).app ⟨ByteArray.mk #[41,32,61,32],rfl⟩).app (isBy.tx _ f.Body (Nat.le_refl _))).app ⟨ByteArray.mk #[59,10],rfl⟩
theorem isBy.progX (p:List SFunc):isBy (progX p):=isBy.flat (isBy.map isBy.funcX p)
def okP (p:List SFunc):Prop:=∀f∈p,okF f
def progS (p:List SFunc):ByteArray:=strOf (progX p)
theorem progS_bytes (p:List SFunc):bytesI (progS p)=progX p:=by
 obtain⟨s,hs⟩:=isBy.progX p
 unfold progS
 rw[hs,strOf_bytesI]
def R4 (g:Bool) (m:Bool) (l:List Int) (e:Ex W4 ((SFault×Bool×Int×Bool×List Int)⊕((Int×Int)×Unit))):Prop:=match g with
 | true=>∃b,e=.brk (b,0,m,l)
 | false=>∃s,e=.ret (.inl (⟨7,0⟩,s))
theorem program_okP {fu:Nat}{p:List SFunc}(hf:4*wtL wtF p+50<fu) (hw:wtL wtF p≤1048576) (ho:okP p):
  ∃r,loopF (F.text_writer_program_l1 fu p) fu (0,true,0,false,[])=some r∧R4 (p.all funcB) (p.any muchB) (progX p) r:=by
 have hlen:p.length≤(p.map wtF).sum:=sum_len (w:=wtF) wtF_ge p
 have hW:wtL wtF p=(p.map wtF).sum+1:=rfl
 refine loop_idx (body:=F.text_writer_program_l1 fu p) p (fun k s=>(p.take k).all funcB=true∧∃b',s=((k:Int),b',0,(p.take k).any muchB,progX (p.take k))) _ ?_ ?_ p.length 0 fu ((0:Nat),true,0,false,[]) rfl (Nat.zero_le _) (by omega) ⟨rfl,true,rfl⟩
 ·rintro k y s hx ⟨hall,b',rfl⟩
  have hkl:=get_lt hx
  have hsum:=sum_take (w:=wtF) hx
  have hle:=flat_le (f:=funcX) (w:=wtF) (K:=40) (l:=p.take k) fun z hz=>by have:=funcX_le (ho z (List.mem_of_mem_take hz));omega
  have hle:(progX (p.take k)).length≤40*((p.take k).map wtF).sum:=hle
  simp only[F.text_writer_program_l1,dec_lt hx,cond_true,idx_nat hx,Option.bind_some,eta_t]
  have hn:=function_okP (fu:=fu) (f:=y) (b:=b') (m:=(p.take k).any muchB) (l:=progX (p.take k)) (by omega) (by simp only[Bd];omega) (ho y (mem_of hx)) (by omega)
  cases hv:funcB y with
  | false=>
   rw[hv] at hn
   obtain⟨⟨s1,s2,s3,s4⟩,hn⟩:=hn
   right
   have:p.all funcB=false:=all_false hx hv
   rw[this]
   exact⟨_,by simp only[hn,bindP,Option.bind_some],(s1,s2,s3,s4),rfl⟩
  | true=>
   rw[hv] at hn
   obtain⟨b3,hn⟩:=hn
   left
   refine⟨_,?_,(all_take hx).trans (by rw[hall,hv];rfl),b3,rfl⟩
   simp only[hn,bindP,Option.bind_some]
   have e1:(p.take (k+1)).any muchB=((p.take k).any muchB||muchB y):=by rw[List.take_add_one,hx];simp
   have e2:progX (p.take (k+1))=progX (p.take k)++funcX y:=flat_take funcX hx
   rw[wrB hkl (by simp only[Bd];omega),e1,e2]
 ·rintro s ⟨hall,b',rfl⟩
  rw[take_all] at hall⊢
  rw[hall]
  exact⟨_,by simp only[F.text_writer_program_l1,dec_end,cond_false],b',rfl⟩
def printR (p:List SFunc):ByteArray×Int:=if p.all funcB=true then(if p.any muchB=true∨65536<(progX p).length then(ByteArray.mk #[],5) else(progS p,0)) else(ByteArray.mk #[],7)
theorem print_okP {fu:Nat}{p:List SFunc}(hf:4*wtL wtF p+50<fu) (hw:wtL wtF p≤1048576) (ho:okP p):F.text_Print fu p=some (printR p):=by
 obtain⟨r,h1,h2⟩:=program_okP hf hw ho
 unfold F.text_Print F.text_writer_program F.text_writer_program_p printR
 simp only[Option.bind_some]
 rw[h1]
 cases hg:p.all funcB with
 | false=>
  rw[hg] at h2
  obtain⟨⟨s1,s2,s3,s4⟩,rfl⟩:=h2
  rfl
 | true=>
  rw[hg] at h2
  obtain⟨b,rfl⟩:=h2
  simp only[bindE,Option.bind_some,unP,if_true]
  cases hm:p.any muchB with
  | true=>
   simp
  | false=>
   have hl:decide (((progX p).length:Int)>65536)=decide (65536<(progX p).length):=by rw[decide_eq_decide];omega
   have hz:((0:Int) !=0)=false:=rfl
   simp only[hz,cond_false,F.strings_Builder_Len,Option.bind_some,Nat.beq_refl,cond_true,hl]
   by_cases h6:65536<(progX p).length
   ·rw[decide_eq_true h6,if_pos (.inr h6)];rfl
   ·rw[decide_eq_false h6,if_neg (by simp[h6])]
    unfold bstrF strF
    have hin:inByte (progX p)=true:=by rw[←progS_bytes];exact inByte_bytesI _
    rw[chk_pos hin]
    rfl
end Go.DN
