/-
  Text, printing: the plain law: the reference's Print, and the law.
-/
import Derived.Test.YtaobkpnecfcefaaDoorVrE
set_option linter.unusedVariables false
set_option linter.unusedSimpArgs false
namespace Go.DN
open Go.AM
theorem givensR_ok {fu:Nat}{f:SFunc}{v2:ByteArray}{v3:Int}{s:ByteArray}(hf:wtL wtG f.Given+50<fu) (hw:wtL wtG f.Given≤Bd) (ho:∀g∈f.Given,okG g) (h:s.size+40*wtL wtG f.Given≤140737488355328):
  loopF (F.adjointref3_Print_l1 fu f) fu (v2,v3,s,0)=some (if f.Given.all givenB then Ex.brk (v2,v3,s++strOf (sep [44,32] (f.Given.map givenX))) else Ex.ret (.inr (.ret (ByteArray.mk #[],7)))):=by
 have hlen:f.Given.length≤(f.Given.map wtG).sum:=sum_len (w:=wtG) wtG_ge f.Given
 have hW:wtL wtG f.Given=(f.Given.map wtG).sum+1:=rfl
 have hwi:∀n∈f.Given,(givenX n).length+[44,32].length≤40*wtG n:=fun n hn=>by have:=givenX_le (ho n hn);simp only[List.length_cons,List.length_nil];omega
 obtain⟨r,h1,h2⟩:=loop_idx (body:=F.adjointref3_Print_l1 fu f) f.Given (fun k z=>(f.Given.take k).all givenB=true∧z=(v2,v3,s++strOf (sep [44,32] ((f.Given.take k).map givenX)),(k:Int))) (fun r=>r=(if f.Given.all givenB then Ex.brk (v2,v3,s++strOf (sep [44,32] (f.Given.map givenX))) else Ex.ret (.inr (.ret (ByteArray.mk #[],7))))) (by
  rintro k y z hx ⟨hall,rfl⟩
  have hk:=get_lt hx
  have hsum:=sum_take (w:=wtG) hx
  have hle:=sepTake_le (f:=givenX) (w:=wtG) (c:=[44,32]) (K:=40) (l:=f.Given) k hwi
  have hm:=sum_mem (w:=wtG) (mem_of hx)
  have hyw:wtG y=wtS y.Name+wtL wtD y.Dims+1:=rfl
  simp only[wtS] at hyw
  have hod:=ho y (mem_of hx)
  have hS:(s++strOf (sep [44,32] ((f.Given.take k).map givenX))).size≤s.size+40*((f.Given.take k).map wtG).sum:=by rw[ByteArray.size_append,strOf_size];omega
  have hnx:s++strOf (sep [44,32] ((f.Given.take (k+1)).map givenX))=((((s++strOf (sep [44,32] ((f.Given.take k).map givenX)))++strOf (if 0<k then[44,32] else[]))++y.Name)++ByteArray.mk #[58,32])++strOf (shapeX y.Dims):=by
   rw[sep_take givenX [44,32] hx,strOf_app,strOf_app]
   unfold givenX
   rw[strOf_app (_++_) (shapeX y.Dims),strOf_app,strOf_str]
   simp only[ByteArray.append_assoc]
   rfl
  have hn:=isName_okB (s:=y.Name) (fu:=fu) (by omega) (by omega)
  have hd:=writable_okR (sp:=y.Dims) (fu:=fu) (by omega) (by omega)
  have hc:(F.adjointref3_IsName fu y.Name).bind (fun (r16:Bool)=>cond (!r16) (some true) ((F.adjointref3_writable fu y.Dims).bind fun (r17:Bool)=>some (!r17)))=some (!givenB y):=by
   rw[hn,hd]
   unfold givenB
   cases nm y.Name <;> rfl
  cases hv:givenB y with
  | false=>
   right
   have:f.Given.all givenB=false:=all_false hx hv
   rw[this]
   refine⟨_,?_,rfl⟩
   show cond (decide ((k:Int)<(f.Given.length:Int))) _ _=_
   rw[dec_lt hx,cond_true,idx_nat hx,bindS,hc,hv,bindS,Bool.not_false,cond_true]
   rfl
  | true=>
   have hdim:y.Dims.all dimB=true:=by unfold givenB at hv;simp only[Bool.and_eq_true] at hv;exact hv.2
   have hsx:=shapeX_le (l:=y.Dims) hod
   left
   refine⟨_,?_,(all_take hx).trans (by rw[hall,hv];rfl),rfl⟩
   rw[hnx]
   generalize s++strOf (sep [44,32] ((f.Given.take k).map givenX))=S at hS⊢
   have ha:=aheadR (k:=k) (S:=S) (c:=ByteArray.mk #[44,32]) (l:=[44,32]) rfl (by show _+2≤_;omega)
   have hS2:(S++strOf (if 0<k then[44,32] else[])).size≤S.size+2:=by rw[ByteArray.size_append,strOf_size];split <;> simp
   generalize S++strOf (if 0<k then[44,32] else[])=T at ha hS2⊢
   have a1:(T++y.Name).size≤T.size+y.Name.size:=sz_le (Nat.le_refl _) _ (Nat.le_refl _)
   have a2:=sz_le a1 (ByteArray.mk #[58,32]) (Nat.le_refl 2)
   show cond (decide ((k:Int)<(f.Given.length:Int))) _ _=_
   rw[dec_lt hx,cond_true,idx_nat hx,bindS,hc,hv,bindS,Bool.not_true,cond_false,ha,bindS,app_chkS (by omega),bindS,app_chkS (by show _+2≤_;omega),bindS,shapeT_okR (by omega) (by omega) hod hdim,bindS,app_chkS (by rw[strOf_size];omega),bindS,wrB hk (by omega)])
  (by
   rintro z ⟨hall,rfl⟩
   rw[take_all] at hall⊢
   refine⟨_,?_,rfl⟩
   rw[hall,if_pos rfl]
   show cond (decide ((f.Given.length:Int)<(f.Given.length:Int))) _ _=_
   rw[dec_end,cond_false]) f.Given.length 0 fu (v2,v3,s,((0:Nat):Int)) rfl (Nat.zero_le _) (by omega) ⟨rfl,by
   simp only[List.take_zero,List.map_nil,sep]
   congr 3
   apply ByteArray.ext;simp[strOf]⟩
 subst h2
 exact h1
theorem muchR {m:Bool}{fu:Nat}{t:STree}(hf:wtT t+2<fu) (hw:wtT t≤Bd) (hr:right t=true):
  (cond m (some true) ((F.adjointref3_Levels fu t).bind fun (r25:Int)=>
     cond (decide (r25>64)) (some true) ((F.adjointref3_longest fu t).bind fun (r26:Int)=>
     some (decide (r26>64)))):Option Bool)=some (m||(decide (64<levels t)||decide (64<longest t))):=by
 cases m with
 | true=>rfl
 | false=>
  rw[cond_false,levels_okR _ t (Nat.le_refl _) fu hf hw,bindS,longest_okR _ t (Nat.le_refl _) fu hf hw hr,bindS,Bool.false_or]
  by_cases h1:64<levels t
  ·rw[decide_eq_true h1,decide_eq_true (show(levels t:Int)>64 by omega)];rfl
  ·rw[decide_eq_false h1,decide_eq_false (show ¬(levels t:Int)>64 by omega),cond_false,Bool.false_or]
   congr 1
   rw[decide_eq_decide];omega
theorem brk_one {B R S:Type}{g:R→S}{x:B}{k:B→Option S}{o:Option S}(h:k x=o):bindE g (some (.brk x)) k=o:=by
 have:∀e:Ex B R,e=.brk x→bindE g (some e) k=o:=by
  rintro _ rfl
  exact h
 exact this _ rfl
theorem progR_ok {fu:Nat}{p:List SFunc}(hf:4*wtL wtF p+60<fu) (hw:wtL wtF p≤1048576) (ho:okP p):
  loopF (F.adjointref3_Print_l2 fu p) fu (ByteArray.mk #[],0,ByteArray.mk #[],false,0)=some (if p.all funcB then Ex.brk (ByteArray.mk #[],0,strOf (progX p),p.any muchB) else Ex.ret (ByteArray.mk #[],7)):=by
 have hlen:p.length≤(p.map wtF).sum:=sum_len (w:=wtF) wtF_ge p
 have hW:wtL wtF p=(p.map wtF).sum+1:=rfl
 obtain⟨r,h1,h2⟩:=loop_idx (body:=F.adjointref3_Print_l2 fu p) p (fun k z=>(p.take k).all funcB=true∧z=(ByteArray.mk #[],0,strOf (progX (p.take k)),(p.take k).any muchB,(k:Int))) (fun r=>r=(if p.all funcB then Ex.brk (ByteArray.mk #[],0,strOf (progX p),p.any muchB) else Ex.ret (ByteArray.mk #[],7))) (by
  rintro k y z hx ⟨hall,rfl⟩
  have hkl:=get_lt hx
  have hsum:=sum_take (w:=wtF) hx
  have hle:=flat_le (f:=funcX) (w:=wtF) (K:=40) (l:=p.take k) fun z hz=>by have:=funcX_le (ho z (List.mem_of_mem_take hz));omega
  have hle:(progX (p.take k)).length≤40*((p.take k).map wtF).sum:=hle
  have hyw:wtF y=wtS y.Name+wtL wtG y.Given+wtT y.Body+1:=rfl
  simp only[wtS] at hyw
  obtain⟨hoG,hoB⟩:=ho y (mem_of hx)
  have hn:=isName_okB (s:=y.Name) (fu:=fu) (by simp only[Bd];omega) (by omega)
  have hrb:=right_okR _ y.Body (Nat.le_refl _) fu (by omega) (by simp only[Bd];omega)
  have hc:(F.adjointref3_IsName fu y.Name).bind (fun (r8:Bool)=>cond (!r8) (some true) ((F.adjointref3_Right fu (⟨y.Body.Kind,y.Body.Name,y.Body.Number,y.Body.Shaped,y.Body.Shape,y.Body.Lists,y.Body.Kids⟩:STree)).bind fun (r9:Bool)=>some (!r9)))=some (!(nm y.Name&&right y.Body)):=by
   rw[hn,eta_t,hrb]
   cases nm y.Name <;> rfl
  have hfb:funcB y=(nm y.Name&&(y.Given.all givenB&&right y.Body)):=rfl
  have hS:(strOf (progX (p.take k))).size≤40*((p.take k).map wtF).sum:=by rw[strOf_size];omega
  have hnx:strOf (progX (p.take (k+1)))=(((((((strOf (progX (p.take k))++ByteArray.mk #[102,110,32])++y.Name)++ByteArray.mk #[40])++strOf (sep [44,32] (y.Given.map givenX)))++ByteArray.mk #[41,32,61,32])++strOf (tx y.Body))++ByteArray.mk #[59,10]):=by
   have:progX (p.take (k+1))=progX (p.take k)++funcX y:=flat_take funcX hx
   rw[this,strOf_app]
   unfold funcX
   rw[strOf_app,strOf_app,strOf_app,strOf_app,strOf_app,strOf_app,strOf_str]
   simp only[ByteArray.append_assoc]
   rfl
  have hany:(p.take (k+1)).any muchB=((p.take k).any muchB||muchB y):=by rw[List.take_add_one,hx];simp
  rw[hnx,hany]
  generalize strOf (progX (p.take k))=S at hS⊢
  generalize (p.take k).any muchB=m
  cases hr1:(nm y.Name&&right y.Body) with
  | false=>
   right
   have hv:funcB y=false:=by
    rw[hfb]
    rcases Bool.and_eq_false_iff.1 hr1 with h | h <;> rw[h] <;> simp
   have:p.all funcB=false:=all_false hx hv
   rw[this]
   refine⟨_,?_,rfl⟩
   show cond (decide ((k:Int)<(p.length:Int))) _ _=_
   rw[dec_lt hx,cond_true,idx_nat hx,bindS,hc,hr1,bindS,Bool.not_false,cond_true]
   rfl
  | true=>
   have a1:(S++ByteArray.mk #[102,110,32]).size≤S.size+3:=sz_le (Nat.le_refl _) _ (Nat.le_refl 3)
   have a2:=sz_le a1 y.Name (Nat.le_refl _)
   have a3:=sz_le a2 (ByteArray.mk #[40]) (Nat.le_refl 1)
   have hgs:=givensR_ok (fu:=fu) (f:=y) (v2:=ByteArray.mk #[]) (v3:=0) (s:=((S++ByteArray.mk #[102,110,32])++y.Name)++ByteArray.mk #[40]) (by omega) (by simp only[Bd];omega) hoG (by omega)
   rw[Bool.and_eq_true] at hr1
   cases hg:y.Given.all givenB with
   | false=>
    right
    have hv:funcB y=false:=by rw[hfb,hg];simp
    have:p.all funcB=false:=all_false hx hv
    rw[this]
    rw[hg] at hgs
    refine⟨_,?_,rfl⟩
    show cond (decide ((k:Int)<(p.length:Int))) _ _=_
    rw[dec_lt hx,cond_true,idx_nat hx,bindS,hc,hr1.1,hr1.2,bindS,Bool.and_self,Bool.not_true,cond_false,app_chkS (by show _+3≤_;omega),bindS,app_chkS (by omega),bindS,app_chkS1 (by omega),bindS,hgs]
    rfl
   | true=>
    left
    rw[hg] at hgs
    have hsx:=sep_le (f:=givenX) (w:=wtG) (c:=[44,32]) (K:=40) (l:=y.Given) fun n hn=>by have:=givenX_le (hoG n hn);simp only[List.length_cons,List.length_nil];omega
    have hgw:wtL wtG y.Given=(y.Given.map wtG).sum+1:=rfl
    have htx:=tx_le hoB
    have a4:=sz_le a3 (strOf (sep [44,32] (y.Given.map givenX))) (Nat.le_of_eq (strOf_size _))
    have a5:=sz_le a4 (ByteArray.mk #[41,32,61,32]) (Nat.le_refl 4)
    have a6:=sz_le a5 (strOf (tx y.Body)) (Nat.le_of_eq (strOf_size _))
    have hv:funcB y=true:=by rw[hfb,hg,hr1.1,hr1.2];rfl
    refine⟨_,?_,(all_take hx).trans (by rw[hall,hv];rfl),rfl⟩
    show cond (decide ((k:Int)<(p.length:Int))) _ _=_
    rw[dec_lt hx,cond_true,idx_nat hx,bindS,hc,hr1.1,hr1.2,bindS,Bool.and_self,Bool.not_true,cond_false,app_chkS (by show _+3≤_;omega),bindS,app_chkS (by omega),bindS,app_chkS1 (by omega),bindS,hgs,if_pos rfl]
    generalize h4:ByteArray.mk #[41,32,61,32]=L4 at a5 a6⊢
    generalize (((S++ByteArray.mk #[102,110,32])++y.Name)++ByteArray.mk #[40])++strOf (sep [44,32] (y.Given.map givenX))=S4 at a4 a5 a6⊢
    generalize h5:ByteArray.mk #[59,10]=L5
    have z4:L4.size=4:=by rw[←h4];rfl
    have z5:L5.size=2:=by rw[←h5];rfl
    refine brk_one ?_
    dsimp only
    rw[app_chkS (by rw[z4];omega),bindS,eta_t,text_okR _ y.Body (Nat.le_refl _) fu (by omega) (by simp only[Bd];omega) hoB hr1.2,bindS,app_chkS (by rw[strOf_size];omega),bindS,app_chkS (by rw[z5];omega),bindS,muchR (by omega) (by simp only[Bd];omega) hr1.2,bindS,wrB hkl (by simp only[Bd];omega)]
    rfl)
  (by
   rintro z ⟨hall,rfl⟩
   rw[take_all] at hall⊢
   refine⟨_,?_,rfl⟩
   rw[hall,if_pos rfl]
   show cond (decide ((p.length:Int)<(p.length:Int))) _ _=_
   rw[dec_end,cond_false]) p.length 0 fu (ByteArray.mk #[],0,ByteArray.mk #[],false,((0:Nat):Int)) rfl (Nat.zero_le _) (by omega) ⟨rfl,by
   simp only[List.take_zero,List.any_nil]
   congr 3⟩
 subst h2
 exact h1
theorem print_okR {fu:Nat}{p:List SFunc}(hf:4*wtL wtF p+60<fu) (hw:wtL wtF p≤1048576) (ho:okP p):F.adjointref3_Print fu p=some (printR p):=by
 unfold F.adjointref3_Print printR
 rw[progR_ok hf hw ho]
 cases hg:p.all funcB with
 | false=>rfl
 | true=>
  simp only[if_true,bindE]
  cases hm:p.any muchB with
  | true=>rfl
  | false=>
   have hz:((strOf (progX p)).size:Int)=((progX p).length:Int):=by rw[strOf_size]
   simp only[cond_false,Option.bind_some,hz]
   by_cases hl:65536<(progX p).length
   ·rw[decide_eq_true (by omega),if_pos (.inr hl)];rfl
   ·rw[decide_eq_false (by omega),if_neg (by simp[hl])];rfl
theorem textPrints_F {fu:Nat}{p:List SFunc}(hf:4*wtL wtF p+60<fu) (hw:wtL wtF p≤1048576) (ho:okP p):F.adjointlaw3_TextPrints fu p=some true:=by
 unfold F.adjointlaw3_TextPrints
 rw[print_okP (by omega) hw ho,print_okR hf hw ho]
 simp
end Go.DN
