/-
  Text, printing: the plain law: the reference's Print, and the law.
-/
import Derived.Test.YtmhbeopldeccmaaDoorVrE
set_option linter.unusedVariables false
set_option linter.unusedSimpArgs false
namespace Go.DN
open Go.AM
theorem Jh {fu:Nat}{f:bB}{v2:ByteArray}{v3:Int}{s:ByteArray}(hf:bu eO f.aB+50<fu) (hw:bu eO f.aB≤Bd) (ho:∀g∈f.aB,KH g) (h:s.size+40*bu eO f.aB≤140737488355328):
  aW (F.mC fu f) fu (v2,v3,s,0)=some (if f.aB.all iK then Ex.bw (v2,v3,s++strOf (sep [44,32] (f.aB.map dn))) else Ex.ret (.inr (.ret (ByteArray.mk #[],7)))):=by
 have hlen:f.aB.length≤(f.aB.map eO).sum:=dI (w:=eO) JP f.aB
 have hW:bu eO f.aB=(f.aB.map eO).sum+1:=rfl
 have hwi:∀n∈f.aB,(dn n).length+[44,32].length≤40*eO n:=fun n hn=>by have:=rU (ho n hn);simp only[bl,bQ];omega
 obtain⟨r,h1,h2⟩:=dh (body:=F.mC fu f) f.aB (fun k z=>(f.aB.take k).all iK=true∧z=(v2,v3,s++strOf (sep [44,32] ((f.aB.take k).map dn)),(k:Int))) (fun r=>r=(if f.aB.all iK then Ex.bw (v2,v3,s++strOf (sep [44,32] (f.aB.map dn))) else Ex.ret (.inr (.ret (ByteArray.mk #[],7))))) (by
  rintro k y z hx ⟨hall,rfl⟩
  have hk:=dR hx
  have hsum:=jz (w:=eO) hx
  have hle:=lk (f:=dn) (w:=eO) (c:=[44,32]) (K:=40) (l:=f.aB) k hwi
  have hm:=pE (w:=eO) (mem_of hx)
  have hyw:eO y=gM y.Name+bu dP y.cV+1:=rfl
  simp only[gM] at hyw
  have hod:=ho y (mem_of hx)
  have hS:(s++strOf (sep [44,32] ((f.aB.take k).map dn))).size≤s.size+40*((f.aB.take k).map eO).sum:=by rw[cn,bK];omega
  have hnx:s++strOf (sep [44,32] ((f.aB.take (k+1)).map dn))=((((s++strOf (sep [44,32] ((f.aB.take k).map dn)))++strOf (if 0<k then[44,32] else[]))++y.Name)++ByteArray.mk #[58,32])++strOf (eL y.cV):=by
   rw[mi dn [44,32] hx,bz,bz]
   unfold dn
   rw[bz (_++_) (eL y.cV),bz,l9]
   simp only[iD]
   rfl
  have hn:=sL (s:=y.Name) (fu:=fu) (by omega) (by omega)
  have hd:=xg (sp:=y.cV) (fu:=fu) (by omega) (by omega)
  have hc:(F.cA fu y.Name).bind (fun (r16:Bool)=>cond (!r16) (some true) ((F.fj fu y.cV).bind fun (r17:Bool)=>some (!r17)))=some (!iK y):=by
   rw[hn,hd]
   unfold iK
   cases nm y.Name <;> rfl
  cases hv:iK y with
  | false=>
   right
   have:f.aB.all iK=false:=all_false hx hv
   rw[this]
   refine⟨_,?_,rfl⟩
   show cond (decide ((k:Int)<(f.aB.length:Int))) _ _=_
   rw[dec_lt hx,cond_true,cc hx,bq,hc,hv,bq,eE,cond_true]
   rfl
  | true=>
   have hdim:y.cV.all ga=true:=by unfold iK at hv;simp only[ah] at hv;exact hv.2
   have hsx:=rM (l:=y.cV) hod
   left
   refine⟨_,?_,(jC hx).trans (by rw[hall,hv];rfl),rfl⟩
   rw[hnx]
   generalize s++strOf (sep [44,32] ((f.aB.take k).map dn))=S at hS⊢
   have ha:=GO (k:=k) (S:=S) (c:=ByteArray.mk #[44,32]) (l:=[44,32]) rfl (by show _+2≤_;omega)
   have hS2:(S++strOf (if 0<k then[44,32] else[])).size≤S.size+2:=by rw[cn,bK];split <;> simp
   generalize S++strOf (if 0<k then[44,32] else[])=T at ha hS2⊢
   have a1:(T++y.Name).size≤T.size+y.Name.size:=jG (ar _) _ (ar _)
   have a2:=jG a1 (ByteArray.mk #[58,32]) (ar 2)
   show cond (decide ((k:Int)<(f.aB.length:Int))) _ _=_
   rw[dec_lt hx,cond_true,cc hx,bq,hc,hv,bq,dL,cond_false,ha,bq,cE (by omega),bq,cE (by show _+2≤_;omega),bq,Aw (by omega) (by omega) hod hdim,bq,cE (by rw[bK];omega),bq,mH hk (by omega)])
  (by
   rintro z ⟨hall,rfl⟩
   rw[gB] at hall⊢
   refine⟨_,?_,rfl⟩
   rw[hall,if_pos rfl]
   show cond (decide ((f.aB.length:Int)<(f.aB.length:Int))) _ _=_
   rw[dj,cond_false]) f.aB.length 0 fu (v2,v3,s,((0:Nat):Int)) rfl (cI _) (by omega) ⟨rfl,by
   simp only[kH,dE,sep]
   congr 3
   apply iz;simp[strOf]⟩
 subst h2
 exact h1
theorem Rf {m:Bool}{fu:Nat}{t:ai}(hf:bD t+2<fu) (hw:bD t≤Bd) (hr:right t=true):
  (cond m (some true) ((F.ig fu t).bind fun (r25:Int)=>
     cond (decide (r25>64)) (some true) ((F.gK fu t).bind fun (r26:Int)=>
     some (decide (r26>64)))):Option Bool)=some (m||(decide (64<levels t)||decide (64<dK t))):=by
 cases m with
 | true=>rfl
 | false=>
  rw[cond_false,AX _ t (ar _) fu hf hw,bq,yV _ t (ar _) fu hf hw hr,bq,fx]
  by_cases h1:64<levels t
  ·rw[decide_eq_true h1,decide_eq_true (show(levels t:Int)>64 by omega)];rfl
  ·rw[decide_eq_false h1,decide_eq_false (show ¬(levels t:Int)>64 by omega),cond_false,fx]
   congr 1
   rw[decide_eq_decide];omega
theorem PC {B R S:Type}{g:R→S}{x:B}{k:B→Option S}{o:Option S}(h:k x=o):br g (some (.bw x)) k=o:=by
 have:∀e:Ex B R,e=.bw x→br g (some e) k=o:=by
  rintro _ rfl
  exact h
 exact this _ rfl
theorem Mz {fu:Nat}{p:List bB}(hf:4*bu eI p+60<fu) (hw:bu eI p≤1048576) (ho:De p):
  aW (F.mB fu p) fu (ByteArray.mk #[],0,ByteArray.mk #[],false,0)=some (if p.all jj then Ex.bw (ByteArray.mk #[],0,strOf (fJ p),p.any jX) else Ex.ret (ByteArray.mk #[],7)):=by
 have hlen:p.length≤(p.map eI).sum:=dI (w:=eI) JQ p
 have hW:bu eI p=(p.map eI).sum+1:=rfl
 obtain⟨r,h1,h2⟩:=dh (body:=F.mB fu p) p (fun k z=>(p.take k).all jj=true∧z=(ByteArray.mk #[],0,strOf (fJ (p.take k)),(p.take k).any jX,(k:Int))) (fun r=>r=(if p.all jj then Ex.bw (ByteArray.mk #[],0,strOf (fJ p),p.any jX) else Ex.ret (ByteArray.mk #[],7))) (by
  rintro k y z hx ⟨hall,rfl⟩
  have hkl:=dR hx
  have hsum:=jz (w:=eI) hx
  have hle:=pO (f:=lN) (w:=eI) (K:=40) (l:=p.take k) fun z hz=>by have:=F4 (ho z (lh hz));omega
  have hle:(fJ (p.take k)).length≤40*((p.take k).map eI).sum:=hle
  have hyw:eI y=gM y.Name+bu eO y.aB+bD y.Body+1:=rfl
  simp only[gM] at hyw
  obtain⟨hoG,hoB⟩:=ho y (mem_of hx)
  have hn:=sL (s:=y.Name) (fu:=fu) (by simp only[Bd];omega) (by omega)
  have hrb:=C9 _ y.Body (ar _) fu (by omega) (by simp only[Bd];omega)
  have hc:(F.cA fu y.Name).bind (fun (r8:Bool)=>cond (!r8) (some true) ((F.jc fu (⟨y.Body.Kind,y.Body.Name,y.Body.Number,y.Body.Shaped,y.Body.Shape,y.Body.aE,y.Body.Kids⟩:ai)).bind fun (r9:Bool)=>some (!r9)))=some (!(nm y.Name&&right y.Body)):=by
   rw[hn,gT,hrb]
   cases nm y.Name <;> rfl
  have hfb:jj y=(nm y.Name&&(y.aB.all iK&&right y.Body)):=rfl
  have hS:(strOf (fJ (p.take k))).size≤40*((p.take k).map eI).sum:=by rw[bK];omega
  have hnx:strOf (fJ (p.take (k+1)))=(((((((strOf (fJ (p.take k))++ByteArray.mk #[102,110,32])++y.Name)++ByteArray.mk #[40])++strOf (sep [44,32] (y.aB.map dn)))++ByteArray.mk #[41,32,61,32])++strOf (tx y.Body))++ByteArray.mk #[59,10]):=by
   have:fJ (p.take (k+1))=fJ (p.take k)++lN y:=uG lN hx
   rw[this,bz]
   unfold lN
   rw[bz,bz,bz,bz,bz,bz,l9]
   simp only[iD]
   rfl
  have hany:(p.take (k+1)).any jX=((p.take k).any jX||jX y):=by rw[dD,hx];simp
  rw[hnx,hany]
  generalize strOf (fJ (p.take k))=S at hS⊢
  generalize (p.take k).any jX=m
  cases hr1:(nm y.Name&&right y.Body) with
  | false=>
   right
   have hv:jj y=false:=by
    rw[hfb]
    rcases Bool.and_eq_false_iff.1 hr1 with h | h <;> rw[h] <;> simp
   have:p.all jj=false:=all_false hx hv
   rw[this]
   refine⟨_,?_,rfl⟩
   show cond (decide ((k:Int)<(p.length:Int))) _ _=_
   rw[dec_lt hx,cond_true,cc hx,bq,hc,hr1,bq,eE,cond_true]
   rfl
  | true=>
   have a1:(S++ByteArray.mk #[102,110,32]).size≤S.size+3:=jG (ar _) _ (ar 3)
   have a2:=jG a1 y.Name (ar _)
   have a3:=jG a2 (ByteArray.mk #[40]) (ar 1)
   have hgs:=Jh (fu:=fu) (f:=y) (v2:=ByteArray.mk #[]) (v3:=0) (s:=((S++ByteArray.mk #[102,110,32])++y.Name)++ByteArray.mk #[40]) (by omega) (by simp only[Bd];omega) hoG (by omega)
   rw[ah] at hr1
   cases hg:y.aB.all iK with
   | false=>
    right
    have hv:jj y=false:=by rw[hfb,hg];simp
    have:p.all jj=false:=all_false hx hv
    rw[this]
    rw[hg] at hgs
    refine⟨_,?_,rfl⟩
    show cond (decide ((k:Int)<(p.length:Int))) _ _=_
    rw[dec_lt hx,cond_true,cc hx,bq,hc,hr1.1,hr1.2,bq,eV,dL,cond_false,cE (by show _+3≤_;omega),bq,cE (by omega),bq,jQ (by omega),bq,hgs]
    rfl
   | true=>
    left
    rw[hg] at hgs
    have hsx:=lj (f:=dn) (w:=eO) (c:=[44,32]) (K:=40) (l:=y.aB) fun n hn=>by have:=rU (hoG n hn);simp only[bl,bQ];omega
    have hgw:bu eO y.aB=(y.aB.map eO).sum+1:=rfl
    have htx:=kl hoB
    have a4:=jG a3 (strOf (sep [44,32] (y.aB.map dn))) (mc (bK _))
    have a5:=jG a4 (ByteArray.mk #[41,32,61,32]) (ar 4)
    have a6:=jG a5 (strOf (tx y.Body)) (mc (bK _))
    have hv:jj y=true:=by rw[hfb,hg,hr1.1,hr1.2];rfl
    refine⟨_,?_,(jC hx).trans (by rw[hall,hv];rfl),rfl⟩
    show cond (decide ((k:Int)<(p.length:Int))) _ _=_
    rw[dec_lt hx,cond_true,cc hx,bq,hc,hr1.1,hr1.2,bq,eV,dL,cond_false,cE (by show _+3≤_;omega),bq,cE (by omega),bq,jQ (by omega),bq,hgs,if_pos rfl]
    generalize h4:ByteArray.mk #[41,32,61,32]=L4 at a5 a6⊢
    generalize (((S++ByteArray.mk #[102,110,32])++y.Name)++ByteArray.mk #[40])++strOf (sep [44,32] (y.aB.map dn))=S4 at a4 a5 a6⊢
    generalize h5:ByteArray.mk #[59,10]=L5
    have z4:L4.size=4:=by rw[←h4];rfl
    have z5:L5.size=2:=by rw[←h5];rfl
    refine PC ?_
    dsimp only
    rw[cE (by rw[z4];omega),bq,gT,EQ _ y.Body (ar _) fu (by omega) (by simp only[Bd];omega) hoB hr1.2,bq,cE (by rw[bK];omega),bq,cE (by rw[z5];omega),bq,Rf (by omega) (by simp only[Bd];omega) hr1.2,bq,mH hkl (by simp only[Bd];omega)]
    rfl)
  (by
   rintro z ⟨hall,rfl⟩
   rw[gB] at hall⊢
   refine⟨_,?_,rfl⟩
   rw[hall,if_pos rfl]
   show cond (decide ((p.length:Int)<(p.length:Int))) _ _=_
   rw[dj,cond_false]) p.length 0 fu (ByteArray.mk #[],0,ByteArray.mk #[],false,((0:Nat):Int)) rfl (cI _) (by omega) ⟨rfl,by
   simp only[kH,fH]
   congr 3⟩
 subst h2
 exact h1
theorem KD {fu:Nat}{p:List bB}(hf:4*bu eI p+60<fu) (hw:bu eI p≤1048576) (ho:De p):F.lQ fu p=some (lq p):=by
 unfold F.lQ lq
 rw[Mz hf hw ho]
 cases hg:p.all jj with
 | false=>rfl
 | true=>
  simp only[if_true,br]
  cases hm:p.any jX with
  | true=>rfl
  | false=>
   have hz:((strOf (fJ p)).size:Int)=((fJ p).length:Int):=by rw[bK]
   simp only[cond_false,aa,hz]
   by_cases hl:65536<(fJ p).length
   ·rw[decide_eq_true (by omega),if_pos (.inr hl)];rfl
   ·rw[decide_eq_false (by omega),if_neg (by simp[hl])];rfl
end Go.DN
