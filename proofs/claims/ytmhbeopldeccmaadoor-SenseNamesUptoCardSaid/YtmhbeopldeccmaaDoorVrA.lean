/-
  Text, printing: the plain law: the reference's digits, shapes, what is right.
-/
import Derived.Test.YtmhbeopldeccmaaDoorVpI
import Derived.Test.YtmhbeopldeccmaaDoorVnC
set_option linter.unusedVariables false
set_option linter.unusedSimpArgs false
namespace Go.DN
open Go.AM
theorem bz (a b:List Int):strOf (a++b)=strOf a++strOf b:=by
 unfold strOf
 apply iz
 simp
theorem bq {α β:Type}(x:α) (f:α→Option β):(some x).bind f=f x:=by
 have:∀o:Option α,o=some x→o.bind f=f x:=by
  rintro _ rfl
  rfl
 exact this _ rfl
theorem bK (a:List Int):(strOf a).size=a.length:=by
 unfold strOf
 show(List.toArray _).size=_
 simp
theorem l9 (s:ByteArray):strOf (aF s)=s:=tl s
theorem vK (n:Int):strOf (dg n)=ph n:=tl _
theorem cE {a b:ByteArray}(h:a.size+b.size≤140737488355328):cj (((a.size+b.size:Nat):Int)≤9223372036854775807)=some ():=ou (by omega)
theorem jQ {a:ByteArray}{x:UInt8}(h:a.size≤140737488355327):cj (((a.size+(ByteArray.mk #[x]).size:Nat):Int)≤9223372036854775807)=some ():=cE (by have:(ByteArray.mk #[x]).size=1:=rfl;rw[this];omega)
theorem HR {u:Nat}(h:u<10):strOf [IntKind.wrap .u8 (IntKind.wrap .i64 (48+(u:Int)))]=⟨#[UInt8.ofNat (48+u)]⟩:=by
 rw[i64 (by omega) (by omega)]
 have:IntKind.wrap .u8 (48+(u:Int))=48+(u:Int):=by
  have h1:u=0∨u=1∨u=2∨u=3∨u=4∨u=5∨u=6∨u=7∨u=8∨u=9:=by omega
  rcases h1 with h | h | h | h | h | h | h | h | h | h <;> subst h <;> rfl
 rw[this]
 unfold strOf
 simp only[az,dE]
 have:((48+(u:Int)).toNat)=48+u:=by omega
 rw[this]
theorem Bq:∀(k u fu:Nat),u<10^(k+1)→u≤9223372036854775807→k+1≤fu→k≤30→F.eH fu (u:Int)=some ⟨(Lib.decDigits u).toArray⟩
 | k,u,0,_,_,h,_=>by omega
 | k,u,fu+1,h1,h2,h3,hk=>by
  show F.mD (F.eH fu) (fu+1) (u:Int)=_
  unfold F.mD
  rw[Lib.decDigits]
  by_cases hu:u<10
  ·rw[decide_eq_true (show(u:Int)<10 by omega),dif_pos hu,cond_true,HR hu]
  ·rw[decide_eq_false (show ¬(u:Int)<10 by omega),dif_neg hu,cond_false]
   obtain⟨k',rfl⟩:∃k',k=k'+1:=⟨k-1,by
    rcases mf k with h | h
    ·subst h;simp at h1;omega
    ·omega⟩
   have hdiv:Int.tdiv (u:Int) 10=((u/10:Nat):Int):=by rw[Int.tdiv_eq_ediv_of_nonneg (by omega)];omega
   have hmod:Int.tmod (u:Int) 10=((u%10:Nat):Int):=by rw[Int.tmod_eq_emod_of_nonneg (by omega)];omega
   rw[hdiv,hmod,i64 (n:=((u/10:Nat):Int)) (by omega) (by omega),HR (u:=u%10) (by omega)]
   have ih:=Bq k' (u/10) fu (by rw[Nat.pow_succ] at h1;omega) (by omega) (by omega) (by omega)
   have hsz:(⟨(Lib.decDigits (u/10)).toArray⟩:ByteArray).size≤40:=by
    show(List.toArray _).size≤_
    have:=Lib.decDigits_length (u/10)
    have:=sH k' (u/10) (by rw[Nat.pow_succ] at h1;omega)
    simp only[lg]
    omega
   have hR:(⟨(Lib.decDigits (u/10)++[UInt8.ofNat (48+u%10)]).toArray⟩:ByteArray)=⟨(Lib.decDigits (u/10)).toArray⟩++⟨#[UInt8.ofNat (48+u%10)]⟩:=by
    apply iz
    simp
   rw[hR]
   generalize (⟨(Lib.decDigits (u/10)).toArray⟩:ByteArray)=D at ih hsz⊢
   have hc:=jQ (a:=D) (x:=UInt8.ofNat (48+u%10)) (by omega)
   simp only[ih,bq,hc,LN,Af]
   rfl
 termination_by _ _ fu=>fu
theorem yO {n:Int}{fu:Nat}(hn:ss n) (h0:0≤n) (hf:30≤fu):F.eH fu n=some (ph n):=by
 obtain⟨u,rfl⟩:∃u:Nat,n=u:=⟨n.toNat,by omega⟩
 have:=hn.2
 rw[Bq 18 u fu (by omega) (by omega) (by omega) (by omega)]
 unfold ph Lib.itoa
 rw[if_neg (by omega)]
 rfl
theorem xg {fu:Nat}{sp:List iu}(hf:bu dP sp+1<fu) (hw:bu dP sp≤Bd):F.fj fu sp=some (sp.all ga):=by
 have hlen:sp.length≤(sp.map dP).sum:=dI (w:=dP) (fun x=>by simp only[dP,gM];omega) sp
 have hW:bu dP sp=(sp.map dP).sum+1:=rfl
 obtain⟨r,h1,h2⟩:=dh (body:=F.gA fu sp) sp (fun k s=>(sp.take k).all ga=true∧s=(false,(k:Int))) (fun r=>r=(if sp.all ga=true then Ex.bw () else Ex.ret false)) (by
  rintro k x s hx ⟨hall,rfl⟩
  have hk:=dR hx
  have hsum:=jz (w:=dP) hx
  have hnm:=sL (s:=x.Name) (fu:=fu) (by simp only[dP,gM] at hsum;omega) (by simp only[dP,gM] at hsum;omega)
  have hd:(cond (em x.Name) (cond (decide (x.iW<0)) (some true) (cond (!(em x.Name)) (cond (x.iW !=0) (some true) ((F.cA fu x.Name).bind fun (r5:Bool)=>some (!r5))) (some false)))
    (cond (!(em x.Name)) (cond (x.iW !=0) (some true) ((F.cA fu x.Name).bind fun (r6:Bool)=>some (!r6))) (some false)):Option Bool)=some (!ga x):=by
   rw[hnm]
   unfold ga
   rw[vn]
   cases em x.Name with
   | true=>
    by_cases h:x.iW<0
    ·rw[decide_eq_true h,decide_eq_false (show ¬0≤x.iW by omega)];rfl
    ·rw[decide_eq_false h,decide_eq_true (show 0≤x.iW by omega)];rfl
   | false=>
    by_cases h:x.iW=0
    ·rw[decide_eq_true h];cases nm x.Name <;> rfl
    ·rw[decide_eq_false h];rfl
  simp only[F.gA,dec_lt hx,cond_true,cc hx,aa,Bn]
  rw[hd]
  cases hv:ga x with
  | true=>
   left
   exact⟨_,by simp only[aa,dL,cond_false];rfl,(jC hx).trans (by rw[hall,hv];rfl),by rw[mH hk (by omega)]⟩
  | false=>
   right
   exact⟨_,by simp only[aa,eE,cond_true];rfl,by rw[all_false hx hv];rfl⟩)
  (by
   rintro s ⟨hall,rfl⟩
   rw[gB] at hall
   exact⟨_,by simp only[F.gA,dj,cond_false];rfl,by rw[hall];rfl⟩) sp.length 0 fu (false,((0:Nat):Int)) rfl (cI _) (by omega) ⟨rfl,rfl⟩
 unfold F.fj
 have h1:aW (F.gA fu sp) fu (false,0)=some r:=h1
 rw[h1,h2]
 cases sp.all ga <;> rfl
theorem Aw {fu:Nat}{sp:List iu}(hf:bu dP sp+40<fu) (hw:bu dP sp≤Bd) (ho:∀d∈sp,AJ d) (hd:sp.all ga=true):F.fS fu sp=some (strOf (eL sp)):=by
 have hlen:sp.length≤(sp.map dP).sum:=dI (w:=dP) (fun x=>by simp only[dP,gM];omega) sp
 have hW:bu dP sp=(sp.map dP).sum+1:=rfl
 obtain⟨r,h1,h2⟩:=dh (body:=F.gi fu sp) sp (fun k s=>s=(strOf ([91]++sep [32] ((sp.take k).map fQ)),(k:Int))) (fun r=>r=strOf ([91]++sep [32] (sp.map fQ))) (by
  rintro k x s hx rfl
  have hk:=dR hx
  have hsum:=jz (w:=dP) hx
  have hle:=lk (f:=fQ) (w:=dP) (c:=[32]) (K:=40) (l:=sp) k fun y hy=>rp (ho y hy)
  have hdx:=rp (ho x (mem_of hx))
  have hxd:=cu.1 hd x (mem_of hx)
  have hS:(strOf ([91]++sep [32] ((sp.take k).map fQ))).size≤1+40*((sp.take k).map dP).sum:=by rw[bK,al,dl];omega
  have hnx:strOf ([91]++sep [32] ((sp.take (k+1)).map fQ))=(strOf ([91]++sep [32] ((sp.take k).map fQ))++strOf (if 0<k then[32] else[]))++strOf (fQ x):=by
   rw[mi fQ [32] hx,←bz,←bz];simp only[aL]
  generalize strOf ([91]++sep [32] ((sp.take k).map fQ))=S at hS hnx⊢
  have hsp:(cond (decide ((k:Int)>0)) ((cj (((S.size+(ByteArray.mk #[32]).size:Nat):Int)≤9223372036854775807)).bind fun _=>some (S++(ByteArray.mk #[32]))) (some S):Option ByteArray)=some (S++strOf (if 0<k then[32] else[])):=by
   by_cases h0:0<k
   ·rw[decide_eq_true (by omega),if_pos h0,jQ (by simp only[Bd] at hw;omega)];rfl
   ·rw[decide_eq_false (by omega),if_neg h0,cond_false]
    congr 1
    apply iz;simp[strOf]
  have hS2:(S++strOf (if 0<k then[32] else[])).size≤S.size+1:=by
   rw[cn,bK];split <;> simp
  generalize hT:S++strOf (if 0<k then[32] else[])=T at hsp hS2 hnx
  left
  refine⟨_,?_,rfl⟩
  simp only[F.gi,dec_lt hx,cond_true,cc hx,aa,Bn]
  rw[hsp,hnx]
  unfold fQ at hdx⊢
  unfold ga at hxd
  cases he:em x.Name with
  | true=>
   rw[he] at hxd hdx
   simp only[if_true] at hdx hxd⊢
   have h0:0≤x.iW:=by simpa using hxd
   rw[vK]
   have hl:=mO (ho x (mem_of hx))
   have hsz:(ph x.iW).size≤20:=by unfold dg at hl;rw[bI] at hl;exact hl
   simp only[aa,cond_true,yO (ho x (mem_of hx)) h0 (show 30≤fu by omega),cE (a:=T) (b:=ph x.iW) (by simp only[Bd] at hw;omega)]
   rw[mH hk (by omega)]
  | false=>
   rw[he] at hdx
   simp only[if_false,gV,bI] at hdx⊢
   rw[l9]
   simp only[aa,cond_false,cE (a:=T) (b:=x.Name) (by simp only[Bd] at hw;omega)]
   rw[mH hk (by omega)])
  (by
   rintro s rfl
   rw[gB]
   exact⟨_,by simp only[F.gi,dj,cond_false],rfl⟩) sp.length 0 fu (ByteArray.mk #[91],((0:Nat):Int)) rfl (cI _) (by omega) rfl
 unfold F.fS
 have h1:aW (F.gi fu sp) fu (ByteArray.mk #[91],0)=some r:=h1
 rw[h1,h2]
 have hle:=lj (f:=fQ) (w:=dP) (c:=[32]) (K:=40) (l:=sp) fun y hy=>rp (ho y hy)
 have hS:(strOf ([91]++sep [32] (sp.map fQ))).size≤1+40*(sp.map dP).sum:=by rw[bK,al,dl];omega
 rw[aa,jQ (by simp only[Bd] at hw;omega),aa]
 unfold eL
 rw[bz ([91]++_)]
 rfl
theorem Db (fu:Nat) (t:ai):F.gC fu t=some (pw t:Int):=by
 obtain⟨k,n,x,sh,sp,ls,ks⟩:=t
 unfold F.gC pw mul
 simp only[kE k,vn k]
 by_cases h5:k=5
 ·subst h5;simp
 by_cases h6:k=6
 ·subst h6;simp
 by_cases h4:k=4
 ·subst h4
  cases n.toList==(ByteArray.mk #[42]).toList <;> simp
 ·simp[h4,h5,h6]
theorem zl {fu:Nat}{t x:ai}{j:Nat}(hx:t.Kids[j]?=some x) (hj:j≤1099511627776):F.kQ fu t j=some (jU t x j):=by
 have h1:=IH t
 have h2:=IH x
 unfold F.kQ jU
 simp only[cc hx,aa,Db,gT]
 rw[i64 (by omega) (by omega)]
 congr 1
 rw[decide_eq_decide]
 omega
end Go.DN
