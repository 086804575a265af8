/-
  Text, printing: the plain law: the reference's digits, shapes, what is right.
-/
import Derived.Test.YtaobkpnecfcefaaDoorVpI
import Derived.Test.YtaobkpnecfcefaaDoorVnC
set_option linter.unusedVariables false
set_option linter.unusedSimpArgs false
namespace Go.DN
open Go.AM
theorem strOf_app (a b:List Int):strOf (a++b)=strOf a++strOf b:=by
 unfold strOf
 apply ByteArray.ext
 simp
theorem bindS {α β:Type}(x:α) (f:α→Option β):(some x).bind f=f x:=by
 have:∀o:Option α,o=some x→o.bind f=f x:=by
  rintro _ rfl
  rfl
 exact this _ rfl
theorem strOf_size (a:List Int):(strOf a).size=a.length:=by
 unfold strOf
 show(List.toArray _).size=_
 simp
theorem strOf_str (s:ByteArray):strOf (bytesI s)=s:=strOf_bytesI s
theorem strOf_dg (n:Int):strOf (dg n)=strI n:=strOf_bytesI _
theorem app_chkS {a b:ByteArray}(h:a.size+b.size≤140737488355328):chk (((a.size+b.size:Nat):Int)≤9223372036854775807)=some ():=chk_pos (by omega)
theorem app_chkS1 {a:ByteArray}{x:UInt8}(h:a.size≤140737488355327):chk (((a.size+(ByteArray.mk #[x]).size:Nat):Int)≤9223372036854775807)=some ():=app_chkS (by have:(ByteArray.mk #[x]).size=1:=rfl;rw[this];omega)
theorem digit_b {u:Nat}(h:u<10):strOf [IntKind.wrap .u8 (IntKind.wrap .i64 (48+(u:Int)))]=⟨#[UInt8.ofNat (48+u)]⟩:=by
 rw[i64 (by omega) (by omega)]
 have:IntKind.wrap .u8 (48+(u:Int))=48+(u:Int):=by
  have h1:u=0∨u=1∨u=2∨u=3∨u=4∨u=5∨u=6∨u=7∨u=8∨u=9:=by omega
  rcases h1 with h | h | h | h | h | h | h | h | h | h <;> subst h <;> rfl
 rw[this]
 unfold strOf
 simp only[List.map_cons,List.map_nil]
 have:((48+(u:Int)).toNat)=48+u:=by omega
 rw[this]
theorem digits_okR:∀(k u fu:Nat),u<10^(k+1)→u≤9223372036854775807→k+1≤fu→k≤30→F.adjointref3_Digits fu (u:Int)=some ⟨(Lib.decDigits u).toArray⟩
 | k,u,0,_,_,h,_=>by omega
 | k,u,fu+1,h1,h2,h3,hk=>by
  show F.adjointref3_Digits_b (F.adjointref3_Digits fu) (fu+1) (u:Int)=_
  unfold F.adjointref3_Digits_b
  rw[Lib.decDigits]
  by_cases hu:u<10
  ·rw[decide_eq_true (show(u:Int)<10 by omega),dif_pos hu,cond_true,digit_b hu]
  ·rw[decide_eq_false (show ¬(u:Int)<10 by omega),dif_neg hu,cond_false]
   obtain⟨k',rfl⟩:∃k',k=k'+1:=⟨k-1,by
    rcases Nat.eq_zero_or_pos k with h | h
    ·subst h;simp at h1;omega
    ·omega⟩
   have hdiv:Int.tdiv (u:Int) 10=((u/10:Nat):Int):=by rw[Int.tdiv_eq_ediv_of_nonneg (by omega)];omega
   have hmod:Int.tmod (u:Int) 10=((u%10:Nat):Int):=by rw[Int.tmod_eq_emod_of_nonneg (by omega)];omega
   rw[hdiv,hmod,i64 (n:=((u/10:Nat):Int)) (by omega) (by omega),digit_b (u:=u%10) (by omega)]
   have ih:=digits_okR k' (u/10) fu (by rw[Nat.pow_succ] at h1;omega) (by omega) (by omega) (by omega)
   have hsz:(⟨(Lib.decDigits (u/10)).toArray⟩:ByteArray).size≤40:=by
    show(List.toArray _).size≤_
    have:=Lib.decDigits_length (u/10)
    have:=nDigits_le k' (u/10) (by rw[Nat.pow_succ] at h1;omega)
    simp only[List.size_toArray]
    omega
   have hR:(⟨(Lib.decDigits (u/10)++[UInt8.ofNat (48+u%10)]).toArray⟩:ByteArray)=⟨(Lib.decDigits (u/10)).toArray⟩++⟨#[UInt8.ofNat (48+u%10)]⟩:=by
    apply ByteArray.ext
    simp
   rw[hR]
   generalize (⟨(Lib.decDigits (u/10)).toArray⟩:ByteArray)=D at ih hsz⊢
   have hc:=app_chkS1 (a:=D) (x:=UInt8.ofNat (48+u%10)) (by omega)
   simp only[ih,bindS,hc,amb2_self,amb_self]
   rfl
 termination_by _ _ fu=>fu
theorem digitsR {n:Int}{fu:Nat}(hn:okI n) (h0:0≤n) (hf:30≤fu):F.adjointref3_Digits fu n=some (strI n):=by
 obtain⟨u,rfl⟩:∃u:Nat,n=u:=⟨n.toNat,by omega⟩
 have:=hn.2
 rw[digits_okR 18 u fu (by omega) (by omega) (by omega) (by omega)]
 unfold strI Lib.itoa
 rw[if_neg (by omega)]
 rfl
theorem writable_okR {fu:Nat}{sp:List SDim}(hf:wtL wtD sp+1<fu) (hw:wtL wtD sp≤Bd):F.adjointref3_writable fu sp=some (sp.all dimB):=by
 have hlen:sp.length≤(sp.map wtD).sum:=sum_len (w:=wtD) (fun x=>by simp only[wtD,wtS];omega) sp
 have hW:wtL wtD sp=(sp.map wtD).sum+1:=rfl
 obtain⟨r,h1,h2⟩:=loop_idx (body:=F.adjointref3_writable_l1 fu sp) sp (fun k s=>(sp.take k).all dimB=true∧s=(false,(k:Int))) (fun r=>r=(if sp.all dimB=true then Ex.brk () else Ex.ret false)) (by
  rintro k x s hx ⟨hall,rfl⟩
  have hk:=get_lt hx
  have hsum:=sum_take (w:=wtD) hx
  have hnm:=isName_okB (s:=x.Name) (fu:=fu) (by simp only[wtD,wtS] at hsum;omega) (by simp only[wtD,wtS] at hsum;omega)
  have hd:(cond (em x.Name) (cond (decide (x.Size<0)) (some true) (cond (!(em x.Name)) (cond (x.Size !=0) (some true) ((F.adjointref3_IsName fu x.Name).bind fun (r5:Bool)=>some (!r5))) (some false)))
    (cond (!(em x.Name)) (cond (x.Size !=0) (some true) ((F.adjointref3_IsName fu x.Name).bind fun (r6:Bool)=>some (!r6))) (some false)):Option Bool)=some (!dimB x):=by
   rw[hnm]
   unfold dimB
   rw[int_ned]
   cases em x.Name with
   | true=>
    by_cases h:x.Size<0
    ·rw[decide_eq_true h,decide_eq_false (show ¬0≤x.Size by omega)];rfl
    ·rw[decide_eq_false h,decide_eq_true (show 0≤x.Size by omega)];rfl
   | false=>
    by_cases h:x.Size=0
    ·rw[decide_eq_true h];cases nm x.Name <;> rfl
    ·rw[decide_eq_false h];rfl
  simp only[F.adjointref3_writable_l1,dec_lt hx,cond_true,idx_nat hx,Option.bind_some,em_eq]
  rw[hd]
  cases hv:dimB x with
  | true=>
   left
   exact⟨_,by simp only[Option.bind_some,Bool.not_true,cond_false];rfl,(all_take hx).trans (by rw[hall,hv];rfl),by rw[wrB hk (by omega)]⟩
  | false=>
   right
   exact⟨_,by simp only[Option.bind_some,Bool.not_false,cond_true];rfl,by rw[all_false hx hv];rfl⟩)
  (by
   rintro s ⟨hall,rfl⟩
   rw[take_all] at hall
   exact⟨_,by simp only[F.adjointref3_writable_l1,dec_end,cond_false];rfl,by rw[hall];rfl⟩) sp.length 0 fu (false,((0:Nat):Int)) rfl (Nat.zero_le _) (by omega) ⟨rfl,rfl⟩
 unfold F.adjointref3_writable
 have h1:loopF (F.adjointref3_writable_l1 fu sp) fu (false,0)=some r:=h1
 rw[h1,h2]
 cases sp.all dimB <;> rfl
theorem shapeT_okR {fu:Nat}{sp:List SDim}(hf:wtL wtD sp+40<fu) (hw:wtL wtD sp≤Bd) (ho:∀d∈sp,okD d) (hd:sp.all dimB=true):F.adjointref3_shapeText fu sp=some (strOf (shapeX sp)):=by
 have hlen:sp.length≤(sp.map wtD).sum:=sum_len (w:=wtD) (fun x=>by simp only[wtD,wtS];omega) sp
 have hW:wtL wtD sp=(sp.map wtD).sum+1:=rfl
 obtain⟨r,h1,h2⟩:=loop_idx (body:=F.adjointref3_shapeText_l1 fu sp) sp (fun k s=>s=(strOf ([91]++sep [32] ((sp.take k).map dimX)),(k:Int))) (fun r=>r=strOf ([91]++sep [32] (sp.map dimX))) (by
  rintro k x s hx rfl
  have hk:=get_lt hx
  have hsum:=sum_take (w:=wtD) hx
  have hle:=sepTake_le (f:=dimX) (w:=wtD) (c:=[32]) (K:=40) (l:=sp) k fun y hy=>dimX_le (ho y hy)
  have hdx:=dimX_le (ho x (mem_of hx))
  have hxd:=List.all_eq_true.1 hd x (mem_of hx)
  have hS:(strOf ([91]++sep [32] ((sp.take k).map dimX))).size≤1+40*((sp.take k).map wtD).sum:=by rw[strOf_size,List.length_append,List.length_singleton];omega
  have hnx:strOf ([91]++sep [32] ((sp.take (k+1)).map dimX))=(strOf ([91]++sep [32] ((sp.take k).map dimX))++strOf (if 0<k then[32] else[]))++strOf (dimX x):=by
   rw[sep_take dimX [32] hx,←strOf_app,←strOf_app];simp only[List.append_assoc]
  generalize strOf ([91]++sep [32] ((sp.take k).map dimX))=S at hS hnx⊢
  have hsp:(cond (decide ((k:Int)>0)) ((chk (((S.size+(ByteArray.mk #[32]).size:Nat):Int)≤9223372036854775807)).bind fun _=>some (S++(ByteArray.mk #[32]))) (some S):Option ByteArray)=some (S++strOf (if 0<k then[32] else[])):=by
   by_cases h0:0<k
   ·rw[decide_eq_true (by omega),if_pos h0,app_chkS1 (by simp only[Bd] at hw;omega)];rfl
   ·rw[decide_eq_false (by omega),if_neg h0,cond_false]
    congr 1
    apply ByteArray.ext;simp[strOf]
  have hS2:(S++strOf (if 0<k then[32] else[])).size≤S.size+1:=by
   rw[ByteArray.size_append,strOf_size];split <;> simp
  generalize hT:S++strOf (if 0<k then[32] else[])=T at hsp hS2 hnx
  left
  refine⟨_,?_,rfl⟩
  simp only[F.adjointref3_shapeText_l1,dec_lt hx,cond_true,idx_nat hx,Option.bind_some,em_eq]
  rw[hsp,hnx]
  unfold dimX at hdx⊢
  unfold dimB at hxd
  cases he:em x.Name with
  | true=>
   rw[he] at hxd hdx
   simp only[if_true] at hdx hxd⊢
   have h0:0≤x.Size:=by simpa using hxd
   rw[strOf_dg]
   have hl:=dg_len (ho x (mem_of hx))
   have hsz:(strI x.Size).size≤20:=by unfold dg at hl;rw[bytesI_length] at hl;exact hl
   simp only[Option.bind_some,cond_true,digitsR (ho x (mem_of hx)) h0 (show 30≤fu by omega),app_chkS (a:=T) (b:=strI x.Size) (by simp only[Bd] at hw;omega)]
   rw[wrB hk (by omega)]
  | false=>
   rw[he] at hdx
   simp only[if_false,Bool.false_eq_true,bytesI_length] at hdx⊢
   rw[strOf_str]
   simp only[Option.bind_some,cond_false,app_chkS (a:=T) (b:=x.Name) (by simp only[Bd] at hw;omega)]
   rw[wrB hk (by omega)])
  (by
   rintro s rfl
   rw[take_all]
   exact⟨_,by simp only[F.adjointref3_shapeText_l1,dec_end,cond_false],rfl⟩) sp.length 0 fu (ByteArray.mk #[91],((0:Nat):Int)) rfl (Nat.zero_le _) (by omega) rfl
 unfold F.adjointref3_shapeText
 have h1:loopF (F.adjointref3_shapeText_l1 fu sp) fu (ByteArray.mk #[91],0)=some r:=h1
 rw[h1,h2]
 have hle:=sep_le (f:=dimX) (w:=wtD) (c:=[32]) (K:=40) (l:=sp) fun y hy=>dimX_le (ho y hy)
 have hS:(strOf ([91]++sep [32] (sp.map dimX))).size≤1+40*(sp.map wtD).sum:=by rw[strOf_size,List.length_append,List.length_singleton];omega
 rw[Option.bind_some,app_chkS1 (by simp only[Bd] at hw;omega),Option.bind_some]
 unfold shapeX
 rw[strOf_app ([91]++_)]
 rfl
theorem power_okR (fu:Nat) (t:STree):F.adjointref3_Power fu t=some (pw t:Int):=by
 obtain⟨k,n,x,sh,sp,ls,ks⟩:=t
 unfold F.adjointref3_Power pw mul
 simp only[int_eqd k,int_ned k]
 by_cases h5:k=5
 ·subst h5;simp
 by_cases h6:k=6
 ·subst h6;simp
 by_cases h4:k=4
 ·subst h4
  cases n.toList==(ByteArray.mk #[42]).toList <;> simp
 ·simp[h4,h5,h6]
theorem weak_okR {fu:Nat}{t x:STree}{j:Nat}(hx:t.Kids[j]?=some x) (hj:j≤1099511627776):F.adjointref3_weak fu t j=some (weakB t x j):=by
 have h1:=pw_le t
 have h2:=pw_le x
 unfold F.adjointref3_weak weakB
 simp only[idx_nat hx,Option.bind_some,power_okR,eta_t]
 rw[i64 (by omega) (by omega)]
 congr 1
 rw[decide_eq_decide]
 omega
end Go.DN
