/-
  Text, printing: the plain law: the reference's Text.
-/
import Derived.Test.YtmhbeopldeccmaaDoorVrC
set_option linter.unusedVariables false
set_option linter.unusedSimpArgs false
namespace Go.DN
open Go.AM
theorem Rv (a:Array UInt8):(ByteArray.mk a).size=a.size:=rfl
theorem GO {k:Nat}{S c:ByteArray}{l:List Int}(hc:strOf l=c) (h:S.size+c.size≤140737488355328):
  (cond (decide ((k:Int)>0)) ((cj (((S.size+c.size:Nat):Int)≤9223372036854775807)).bind fun _=>some (S++c)) (some S):Option ByteArray)=some (S++strOf (if 0<k then l else[])):=by
 by_cases h0:0<k
 ·rw[decide_eq_true (by omega),if_pos h0,cond_true,cE h,bq,hc]
 ·rw[decide_eq_false (by omega),if_neg h0,cond_false]
  congr 1
  apply iz;simp[strOf]
theorem QO {w:Bool}{l:List Int}(h:l.length≤140737488355300):
  (cond w ((cj ((((ByteArray.mk #[40]).size+(strOf l).size:Nat):Int)≤9223372036854775807)).bind fun _=>
     (cj (((((ByteArray.mk #[40])++strOf l).size+(ByteArray.mk #[41]).size:Nat):Int)≤9223372036854775807)).bind fun _=>
     some (((ByteArray.mk #[40])++strOf l)++(ByteArray.mk #[41]))) (some (strOf l)):Option ByteArray)=some (strOf (bw w l)):=by
 cases w with
 | false=>rfl
 | true=>
  rw[cond_true,cE (by simp only[Rv,bK,lg,bl,bQ];omega),bq,cE (by simp only[cn,Rv,bK,lg,bl,bQ];omega),bq]
  unfold bw
  rw[cond_true,bz,bz]
  rfl
theorem MW {self:ai→Option ByteArray}{fu:Nat}{x:List Int}{s:ByteArray}(hf:bu cU x+40<fu) (hw:bu cU x≤Bd) (ho:∀n∈x,ss n) (hn:nP x=true) (h:s.size+40*bu cU x≤140737488355328):
  aW (F.jv self fu x) fu (s,0)=some (s++strOf (sep [32] (x.map dg))):=by
 have hlen:x.length≤(x.map cU).sum:=dI (w:=cU) (fun _=>ar _) x
 have hW:bu cU x=(x.map cU).sum+1:=rfl
 have hwi:∀n∈x,(dg n).length+[32].length≤40*cU n:=fun n hn=>by have:=mO (ho n hn);simp only[dl,cU];omega
 obtain⟨r,h1,h2⟩:=dh (body:=F.jv self fu x) x (fun k z=>z=(s++strOf (sep [32] ((x.take k).map dg)),(k:Int))) (fun r=>r=s++strOf (sep [32] (x.map dg))) (by
  rintro k y z hx rfl
  have hk:=dR hx
  have hsum:=jz (w:=cU) hx
  have hle:=lk (f:=dg) (w:=cU) (c:=[32]) (K:=40) (l:=x) k hwi
  have hy0:0≤y:=of_decide_eq_true (cu.1 hn y (mem_of hx))
  have hy:=ho y (mem_of hx)
  have hS:(s++strOf (sep [32] ((x.take k).map dg))).size≤s.size+40*((x.take k).map cU).sum:=by rw[cn,bK];omega
  have hnx:s++strOf (sep [32] ((x.take (k+1)).map dg))=((s++strOf (sep [32] ((x.take k).map dg)))++strOf (if 0<k then[32] else[]))++ph y:=by
   rw[mi dg [32] hx,bz,bz,vK];simp only[iD]
  have hsz:(ph y).size≤20:=by have hl:=mO hy;unfold dg at hl;rw[bI] at hl;exact hl
  simp only[cU] at hsum
  rw[hnx]
  generalize s++strOf (sep [32] ((x.take k).map dg))=S at hS⊢
  have ha:=GO (k:=k) (S:=S) (c:=ByteArray.mk #[32]) (l:=[32]) rfl (by show _+1≤_;omega)
  have hS2:(S++strOf (if 0<k then[32] else[])).size≤S.size+1:=by rw[cn,bK];split <;> simp
  generalize S++strOf (if 0<k then[32] else[])=T at ha hS2⊢
  left
  refine⟨_,?_,rfl⟩
  simp only[F.jv,dec_lt hx,cond_true,cc hx,aa]
  rw[ha,bq,yO hy hy0 (by omega),bq,cE (by omega),bq,mH hk (by omega)])
  (by
   rintro z rfl
   rw[gB]
   exact⟨_,by simp only[F.jv,dj,cond_false],rfl⟩) x.length 0 fu (s,((0:Nat):Int)) rfl (cI _) (by omega) (by
   simp only[kH,dE,sep]
   congr 1
   apply iz;simp[strOf])
 subst h2
 exact h1
theorem KW {self:ai→Option ByteArray}{fu:Nat}{t:ai}{s:ByteArray}(hf:bu (bu cU) t.aE+40<fu) (hw:bu (bu cU) t.aE≤Bd) (ho:∀x∈t.aE,∀n∈x,ss n) (hn:t.aE.all nP=true) (h:s.size+40*bu (bu cU) t.aE≤140737488355328):
  aW (F.k5 self fu t) fu (s,0)=some (s++strOf ((t.aE.map eK).flatten)):=by
 have hlen:t.aE.length≤(t.aE.map (bu cU)).sum:=dI (w:=bu cU) (fun x=>by simp only[bu];omega) t.aE
 have hW:bu (bu cU) t.aE=(t.aE.map (bu cU)).sum+1:=rfl
 obtain⟨r,h1,h2⟩:=dh (body:=F.k5 self fu t) t.aE (fun k z=>z=(s++strOf (((t.aE.take k).map eK).flatten),(k:Int))) (fun r=>r=s++strOf ((t.aE.map eK).flatten)) (by
  rintro k y z hx rfl
  have hk:=dR hx
  have hsum:=jz (w:=bu cU) hx
  have hle:=pO (f:=eK) (w:=bu cU) (K:=40) (l:=t.aE.take k) fun l hl=>by
   have:=ri (ho l (lh hl));omega
  have hy:=ho y (mem_of hx)
  have hyn:=cu.1 hn y (mem_of hx)
  have hm:=pE (w:=bu cU) (mem_of hx)
  have hsep:=lj (f:=dg) (w:=cU) (c:=[32]) (K:=40) (l:=y) fun n hn=>by have:=mO (hy n hn);simp only[dl,cU];omega
  have hyW:bu cU y=(y.map cU).sum+1:=rfl
  have hS:(s++strOf (((t.aE.take k).map eK).flatten)).size≤s.size+40*((t.aE.take k).map (bu cU)).sum:=by rw[cn,bK];omega
  have hnx:s++strOf (((t.aE.take (k+1)).map eK).flatten)=(((s++strOf (((t.aE.take k).map eK).flatten))++ByteArray.mk #[123])++strOf (sep [32] (y.map dg)))++ByteArray.mk #[125]:=by
   rw[uG eK hx,bz]
   unfold eK
   rw[bz ([123]++_),bz [123]]
   simp only[iD]
   rfl
  rw[hnx]
  generalize s++strOf (((t.aE.take k).map eK).flatten)=S at hS⊢
  have h123:(S++ByteArray.mk #[123]).size=S.size+1:=by rw[cn];rfl
  have hl:=MW (self:=self) (fu:=fu) (x:=y) (s:=S++ByteArray.mk #[123]) (by omega) (by omega) hy hyn (by omega)
  left
  refine⟨_,?_,rfl⟩
  show cond (decide ((k:Int)<(t.aE.length:Int))) _ _=_
  rw[dec_lt hx,cond_true,cc hx,bq,jQ (by omega),bq,hl,bq,jQ (by rw[cn,bK];omega),bq,mH hk (by omega)])
  (by
   rintro z rfl
   rw[gB]
   exact⟨_,by simp only[F.k5,dj,cond_false],rfl⟩) t.aE.length 0 fu (s,((0:Nat):Int)) rfl (cI _) (by omega) (by
   simp only[kH,dE,List.flatten_nil]
   congr 1
   apply iz;simp[strOf])
 subst h2
 exact h1
theorem M3 {self:ai→Option ByteArray}{fu:Nat}{t:ai}{s:ByteArray}(hf:(t.Kids.map bD).sum+1<fu) (hw:(t.Kids.map bD).sum≤Bd) (ho:∀x∈t.Kids,oP x) (hk:∀x∈t.Kids,self x=some (strOf (tx x))) (h:s.size+40*(t.Kids.map bD).sum+2≤140737488355328):
  aW (F.ju self fu t) fu (s,0)=some (s++strOf (sep [44,32] (t.Kids.map tx))):=by
 have hlen:t.Kids.length≤(t.Kids.map bD).sum:=dI (w:=bD) (fun x=>by have:=dS x;omega) t.Kids
 have hwi:∀n∈t.Kids,(tx n).length+[44,32].length≤40*bD n:=fun n hn=>by have:=kl (ho n hn);simp only[bl,bQ];omega
 obtain⟨r,h1,h2⟩:=dh (body:=F.ju self fu t) t.Kids (fun k z=>z=(s++strOf (sep [44,32] ((t.Kids.take k).map tx)),(k:Int))) (fun r=>r=s++strOf (sep [44,32] (t.Kids.map tx))) (by
  rintro k y z hx rfl
  have hkk:=dR hx
  have hsum:=jz (w:=bD) hx
  have hle:=lk (f:=tx) (w:=bD) (c:=[44,32]) (K:=40) (l:=t.Kids) k hwi
  have hy:=kl (ho y (mem_of hx))
  have hS:(s++strOf (sep [44,32] ((t.Kids.take k).map tx))).size≤s.size+40*((t.Kids.take k).map bD).sum:=by rw[cn,bK];omega
  have hnx:s++strOf (sep [44,32] ((t.Kids.take (k+1)).map tx))=((s++strOf (sep [44,32] ((t.Kids.take k).map tx)))++strOf (if 0<k then[44,32] else[]))++strOf (tx y):=by
   rw[mi tx [44,32] hx,bz,bz];simp only[iD]
  rw[hnx]
  generalize s++strOf (sep [44,32] ((t.Kids.take k).map tx))=S at hS⊢
  have ha:=GO (k:=k) (S:=S) (c:=ByteArray.mk #[44,32]) (l:=[44,32]) rfl (by show _+2≤_;omega)
  have hS2:(S++strOf (if 0<k then[44,32] else[])).size≤S.size+2:=by rw[cn,bK];split <;> simp
  generalize S++strOf (if 0<k then[44,32] else[])=T at ha hS2⊢
  left
  refine⟨_,?_,rfl⟩
  simp only[F.ju,dec_lt hx,cond_true,cc hx,bq,gT]
  rw[ha,bq,hk y (mem_of hx),bq,cE (by rw[bK];omega),bq,mH hkk (by omega)])
  (by
   rintro z rfl
   rw[gB]
   exact⟨_,by simp only[F.ju,dj,cond_false],rfl⟩) t.Kids.length 0 fu (s,((0:Nat):Int)) rfl (cI _) (by omega) (by
   simp only[kH,dE,sep]
   congr 1
   apply iz;simp[strOf])
 subst h2
 exact h1
end Go.DN
