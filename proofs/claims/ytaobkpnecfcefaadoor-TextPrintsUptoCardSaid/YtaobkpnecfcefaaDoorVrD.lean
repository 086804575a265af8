/-
  Text, printing: the plain law: the reference's Text.
-/
import Derived.Test.YtaobkpnecfcefaaDoorVrC
set_option linter.unusedVariables false
set_option linter.unusedSimpArgs false
namespace Go.DN
open Go.AM
theorem szM (a:Array UInt8):(ByteArray.mk a).size=a.size:=rfl
theorem aheadR {k:Nat}{S c:ByteArray}{l:List Int}(hc:strOf l=c) (h:S.size+c.size≤140737488355328):
  (cond (decide ((k:Int)>0)) ((chk (((S.size+c.size:Nat):Int)≤9223372036854775807)).bind fun _=>some (S++c)) (some S):Option ByteArray)=some (S++strOf (if 0<k then l else[])):=by
 by_cases h0:0<k
 ·rw[decide_eq_true (by omega),if_pos h0,cond_true,app_chkS h,bindS,hc]
 ·rw[decide_eq_false (by omega),if_neg h0,cond_false]
  congr 1
  apply ByteArray.ext;simp[strOf]
theorem brkR {w:Bool}{l:List Int}(h:l.length≤140737488355300):
  (cond w ((chk ((((ByteArray.mk #[40]).size+(strOf l).size:Nat):Int)≤9223372036854775807)).bind fun _=>
     (chk (((((ByteArray.mk #[40])++strOf l).size+(ByteArray.mk #[41]).size:Nat):Int)≤9223372036854775807)).bind fun _=>
     some (((ByteArray.mk #[40])++strOf l)++(ByteArray.mk #[41]))) (some (strOf l)):Option ByteArray)=some (strOf (brk w l)):=by
 cases w with
 | false=>rfl
 | true=>
  rw[cond_true,app_chkS (by simp only[szM,strOf_size,List.size_toArray,List.length_cons,List.length_nil];omega),bindS,app_chkS (by simp only[ByteArray.size_append,szM,strOf_size,List.size_toArray,List.length_cons,List.length_nil];omega),bindS]
  unfold brk
  rw[cond_true,strOf_app,strOf_app]
  rfl
theorem listR_ok {self:STree→Option ByteArray}{fu:Nat}{x:List Int}{s:ByteArray}(hf:wtL wtI x+40<fu) (hw:wtL wtI x≤Bd) (ho:∀n∈x,okI n) (hn:nlB x=true) (h:s.size+40*wtL wtI x≤140737488355328):
  loopF (F.adjointref3_Text_l2 self fu x) fu (s,0)=some (s++strOf (sep [32] (x.map dg))):=by
 have hlen:x.length≤(x.map wtI).sum:=sum_len (w:=wtI) (fun _=>Nat.le_refl _) x
 have hW:wtL wtI x=(x.map wtI).sum+1:=rfl
 have hwi:∀n∈x,(dg n).length+[32].length≤40*wtI n:=fun n hn=>by have:=dg_len (ho n hn);simp only[List.length_singleton,wtI];omega
 obtain⟨r,h1,h2⟩:=loop_idx (body:=F.adjointref3_Text_l2 self fu x) x (fun k z=>z=(s++strOf (sep [32] ((x.take k).map dg)),(k:Int))) (fun r=>r=s++strOf (sep [32] (x.map dg))) (by
  rintro k y z hx rfl
  have hk:=get_lt hx
  have hsum:=sum_take (w:=wtI) hx
  have hle:=sepTake_le (f:=dg) (w:=wtI) (c:=[32]) (K:=40) (l:=x) k hwi
  have hy0:0≤y:=of_decide_eq_true (List.all_eq_true.1 hn y (mem_of hx))
  have hy:=ho y (mem_of hx)
  have hS:(s++strOf (sep [32] ((x.take k).map dg))).size≤s.size+40*((x.take k).map wtI).sum:=by rw[ByteArray.size_append,strOf_size];omega
  have hnx:s++strOf (sep [32] ((x.take (k+1)).map dg))=((s++strOf (sep [32] ((x.take k).map dg)))++strOf (if 0<k then[32] else[]))++strI y:=by
   rw[sep_take dg [32] hx,strOf_app,strOf_app,strOf_dg];simp only[ByteArray.append_assoc]
  have hsz:(strI y).size≤20:=by have hl:=dg_len hy;unfold dg at hl;rw[bytesI_length] at hl;exact hl
  simp only[wtI] at hsum
  rw[hnx]
  generalize s++strOf (sep [32] ((x.take k).map dg))=S at hS⊢
  have ha:=aheadR (k:=k) (S:=S) (c:=ByteArray.mk #[32]) (l:=[32]) rfl (by show _+1≤_;omega)
  have hS2:(S++strOf (if 0<k then[32] else[])).size≤S.size+1:=by rw[ByteArray.size_append,strOf_size];split <;> simp
  generalize S++strOf (if 0<k then[32] else[])=T at ha hS2⊢
  left
  refine⟨_,?_,rfl⟩
  simp only[F.adjointref3_Text_l2,dec_lt hx,cond_true,idx_nat hx,Option.bind_some]
  rw[ha,bindS,digitsR hy hy0 (by omega),bindS,app_chkS (by omega),bindS,wrB hk (by omega)])
  (by
   rintro z rfl
   rw[take_all]
   exact⟨_,by simp only[F.adjointref3_Text_l2,dec_end,cond_false],rfl⟩) x.length 0 fu (s,((0:Nat):Int)) rfl (Nat.zero_le _) (by omega) (by
   simp only[List.take_zero,List.map_nil,sep]
   congr 1
   apply ByteArray.ext;simp[strOf])
 subst h2
 exact h1
theorem listsR_ok {self:STree→Option ByteArray}{fu:Nat}{t:STree}{s:ByteArray}(hf:wtL (wtL wtI) t.Lists+40<fu) (hw:wtL (wtL wtI) t.Lists≤Bd) (ho:∀x∈t.Lists,∀n∈x,okI n) (hn:t.Lists.all nlB=true) (h:s.size+40*wtL (wtL wtI) t.Lists≤140737488355328):
  loopF (F.adjointref3_Text_l3 self fu t) fu (s,0)=some (s++strOf ((t.Lists.map listX).flatten)):=by
 have hlen:t.Lists.length≤(t.Lists.map (wtL wtI)).sum:=sum_len (w:=wtL wtI) (fun x=>by simp only[wtL];omega) t.Lists
 have hW:wtL (wtL wtI) t.Lists=(t.Lists.map (wtL wtI)).sum+1:=rfl
 obtain⟨r,h1,h2⟩:=loop_idx (body:=F.adjointref3_Text_l3 self fu t) t.Lists (fun k z=>z=(s++strOf (((t.Lists.take k).map listX).flatten),(k:Int))) (fun r=>r=s++strOf ((t.Lists.map listX).flatten)) (by
  rintro k y z hx rfl
  have hk:=get_lt hx
  have hsum:=sum_take (w:=wtL wtI) hx
  have hle:=flat_le (f:=listX) (w:=wtL wtI) (K:=40) (l:=t.Lists.take k) fun l hl=>by
   have:=listX_le (ho l (List.mem_of_mem_take hl));omega
  have hy:=ho y (mem_of hx)
  have hyn:=List.all_eq_true.1 hn y (mem_of hx)
  have hm:=sum_mem (w:=wtL wtI) (mem_of hx)
  have hsep:=sep_le (f:=dg) (w:=wtI) (c:=[32]) (K:=40) (l:=y) fun n hn=>by have:=dg_len (hy n hn);simp only[List.length_singleton,wtI];omega
  have hyW:wtL wtI y=(y.map wtI).sum+1:=rfl
  have hS:(s++strOf (((t.Lists.take k).map listX).flatten)).size≤s.size+40*((t.Lists.take k).map (wtL wtI)).sum:=by rw[ByteArray.size_append,strOf_size];omega
  have hnx:s++strOf (((t.Lists.take (k+1)).map listX).flatten)=(((s++strOf (((t.Lists.take k).map listX).flatten))++ByteArray.mk #[123])++strOf (sep [32] (y.map dg)))++ByteArray.mk #[125]:=by
   rw[flat_take listX hx,strOf_app]
   unfold listX
   rw[strOf_app ([123]++_),strOf_app [123]]
   simp only[ByteArray.append_assoc]
   rfl
  rw[hnx]
  generalize s++strOf (((t.Lists.take k).map listX).flatten)=S at hS⊢
  have h123:(S++ByteArray.mk #[123]).size=S.size+1:=by rw[ByteArray.size_append];rfl
  have hl:=listR_ok (self:=self) (fu:=fu) (x:=y) (s:=S++ByteArray.mk #[123]) (by omega) (by omega) hy hyn (by omega)
  left
  refine⟨_,?_,rfl⟩
  show cond (decide ((k:Int)<(t.Lists.length:Int))) _ _=_
  rw[dec_lt hx,cond_true,idx_nat hx,bindS,app_chkS1 (by omega),bindS,hl,bindS,app_chkS1 (by rw[ByteArray.size_append,strOf_size];omega),bindS,wrB hk (by omega)])
  (by
   rintro z rfl
   rw[take_all]
   exact⟨_,by simp only[F.adjointref3_Text_l3,dec_end,cond_false],rfl⟩) t.Lists.length 0 fu (s,((0:Nat):Int)) rfl (Nat.zero_le _) (by omega) (by
   simp only[List.take_zero,List.map_nil,List.flatten_nil]
   congr 1
   apply ByteArray.ext;simp[strOf])
 subst h2
 exact h1
theorem kidsR_ok {self:STree→Option ByteArray}{fu:Nat}{t:STree}{s:ByteArray}(hf:(t.Kids.map wtT).sum+1<fu) (hw:(t.Kids.map wtT).sum≤Bd) (ho:∀x∈t.Kids,okT x) (hk:∀x∈t.Kids,self x=some (strOf (tx x))) (h:s.size+40*(t.Kids.map wtT).sum+2≤140737488355328):
  loopF (F.adjointref3_Text_l4 self fu t) fu (s,0)=some (s++strOf (sep [44,32] (t.Kids.map tx))):=by
 have hlen:t.Kids.length≤(t.Kids.map wtT).sum:=sum_len (w:=wtT) (fun x=>by have:=wtT_pos x;omega) t.Kids
 have hwi:∀n∈t.Kids,(tx n).length+[44,32].length≤40*wtT n:=fun n hn=>by have:=tx_le (ho n hn);simp only[List.length_cons,List.length_nil];omega
 obtain⟨r,h1,h2⟩:=loop_idx (body:=F.adjointref3_Text_l4 self fu t) t.Kids (fun k z=>z=(s++strOf (sep [44,32] ((t.Kids.take k).map tx)),(k:Int))) (fun r=>r=s++strOf (sep [44,32] (t.Kids.map tx))) (by
  rintro k y z hx rfl
  have hkk:=get_lt hx
  have hsum:=sum_take (w:=wtT) hx
  have hle:=sepTake_le (f:=tx) (w:=wtT) (c:=[44,32]) (K:=40) (l:=t.Kids) k hwi
  have hy:=tx_le (ho y (mem_of hx))
  have hS:(s++strOf (sep [44,32] ((t.Kids.take k).map tx))).size≤s.size+40*((t.Kids.take k).map wtT).sum:=by rw[ByteArray.size_append,strOf_size];omega
  have hnx:s++strOf (sep [44,32] ((t.Kids.take (k+1)).map tx))=((s++strOf (sep [44,32] ((t.Kids.take k).map tx)))++strOf (if 0<k then[44,32] else[]))++strOf (tx y):=by
   rw[sep_take tx [44,32] hx,strOf_app,strOf_app];simp only[ByteArray.append_assoc]
  rw[hnx]
  generalize s++strOf (sep [44,32] ((t.Kids.take k).map tx))=S at hS⊢
  have ha:=aheadR (k:=k) (S:=S) (c:=ByteArray.mk #[44,32]) (l:=[44,32]) rfl (by show _+2≤_;omega)
  have hS2:(S++strOf (if 0<k then[44,32] else[])).size≤S.size+2:=by rw[ByteArray.size_append,strOf_size];split <;> simp
  generalize S++strOf (if 0<k then[44,32] else[])=T at ha hS2⊢
  left
  refine⟨_,?_,rfl⟩
  simp only[F.adjointref3_Text_l4,dec_lt hx,cond_true,idx_nat hx,bindS,eta_t]
  rw[ha,bindS,hk y (mem_of hx),bindS,app_chkS (by rw[strOf_size];omega),bindS,wrB hkk (by omega)])
  (by
   rintro z rfl
   rw[take_all]
   exact⟨_,by simp only[F.adjointref3_Text_l4,dec_end,cond_false],rfl⟩) t.Kids.length 0 fu (s,((0:Nat):Int)) rfl (Nat.zero_le _) (by omega) (by
   simp only[List.take_zero,List.map_nil,sep]
   congr 1
   apply ByteArray.ext;simp[strOf])
 subst h2
 exact h1
end Go.DN
