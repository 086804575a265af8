/-
  Text, printing: the plain law: how long the text is; small facts.
-/
import Derived.Test.YtaobkpnecfcefaaDoorVpA
set_option linter.unusedVariables false
set_option linter.unusedSimpArgs false
namespace Go.DN
open Go.AM
def okD (d:SDim):Prop:=okI d.Size
def okTB (t:STree) (ps:List Prop):Prop:=(okI t.Number∧(∀d∈t.Shape,okD d)∧∀l∈t.Lists,∀n∈l,okI n)∧∀p∈ps,p
def okT (t:STree):Prop:=fold okTB t
theorem okT_eq (t:STree):okT t↔(okI t.Number∧(∀d∈t.Shape,okD d)∧∀l∈t.Lists,∀n∈l,okI n)∧∀k∈t.Kids,okT k:=by
 unfold okT
 rw[fold_eq]
 unfold okTB
 refine and_congr_right fun _=>⟨fun h k hk=>h _ (List.mem_map_of_mem hk),fun h p hp=>?_⟩
 obtain⟨k,hk,rfl⟩:=List.mem_map.1 hp
 exact h k hk
def okG (g:SGiven):Prop:=∀d∈g.Dims,okD d
def okF (f:SFunc):Prop:=(∀g∈f.Given,okG g)∧okT f.Body
theorem nDigits_le:∀(k u:Nat),u<10^(k+1)→Lib.nDigits u≤k+1
 | 0,u,h=>by rw[Lib.nDigits_small (by simpa using h)];omega
 | k+1,u,h=>by
  by_cases hu:u<10
  ·rw[Lib.nDigits_small hu];omega
  ·rw[Lib.nDigits_big hu]
   have:=nDigits_le k (u/10) (by rw[Nat.pow_succ] at h;omega)
   omega
theorem dg_len {n:Int}(h:okI n):(dg n).length≤20:=by
 have h1:(dg n).length=(Lib.itoa n).length:=by unfold dg;rw[bytesI_length];rfl
 rw[h1]
 obtain⟨h2,h3⟩:=h
 unfold Lib.itoa
 split
 ·rw[List.length_cons,Lib.decDigits_length]
  have:=nDigits_le 18 n.natAbs (by omega)
  omega
 ·rw[Lib.decDigits_length]
  have:=nDigits_le 18 n.toNat (by omega)
  omega
theorem sep_le {α:Type}{f:α→List Int}{w:α→Nat}{c:List Int}{K:Nat}:∀{l:List α},(∀x∈l,(f x).length+c.length≤K*w x)→(sep c (l.map f)).length≤K*(l.map w).sum
 | [],_=>Nat.zero_le _
 | [x],h=>by
  have:=h x List.mem_cons_self
  simp only[List.map_cons,List.map_nil,sep,List.sum_cons,List.sum_nil,Nat.add_zero]
  omega
 | x::y::r,h=>by
  have h1:=h x List.mem_cons_self
  have h2:=sep_le (f:=f) (w:=w) (c:=c) (K:=K) (l:=y::r) fun z hz=>h z (List.mem_cons_of_mem _ hz)
  simp only[List.map_cons,sep,List.sum_cons,List.length_append] at h2⊢
  rw[Nat.mul_add]
  omega
theorem flat_le {α:Type}{f:α→List Int}{w:α→Nat}{K:Nat}:∀{l:List α},(∀x∈l,(f x).length≤K*w x)→((l.map f).flatten).length≤K*(l.map w).sum
 | [],_=>Nat.zero_le _
 | x::r,h=>by
  have h1:=h x List.mem_cons_self
  have h2:=flat_le (f:=f) (w:=w) (K:=K) (l:=r) fun z hz=>h z (List.mem_cons_of_mem _ hz)
  simp only[List.map_cons,List.flatten_cons,List.length_append,List.sum_cons]
  rw[Nat.mul_add]
  omega
theorem sep_take {α:Type}(f:α→List Int) (c:List Int):∀{l:List α}{k:Nat}{x:α},l[k]?=some x→sep c ((l.take (k+1)).map f)=sep c ((l.take k).map f)++(if 0<k then c else[])++f x
 | [],k,x,h=>by simp at h
 | y::r,0,x,h=>by cases h;simp[sep]
 | [y],k+1,x,h=>by simp at h
 | y::z::r,k+1,x,h=>by
  have h':(z::r)[k]?=some x:=by simpa using h
  have ih:=sep_take f c h'
  cases k with
  | zero=>cases h';simp[sep]
  | succ k=>
   simp only[List.take_succ_cons,List.map_cons,sep] at ih⊢
   rw[ih]
   simp[List.append_assoc]
theorem flat_take {α:Type}(f:α→List Int){l:List α}{k:Nat}{x:α}(h:l[k]?=some x):((l.take (k+1)).map f).flatten=((l.take k).map f).flatten++f x:=by
 rw[List.take_add_one,h]
 simp
theorem take_all {α:Type}(l:List α):l.take l.length=l:=List.take_length
theorem dimX_le {d:SDim}(h:okD d):(dimX d).length+1≤40*wtD d:=by
 unfold dimX
 split
 ·have:=dg_len h;simp only[wtD,wtS];omega
 ·rw[bytesI_length];simp only[wtD,wtS];omega
theorem shapeX_le {l:List SDim}(h:∀d∈l,okD d):(shapeX l).length+38≤40*wtL wtD l:=by
 have:=sep_le (f:=dimX) (w:=wtD) (c:=[32]) (K:=40) (l:=l) fun d hd=>dimX_le (h d hd)
 simp only[shapeX,List.length_append,List.length_singleton,wtL,Nat.mul_add]
 omega
theorem listX_le {l:List Int}(h:∀n∈l,okI n):(listX l).length+38≤40*wtL wtI l:=by
 have:=sep_le (f:=dg) (w:=wtI) (c:=[32]) (K:=40) (l:=l) fun n hn=>by have:=dg_len (h n hn);simp only[List.length_singleton,wtI];omega
 simp only[listX,List.length_append,List.length_singleton,wtL,Nat.mul_add]
 omega
theorem brk_len (b:Bool) (x:List Int):(brk b x).length≤x.length+2:=by
 unfold brk
 cases b
 ·simp
 ·simp only[cond_true,List.length_append,List.length_singleton];omega
theorem two_le {l:List STree}(h:∀x∈l,(tx x).length+10≤40*wtT x):((l.map tx).getD 0 []).length+((l.map tx).getD 1 []).length≤40*(l.map wtT).sum:=by
 match l,h with
 | [],_=>simp
 | [x],h=>
  have:=h x List.mem_cons_self
  simp;omega
 | x::y::r,h=>
  have h1:=h x List.mem_cons_self
  have h2:=h y (List.mem_cons_of_mem _ List.mem_cons_self)
  simp[Nat.mul_add]
  omega
theorem tx_len:∀(n:Nat) (t:STree),wtT t≤n→okT t→(tx t).length+10≤40*wtT t
 | 0,t,h,_=>by have:=wtT_pos t;omega
 | n+1,t,h,ho=>by
  obtain⟨⟨o1,o2,o3⟩,o4⟩:=(okT_eq t).1 ho
  have hk:∀x∈t.Kids,(tx x).length+10≤40*wtT x:=fun x hx=>tx_len n x (by have:=wtT_kid hx;omega) (o4 x hx)
  have h2:=two_le hk
  have h3:=sep_le (f:=tx) (w:=wtT) (c:=[44,32]) (K:=40) (l:=t.Kids) fun x hx=>by have:=hk x hx;simp only[List.length_cons,List.length_nil];omega
  have h4:=shapeX_le o2
  have h5:=flat_le (f:=listX) (w:=wtL wtI) (K:=40) (l:=t.Lists) fun l hl=>by have:=listX_le (o3 l hl);omega
  have h6:=dg_len o1
  have b0:=brk_len (weakB t (k0 t) 0) ((t.Kids.map tx).getD 0 [])
  have b1:=brk_len (weakB t (k1 t) 1) ((t.Kids.map tx).getD 1 [])
  rw[tx_eq,wtT_eq]
  simp only[wtTB,wtS,Nat.mul_add]
  have e:40*wtL (wtL wtI) t.Lists=40*(t.Lists.map (wtL wtI)).sum+40:=by simp only[wtL,Nat.mul_add]
  unfold txB
  split
  ·omega
  ·split
   ·rw[bytesI_length];omega
   ·split
    ·simp only[List.length_append,List.length_singleton,bytesI_length];omega
    ·split
     ·simp only[List.length_append,List.length_cons,List.length_nil,bytesI_length];omega
     ·split
      ·simp only[List.length_append,List.length_cons,List.length_nil,bytesI_length];omega
      ·have:(bif t.Shaped then shapeX t.Shape else([]:List Int)).length≤(shapeX t.Shape).length:=by cases t.Shaped <;> simp
       simp only[List.length_append,List.length_cons,List.length_nil,bytesI_length]
       simp only[wtL] at h4 e⊢
       omega
theorem tx_le {t:STree}(h:okT t):(tx t).length+10≤40*wtT t:=tx_len _ t (Nat.le_refl _) h
end Go.DN
