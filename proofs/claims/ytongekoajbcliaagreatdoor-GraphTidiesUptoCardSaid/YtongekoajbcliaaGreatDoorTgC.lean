/-
  strings.Builder within a struct: String, by hand.
-/
import Derived.Test.YtongekoajbcliaaGreatDoorTgA
set_option maxRecDepth 100000
set_option maxHeartbeats 2000000
set_option linter.unusedVariables false
set_option linter.unusedSimpArgs false
namespace Go.DN
open Go.AM Go.Proofs
theorem ql (W:World) (q:Option Addr):(Builtin.unsafeString_ #[219,3] 9 #[.pointer q,.int .i64 0]).run Tryz.prog W=.ok (.string .empty) W:=
 Lib.run_unsafeString_none W _ _ _ q
theorem Pz (b:Nat) (w:World) (c0:w.cell? ⟨b,1,none⟩=some (.slice none 0 0)):
  Calls Tryz.prog 93 #[.pointer (some ⟨b,0,none⟩)] w fun e w'=>e=.returned (.string .empty)∧w'=w.drew:=by
 have c1:w.drew.cell? ⟨b,1,none⟩=some (.slice none 0 0):=c0
 have hSD:(Builtin.unsafeSliceData_ #[149] 219 #[.slice none 0 0]).run Tryz.prog w.drew=.ok (.pointer none) w.drew:=rfl
 have hUS:=ql w.drew
 have mixed:Tryz.prog.follows .mixedOrders=true:=by kernel_rfl
 go_enter Tryz.func93,Tryz.ntmps93
 go_wp2
 go_region
 all_goals (go_wp2;go_ret;exact⟨rfl,rfl⟩)
theorem J6 (b g:Nat) (cur:Array Value) (fz:Nat×Nat) (w:World) (c0:w.cell? ⟨b,1,none⟩=some (.slice (some ⟨g,0,none⟩) 0 0)) (hlt:b<w.heap.size) (hg:w.heap[g]?=some (.cells cur 5 fz)):
  Calls Tryz.prog 93 #[.pointer (some ⟨b,0,none⟩)] w fun e w'=>e=.returned (.string .empty)∧(w'=w.drew.alloc (.view ⟨g,0,none⟩ 5)∨w'=(w.alloc (.view ⟨g,0,none⟩ 5)).drew):=by
 have c1:w.drew.cell? ⟨b,1,none⟩=some (.slice (some ⟨g,0,none⟩) 0 0):=c0
 have hSD:(Builtin.unsafeSliceData_ #[149] 219 #[.slice (some ⟨g,0,none⟩) 0 0]).run Tryz.prog w.drew=.ok (.pointer (some ⟨w.drew.heap.size,0,none⟩)) (w.drew.alloc (.view ⟨g,0,none⟩ 5)):=
  Lib.run_unsafeSliceData_zero w.drew _ _ 5 Tryz.underlying219 ⟨g,0,none⟩ 0 (5,cur.size) (by have hg':w.drew.heap[g]?=some (.cells cur 5 fz):=hg;simp[World.shape?,hg'])
 have c2:(w.drew.alloc (.view ⟨g,0,none⟩ 5)).cell? ⟨b,1,none⟩=some (.slice (some ⟨g,0,none⟩) 0 0):=by
  have h:(w.drew.alloc (.view ⟨g,0,none⟩ 5)).heap[b]?=w.heap[b]?:=Lib.alloc_old w.drew _ b hlt
  rw[World.cell?_of_block (w:=w) h];exact c0
 have c3:(w.alloc (.view ⟨g,0,none⟩ 5)).drew.cell? ⟨b,1,none⟩=some (.slice (some ⟨g,0,none⟩) 0 0):=c2
 have hUS:=fun W=>ql W
 have mixed:Tryz.prog.follows .mixedOrders=true:=by kernel_rfl
 go_enter Tryz.func93,Tryz.ntmps93
 go_wp2
 go_region
 all_goals (go_wp2;go_ret;first | exact⟨rfl,.inl rfl⟩ | exact⟨rfl,.inr rfl⟩)
theorem NH (b g cap:Nat) (w:World) (hc0:cap≠0) (c0:w.cell? ⟨b,1,none⟩=some (.slice (some ⟨g,0,none⟩) 0 cap)):
  Calls Tryz.prog 93 #[.pointer (some ⟨b,0,none⟩)] w fun e w'=>e=.returned (.string .empty)∧w'=w.drew:=by
 have c1:w.drew.cell? ⟨b,1,none⟩=some (.slice (some ⟨g,0,none⟩) 0 cap):=c0
 have hSD:(Builtin.unsafeSliceData_ #[149] 219 #[.slice (some ⟨g,0,none⟩) 0 cap]).run Tryz.prog w.drew=.ok (.pointer (some ⟨g,0,none⟩)) w.drew:=Lib.run_unsafeSliceData_row _ _ _ _ _ _ hc0
 have hUS:=fun W=>ql W
 have mixed:Tryz.prog.follows .mixedOrders=true:=by kernel_rfl
 clear hc0
 go_enter Tryz.func93,Tryz.ntmps93
 go_wp2
 go_region
 all_goals (go_wp2;go_ret;exact⟨rfl,rfl⟩)
theorem NG (b g cap:Nat) (cur:Array Value) (l:List UInt8) (w:World) (h0:l≠[]) (c0:w.cell? ⟨b,1,none⟩=some (.slice (some ⟨g,0,none⟩) l.length cap)) (hg:w.heap[g]?=some (.cells cur 5 (0,0))) (hn:l.length≤cur.size) (hcap:l.length≤cap) (h63:l.length≤9223372036854775807)
  (hc:∀(j:Nat) (x:UInt8),l[j]?=some x→cur[j]?=some (Value.int IntKind.u8 x.toNat)):
  Calls Tryz.prog 93 #[.pointer (some ⟨b,0,none⟩)] w fun e w'=>e=.returned (.string ⟨l.toArray⟩)∧w'=w.drew.freeze ⟨g,0,none⟩ l.length:=by
 have hl0:l.length≠0:=by simpa using h0
 have c1:w.drew.cell? ⟨b,1,none⟩=some (.slice (some ⟨g,0,none⟩) l.length cap):=c0
 have hg':w.drew.heap[g]?=some (.cells cur 5 (0,0)):=hg
 have hSD:(Builtin.unsafeSliceData_ #[149] 219 #[.slice (some ⟨g,0,none⟩) l.length cap]).run Tryz.prog w.drew=.ok (.pointer (some ⟨g,0,none⟩)) w.drew:=Lib.run_unsafeSliceData_row _ _ _ _ _ _ (by omega)
 have hUS:(Builtin.unsafeString_ #[219,3] 9 #[.pointer (some ⟨g,0,none⟩),.int .i64 l.length]).run Tryz.prog w.drew=.ok (.string ⟨l.toArray⟩) (w.drew.freeze ⟨g,0,none⟩ l.length):=
  Lib.run_unsafeString_row w.drew 219 3 9 5 Tryz.underlying219 (by kernel_rfl) g cur.size (by simp[World.shape?,hg']) l h0 hn h63 (fun j x hx=>by
   have:=hc j x hx
   rw[Addr.lz,da]
   simp[World.cell?,hg',this])
 have mixed:Tryz.prog.follows .mixedOrders=true:=by kernel_rfl
 clear hl0 h63 hn hcap hc hg hg' h0
 go_enter Tryz.func93,Tryz.ntmps93
 go_wp2
 go_region
 all_goals (go_wp2;go_ret;exact⟨rfl,rfl⟩)
theorem VK {l:List Int}(h:wh l=true):∃l8:List UInt8,l=l8.map (fun x=>(x.toNat:Int))∧strOf l=⟨l8.toArray⟩:=by
 refine⟨l.map fun n=>n.toNat.toUInt8,?_,rfl⟩
 rw[iO]
 conv=>lhs;rw[←List.map_id l]
 refine fh fun x hx=>?_
 have:=dB.1 h x hx
 simp at this
 simp
 omega
theorem RD {bI:TypeId}{c0:G}{n:Nat}{rest:List G}{l:List Int}{f:Bool}(hn:n=l.length) (hb:wh l=true):
  GM Tryz.prog 93 [.loc 1000 0] (rK bI c0 n rest (l.map fun x=>.val (.int .u8 x)) f) (fun g st=>g=.val (.string (strOf l))∧st=[(1000,⟨bI,false,false,false,0,c0::.any::rest,none⟩)]):=by
 intro X μ w vs hX hst hlen ha
 match vs,hlen with
 | [u],_=>
 have h0:=ha 0 _ u rfl rfl
 have hk0:ay (rK bI c0 n rest (l.map fun x=>.val (.int .u8 x)) f) 1000=some ⟨bI,false,false,false,0,c0::.aL 1001 1 0 n::rest,none⟩:=rfl
 have hk1:ay (rK bI c0 n rest (l.map fun x=>.val (.int .u8 x)) f) 1001=some ⟨5,true,false,f,1,l.map fun x=>.val (.int .u8 x),none⟩:=rfl
 obtain⟨b,m,rfl,hm⟩:∃b m,u=.pointer (some ⟨b,0,none⟩)∧μ 1000=some (b,m):=by
  cases h0 with
  | aF h=>cases h
  | loc _ _ b m hm=>exact⟨b,m,rfl,hm⟩
 have hB:=hst.en 1000 _ hk0
 rw[hm] at hB
 obtain⟨cs,hcs,hsz,hle,_,_,hcells⟩:=hB.cells rfl
 have hblt:b<w.heap.size:=(hst.cq 1000 _ b m b hk0 hm (.self b m)).2.2.1
 obtain⟨v,hv,hrv⟩:=hcells 1 _ rfl
 have hcell:w.cell? ⟨b,1,none⟩=some v:=by simp[World.cell?,hcs,hv]
 have fin:∀(w':World),w.heap.size≤w'.heap.size→(∀x,x<w.heap.size→(∀m',μ 1001≠some (x,m'))→w'.heap[x]?=w.heap[x]?)→w'.os=w.os→w'.tape=w.tape→w'.output=w.output→∀e,e=.returned (.string (strOf l))→
   FD X (rK bI c0 n rest (l.map fun x=>.val (.int .u8 x)) f) μ w (fun g st=>g=.val (.string (strOf l))∧st=[(1000,⟨bI,false,false,false,0,c0::.any::rest,none⟩)]) (fun _ _=>False) e w':=by
  rintro w' h1 h2 h3 h4 h5 e rfl
  have hK:∀O:Nat→Prop,(∀x m',μ 1001=some (x,m')→O x)→Kept O w w':=fun O hO=>⟨h1,fun x hx hn=>h2 x hx fun m' hm'=>hn (hO x m' hm')⟩
  have hne:∀m',μ 1001≠some (b,m'):=fun m' hm'=>absurd (hst.de 1000 1001 _ _ b b m b m' hk0 hk1 hm hm' (.self b m) (.self b m')) (by decide)
  have key:∀x k,ay [(1000,(⟨bI,false,false,false,0,c0::.any::rest,none⟩:av))] x=some k→x=1000∧k=⟨bI,false,false,false,0,c0::.any::rest,none⟩:=by
   intro x k hx
   simp only[ay] at hx
   cases hbq:Nat.beq 1000 x with
   | true=>rw[hbq] at hx;cases hx;exact⟨(ab hbq).symm,rfl⟩
   | false=>rw[hbq] at hx;cases hx
  have hO:∀x,¬(jc X (rK bI c0 n rest (l.map fun x=>.val (.int .u8 x)) f) μ w).O (rK bI c0 n rest (l.map fun x=>.val (.int .u8 x)) f) μ x→¬(jc X (rK bI c0 n rest (l.map fun x=>.val (.int .u8 x)) f) μ w).O [(1000,⟨bI,false,false,false,0,c0::.any::rest,none⟩)] μ x:=by
   rintro x hn (ho | ⟨y,k,c,m',g1,g2,g3⟩)
   ·exact hn (.inl ho)
   ·obtain⟨rfl,rfl⟩:=key y k g1
    exact hn (.inr ⟨1000,_,c,m',hk0,g2,g3⟩)
  refine .inl ⟨_,_,_,μ,rfl,⟨rfl,rfl⟩,{en:=?_,de:=?_,cq:=?_,fD:=?_,fg:=hst.fg,hb:=cK hst.hb h1,os:=h3.trans hst.os,tape:=h4.trans hst.tape,output:=h5.trans hst.output,gl:=hst.gl,dq:=?_},.aF (.val _)⟩
  ·intro x k hx
   obtain⟨rfl,rfl⟩:=key x k hx
   rw[hm]
   refine .mk rfl (hB.nf rfl) ⟨cs,(h2 b hblt hne).trans hcs,hsz,hle,(fun h=>by cases h),(fun h=>absurd rfl h),fun j g hg=>?_⟩
   match j with
   | 0=>
    obtain⟨v0,hv0,hr0⟩:=hcells 0 g hg
    exact⟨v0,hv0,hr0.mono (hK _ fun x m' hm'=>.inr (.root hk1 hm')) fun x _=>hO x⟩
   | 1=>cases hg;exact⟨v,hv,.aF (.any _)⟩
   | j+2=>
    obtain⟨v0,hv0,hr0⟩:=hcells (j+2) g hg
    exact⟨v0,hv0,hr0.mono (hK _ fun x m' hm'=>.inr (.root hk1 hm')) fun x _=>hO x⟩
  ·intro x x' k k' y b1 m1 b2 m2 g1 g2 _ _ _ _
   rw[(key x k g1).1,(key x' k' g2).1]
  ·intro x k b1 m1 y g1 g2 g3
   obtain⟨rfl,rfl⟩:=key x k g1
   obtain⟨q1,q2,q3,q4⟩:=hst.cq 1000 _ b1 m1 y hk0 g2 g3
   exact⟨q1,q2,cJ q3 h1,fun h=>by cases h⟩
  ·intro x k g1 _
   obtain⟨rfl,rfl⟩:=key x k g1
   exact hst.fD 1000 _ hk0 rfl
  ·intro x hx hA
   exact(h2 x hx fun m' hm'=>hA (.root hk1 hm')).trans (hst.dq x hx hA)
 obtain⟨l8,hl8,hs8⟩:=VK hb
 have hrv':aU ((jc X (rK bI c0 n rest (l.map fun x=>.val (.int .u8 x)) f) μ w).O (rK bI c0 n rest (l.map fun x=>.val (.int .u8 x)) f) μ) (jc X (rK bI c0 n rest (l.map fun x=>.val (.int .u8 x)) f) μ w).base w μ (.aL 1001 1 0 n) v:=hrv
 have hB1:=hst.en 1001 _ hk1
 generalize hOO:(jc X (rK bI c0 n rest (l.map fun x=>.val (.int .u8 x)) f) μ w).O (rK bI c0 n rest (l.map fun x=>.val (.int .u8 x)) f) μ=OO at hrv'
 have jb:n=0→strOf l=.empty:=by
  intro hz
  have:l=[]:=bu (by omega)
  subst this;rfl
 cases hrv' with
 | aF h=>cases h
 | gk _ _ hm1=>
  refine(Pz b w hcell).mono ?_
  rintro e w' ⟨rfl,rfl⟩
  exact fin w.drew (aG _) (fun _ _ _=>rfl) rfl rfl rfl _ (by rw[jb rfl])
 | fq _ _ off0 b' _ hm1 hpos=>exact absurd hpos (mT _)
 | aL _ _ _ _ b2 m2 cap hm1 hcap hc=>
  rw[hm1] at hB1
  obtain⟨cur,hcur,hsz1,hle1,_,hmx,hcells1⟩:=hB1.cells rfl
  have hglt:b2<w.heap.size:=(hst.cq 1001 _ b2 m2 b2 hk1 hm1 (.self b2 m2)).2.2.1
  by_cases hz:n=0
  ·subst hz
   by_cases hcz:cap=0
   ·subst hcz
    refine(J6 b b2 cur (0,0) w hcell hblt hcur).mono ?_
    rintro e w' ⟨rfl,rfl | rfl⟩
    ·exact fin _ (cK (Nat.le_succ _) (Nat.le_of_eq (Array.size_push (xs:=w.heap) (.view ⟨b2,0,none⟩ 5)).symm)) (fun x hx _=>Lib.alloc_old w.drew _ x hx) rfl rfl rfl _ (by rw[jb rfl])
    ·exact fin (w.alloc (.view ⟨b2,0,none⟩ 5)).drew (cK (Nat.le_succ _) (Nat.le_of_eq (Array.size_push (xs:=w.heap) (.view ⟨b2,0,none⟩ 5)).symm)) (fun x hx _=>Lib.alloc_old w _ x hx) rfl rfl rfl _ (by rw[jb rfl])
   ·refine(NH b b2 cap w hcz hcell).mono ?_
    rintro e w' ⟨rfl,rfl⟩
    exact fin w.drew (aG _) (fun _ _ _=>rfl) rfl rfl rfl _ (by rw[jb rfl])
  ·have hll:l8.length=n:=by rw[hn,hl8,aN]
   have hcz:cur.size=cap:=by rw[hsz1];omega
   have hmm:cap≤maxLen:=by have:=hmx Nat.one_ne_zero;simp only at this hc;omega
   rw[←hll] at hcell
   refine(NG b b2 cap cur l8 w (fun h=>hz (by rw[←hll,h];rfl)) hcell hcur (by omega) (by omega) (by unfold maxLen at hmm;omega) (fun j x hx=>?_)).mono ?_
   ·have hj:(l.map fun x=>G.val (.int .u8 x))[j]?=some (.val (.int .u8 (x.toNat:Int))):=by rw[hl8,ak,ak,hx];rfl
    obtain⟨v',hv',hr'⟩:=hcells1 j _ hj
    unfold cZ at hr'
    dsimp only at hr'
    cases hr'
    exact hv'
   ·rintro e w' ⟨rfl,rfl⟩
    have hfz:∀(W:World) (a:Addr) (n:Nat),(W.freeze a n).os=W.os∧(W.freeze a n).tape=W.tape∧(W.freeze a n).output=W.output:=fun W a n=>by unfold World.freeze;split <;> exact⟨rfl,rfl,rfl⟩
    obtain⟨z1,z2,z3⟩:=hfz w.drew ⟨b2,0,none⟩ l8.length
    refine fin _ ?_ ?_ z1 z2 z3 _ (by rw[hs8])
    ·unfold World.freeze;split
     ·exact aG _
     ·show w.heap.size≤(Array.modify w.heap _ _).size;rw[Array.size_modify];exact aG _
    ·intro x hx hne
     unfold World.freeze;split
     ·rfl
     ·have hxb:b2≠x:=fun e=>hne m2 (e▸hm1)
      show(Array.modify w.heap b2 _)[x]?=w.heap[x]?
      rw[Array.getElem?_modify,if_neg hxb]
end Go.DN
