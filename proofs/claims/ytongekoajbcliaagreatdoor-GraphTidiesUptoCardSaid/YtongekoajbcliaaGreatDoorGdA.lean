/-
  Graphs: the plain law of their dimensions: parameters; one node.
-/
import Derived.Test.YtongekoajbcliaaGreatDoorWtA
set_option linter.unusedSimpArgs false
set_option linter.unusedVariables false
set_option maxRecDepth 20000
namespace Go.DN.Pl
open Go.AM Go.PL
theorem MF {α β γ:Type}(f:α→Option β) (g:β→γ):∀l:List α,(l.findSome? fun x=>(f x).map g)=(l.findSome? f).map g
 | []=>rfl
 | x::r=>by
  rw[dT,dT];cases f x with
  | some b=>rfl
  | none=>exact MF f g r
def tV (x:aq):Bool:=x.Op.Kind !=1
def BW (nodes:List aq) (k:Nat):Option Nat:=match nodes[k]? with
 | some x=>if tV x then some k else none
 | none=>none
def xS (nodes:List aq):Option Nat:=(List.range nodes.length).findSome? (BW nodes)
def nV (nodes:List aq):Nat:=(xS nodes).getD nodes.length
theorem W0 {nodes:List aq}{k:Nat}(h:xS nodes=some k):k<nodes.length:=by
 obtain⟨j,h1,h2⟩:=List.exists_of_findSome?_eq_some h;unfold BW at h2;split at h2
 ·rename_i x hx;split at h2
  ·cases h2;exact bP hx
  ·cases h2
 ·cases h2
theorem Ol (nodes:List aq):nV nodes≤nodes.length:=by
 unfold nV;cases h:xS nodes with
 | none=>exact aG _
 | some k=>exact Nat.le_of_lt (W0 h)
theorem LM {body:Int→Option (Int⊕Ex Unit Int)}(nodes:List aq) (hn:nodes.length≤4000000) (hbody:∀(k:Nat) x,nodes[k]?=some x→body (k:Int)=some (if tV x then .inr (.ret (k:Int)) else .inl ((k+1:Nat):Int)))
  (hend:body (nodes.length:Int)=some (.inr (.bJ ()))) (fu:Nat) (hf:4000000<fu):aP body fu 0=some (match xS nodes with | some k=>.ret (k:Int) | none=>.bJ ()):=by
 have:=gO (body:=body) nodes.length (fun k=>(k:Int)) (fun k=>(BW nodes k).map fun (j:Nat)=>Ex.ret (j:Int)) (.bJ ()) (fun k hk _=>by
  have hx:=ag hk;rw[hbody k _ hx];unfold BW;rw[hx];simp only;cases tV nodes[k] <;> rfl) (fun _=>hend) fu (by omega)
 rw[show((0:Nat):Int)=0 from rfl] at this;rw[this,MF];unfold xS;cases (List.range nodes.length).findSome? (BW nodes) <;> rfl
theorem Jl (fu:Nat) (g:cL) (hn:g.aJ.length≤4000000) (hf:4000000<fu):F.pI fu g=some (nV g.aJ:Int):=by
 have h:=LM (body:=F.kv fu g.aJ) g.aJ hn (fun k x hx=>by
  simp only[F.kv,F.tn,dec_lt hx,cond_true,aC hx,aa,aT (bP hx) (by omega)];unfold tV;cases (x.Op.Kind !=1) <;> rfl) (by simp only[F.kv,bw,cond_false]) fu hf
 unfold F.pI F.po nV;rw[h];cases ho:xS g.aJ with
 | none=>
  simp only[bd,aa,ed (show((-1:Int)<0) by omega),cond_true];rfl
 | some k=>
  simp only[bd,aa,cB (show ¬((k:Int)<0) by omega),cond_false];rfl
theorem FY (fu:Nat) (g:cL) (hn:g.aJ.length≤4000000) (hf:4000000<fu):F.kl fu g=some (nV g.aJ:Int):=by
 have h:=LM (body:=F.kF fu g) g.aJ hn (fun k x hx=>by
  simp only[F.kF,dec_lt hx,cond_true,aC hx,aa,aT (bP hx) (by omega)];unfold tV;cases (x.Op.Kind !=1) <;> rfl) (by simp only[F.kF,bw,cond_false]) fu hf
 unfold F.kl nV;rw[h];cases ho:xS g.aJ with
 | none=>
  simp only[bd];rfl
 | some k=>
  simp only[bd];rfl
def jl (i:Nat) (a:Int):Bool:=decide (a<0)||decide (a≥(i:Int))
def uB (out:List (List Int)) (args:List Int):List (List Int):=args.map fun a=>out.getD a.toNat []
theorem XE {out:List (List Int)}{args:List Int}{k:Nat}{a:Int}(h:args[k]?=some a) (hb:jl out.length a=false):
  idx out a=some (out.getD a.toNat [])∧uB out (args.take (k+1))=uB out (args.take k)++[out.getD a.toNat []]:=by
 unfold jl at hb;rw[bi] at hb;have h1:¬(a<0):=by simpa using hb.1
 have h2:¬(a≥(out.length:Int)):=by simpa using hb.2
 refine⟨?_,?_⟩
 ·have hl:a.toNat<out.length:=by omega
  have:idx out ((a.toNat:Nat):Int)=some (out.getD a.toNat []):=aC (by rw[bZ,ag hl];rfl);rwa[show((a.toNat:Nat):Int)=a by omega] at this
 ·unfold uB;rw[take_succ h,dW];rfl
theorem Tj (out:List (List Int)) (args:List Int):(uB out args).length=args.length:=by unfold uB;simp
def KB (out:List (List Int)):Prop:=∀d∈out,d.length≤6
theorem Io {out:List (List Int)}{args:List Int}(h:KB out) (ha:args.length≤1048576):yJ (uB out args):=by
 refine⟨by rw[Tj];exact ha,fun d hd=>?_⟩;unfold uB at hd;obtain⟨a,_,rfl⟩:=fc.1 hd;rw[bZ];cases hq:out[a.toNat]? with
 | none=>simp
 | some d=>
  have:=h d (aj hq);show d.length≤1048576;omega
theorem O8 {ρ:Type}{body:Int×List (List Int)→Option ((Int×List (List Int))⊕ρ)}(out:List (List Int)) (args:List Int) (bad:ρ) (fin:List (List Int)→ρ) (ha:args.length≤1048576)
  (hbody:∀(k:Nat) a m,args[k]?=some a→m.length=k→(jl out.length a=true→body ((k:Int),m)=some (.inr bad))∧(jl out.length a=false→∀d,idx out a=some d→body ((k:Int),m)=some (.inl (((k+1:Nat):Int),m++[d]))))
  (hend:∀m,body ((args.length:Int),m)=some (.inr (fin m))) (fu:Nat) (hf:4000000<fu):aP body fu (0,[])=some (if args.any (jl out.length) then bad else fin (uB out args)):=by
 have:=nL (body:=body) args (fun k=>((k:Int),uB out (args.take k))) (fun a=>if jl out.length a then some bad else none) (fin (uB out args)) (fun k a h=>by
  obtain⟨h1,h2⟩:=hbody k a (uB out (args.take k)) h (by rw[Tj];exact pE h);cases hb:jl out.length a with
  | true=>rw[h1 hb];rfl
  | false=>
   obtain⟨d1,d2⟩:=XE h hb;rw[h2 hb _ d1,d2];rfl) (by simp only[bK];exact hend _) fu (by omega)
 have e0:(((0:Nat):Int),uB out (args.take 0))=((0:Int),([]:List (List Int))):=rfl;simp only[e0] at this;rw[this,gP];cases args.any (jl out.length) <;> rfl
noncomputable def DS (fu:Nat) (op:cy) (args:List (List Int)):List Int×Int:=(F.fe fu op args).getD ([],0)
theorem Rk (fu:Nat) (op:cy) (args:List (List Int)) (ho:vZ op) (ha:yJ args) (hf:4000000<fu):F.fe fu op args=some (DS fu op args)∧F.ig fu op args=some (DS fu op args)∧(DS fu op args).1.length≤6:=by
 obtain⟨r,h1,h2,h3,_⟩:=Tk fu op args ho ha hf;have:DS fu op args=r:=by unfold DS;rw[h1];rfl
 rw[this];exact⟨h1,h2,h3⟩
def Hm (p:Int) (op:cy) (i:Nat):Bool:=decide ((i:Int)≥p)||(((op.At.length:Int) !=1)||(op.At.getD 0 0 !=(i:Int)))
theorem Nu (p:Int) (op:cy) (i:Nat):(cond (decide ((i:Int)≥p)) (some true) (cond ((op.At.length:Int) !=1) (some true) ((idx op.At 0).bind fun x=>some (x !=(i:Int)))))=some (Hm p op i):=by
 unfold Hm;cases decide ((i:Int)≥p) with
 | true=>rfl
 | false=>
  by_cases h:(op.At.length:Int)=1
  ·obtain⟨a,ha⟩:=B7 (show op.At.length=1 by omega);rw[ha,ob];rfl
  ·rw[bne_true h];rfl
noncomputable def k7 (fu:Nat) (p:Int) (x:aq) (out:List (List Int)):List Int×Int:=
 if x.cH.any (jl out.length) then([],10) else
 if tV x then DS fu x.Op (uB out x.cH) else
 if Hm p x.Op out.length then([],7) else if decide ((x.cH.length:Int)>0) then([],2) else(x.Op.au,(cn x.Op.au).2)
def LV (x:aq):Prop:=vZ x.Op∧x.cH.length≤1048576
theorem Xd (fu:Nat) (p:Int) (x:aq) (out:List (List Int)) (hx:LV x) (ho:KB out) (hl:out.length≤5000) (hf:4000000<fu):
  F.ss fu x (out.length:Int) p out=some ((k7 fu p x out).1,(k7 fu p x out).2,out):=by
 have hL:=O8 (body:=F.mF fu x (out.length:Int) out) out x.cH (.ret (([]:List Int),10,out)) .bJ hx.2 (fun k a m h hm=>by
  have hla:=hx.2;have hk:=bP h;have hb0:(cond (decide (a<0)) (some true) (some (decide (a≥(out.length:Int)))))=some (jl out.length a):=cc _ _;refine⟨fun hb=>?_,fun hb d hd=>?_⟩
  ·simp only[F.mF,dec_lt h,cond_true,aC h,aa,hb0,hb]
  ·have hc:bj (m.length+[d].length≤maxLen∧(m.length+[d].length)*24≤140737488355328)=some ():=cQ (by simp only[ah];omega) (by simp only[ah];omega);simp only[F.mF,dec_lt h,cond_true,aC h,aa,hb0,hb,cond_false,hd,hc,aT hk (by omega)]) (fun m=>by simp only[F.mF,bw,cond_false]) fu hf
 unfold F.ss;rw[hL];unfold k7;cases hb:x.cH.any (jl out.length) with
 | true=>rfl
 | false=>
  obtain⟨d1,_,_⟩:=Rk fu x.Op (uB out x.cH) hx.1 (Io ho hx.2) hf;simp only[if_neg iQ,bd];unfold tV;cases hk:(x.Op.Kind !=1) with
  | true=>
   simp only[cond_true,d1,aa,if_pos]
  | false=>
   simp only[cond_false,Nu,aa,if_neg iQ];cases hp:Hm p x.Op out.length with
   | true=>rfl
   | false=>
    simp only[cond_false,if_neg iQ];cases hq:decide ((x.cH.length:Int)>0) with
    | true=>rfl
    | false=>
     have hd:x.Op.au.length≤1048576:=hx.1.1;simp only[cond_false,if_neg iQ,rq fu x.Op.au (by omega) hf,kP fu x.Op.au (by omega),aa]
theorem Uv (fu:Nat) (p:Int) (x:aq) (out:List (List Int)) (hx:LV x) (ho:KB out) (hf:4000000<fu) (h:(k7 fu p x out).2=0):(k7 fu p x out).1.length≤6:=by
 unfold k7 at h⊢;split
 ·simp
 ·rename_i h1;rw[if_neg h1] at h;split
  ·exact(Rk fu x.Op (uB out x.cH) hx.1 (Io ho hx.2) hf).2.2
  ·rename_i h2;rw[if_neg h2] at h;split
   ·simp
   ·rename_i h3;rw[if_neg h3] at h;split
    ·simp
    ·rename_i h4;rw[if_neg h4] at h;exact(k4 h).1
theorem Js (fu:Nat) (p:Int) (x:aq) (out:List (List Int)) (h:(k7 fu p x out).2=0):x.cH.any (jl out.length)=false:=by
 unfold k7 at h;cases hb:x.cH.any (jl out.length) with
 | false=>rfl
 | true=>
  rw[hb,if_pos rfl] at h;exact absurd h (by simp)
end Go.DN.Pl
