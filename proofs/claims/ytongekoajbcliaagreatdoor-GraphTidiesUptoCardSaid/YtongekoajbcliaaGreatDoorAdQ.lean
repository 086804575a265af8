/-
  Arrays: the plain law: lists, sizes.
-/
import Derived.Test.YtongekoajbcliaaGreatDoorAnF
import Derived.Test.YtongekoajbcliaaGreatDoorPlA
set_option linter.unusedSimpArgs false
set_option linter.unusedVariables false
namespace Go.DN.Pl
open Go.AM Go.PL
theorem cc (a b:Bool):cond a (some true) (some b)=some (a||b):=by cases a <;> rfl
theorem M9 (a b:Bool):cond a (some b) (some false)=some (a&&b):=by cases a <;> rfl
theorem Xr (fu:Nat) (n:Nat) (hn:n≤10000000):Go.Proofs.YtongekoajbcliaaGreatDoor.F.qz fu (n:Int)=some []:=by
 unfold Go.Proofs.YtongekoajbcliaaGreatDoor.F.qz;have h0:IntKind.i64.wrap (0-0)=0:=by rw[i64 (by omega) (by omega)];rfl
 have h1:IntKind.i64.wrap ((n:Int)-0)=n:=by rw[i64 (by omega) (by omega)];omega
 simp only[h0,h1,cB (show ¬((n:Int)<0) by omega),cond_false,aa]
 by_cases h:(n:Int)>0
 ·rw[ed h,cond_true,ey (by omega)];simp only[aa];rw[ey (by omega)];rfl
 ·rw[cB h,cond_false]
theorem uD (fu:Nat) (ls:List (List Int)) (h1:ls.length≤1000) (h2:ls.flatten.length≤10000000) (hf:1000<fu):Go.Proofs.YtongekoajbcliaaGreatDoor.F.c7 fu ls=some ls.flatten:=by
 have hpre:∀k,(ls.take k).flatten.length≤ls.flatten.length:=fun k=>by
  conv=>rhs;rw[←oL k ls]
  rw[List.flatten_append,aI];omega
 have hstep:∀k x,ls[k]?=some x→(ls.take (k+1)).flatten=(ls.take k).flatten++x:=fun k x hx=>by
  rw[take_succ hx,List.flatten_append];simp
 unfold Go.Proofs.YtongekoajbcliaaGreatDoor.F.c7;have hl1:=fw (body:=Go.Proofs.YtongekoajbcliaaGreatDoor.F.lH fu ls) ls (fun k=>(((ls.take k).flatten.length:Int),(k:Int))) (ls.flatten.length:Int)
  (fun k x hx=>by
   have hw:=aT (bP hx) (by omega);have e:=hstep k x hx;have h3:=hpre (k+1);have e2:((ls.take (k+1)).flatten.length:Int)=(ls.take k).flatten.length+x.length:=by rw[e,aI];omega
   have h4:IntKind.i64.wrap (((ls.take k).flatten.length:Int)+(x.length:Int))=(ls.take (k+1)).flatten.length:=by rw[i64 (by omega) (by omega)];omega
   simp only[Go.Proofs.YtongekoajbcliaaGreatDoor.F.lH,dec_lt hx,cond_true,aC hx,aa,hw,h4,cB (show ¬(((ls.take (k+1)).flatten.length:Int)<0) by omega),cond_false])
  (by simp only[Go.Proofs.YtongekoajbcliaaGreatDoor.F.lH,bw,cond_false,bK]) fu (by omega)
 have hl2:=fw (body:=Go.Proofs.YtongekoajbcliaaGreatDoor.F.lG fu ls) ls (fun k=>((k:Int),(ls.take k).flatten)) ls.flatten
  (fun k x hx=>by
   have hw:=aT (bP hx) (by omega);have e:=hstep k x hx;have h3:=hpre (k+1);have h5:(ls.take k).flatten.length+x.length≤10000000:=by rw[e,aI] at h3;omega
   simp only[Go.Proofs.YtongekoajbcliaaGreatDoor.F.lG,dec_lt hx,cond_true,aC hx,aa,hw,cQ (n:=8) (show((ls.take k).flatten.length+x.length)*8≤140737488355328 by omega) (by omega),e])
  (by simp only[Go.Proofs.YtongekoajbcliaaGreatDoor.F.lG,bw,cond_false,bK]) fu (by omega)
 simp only[dA,List.flatten_nil,jE] at hl1 hl2;rw[show((0:Nat):Int)=0 from rfl] at hl1 hl2;simp only[hl1,aa,Xr fu _ h2,hl2]
theorem kP (fu:Nat) (s:List Int) (hs:s.length≤10000000):F.cS fu s=some s:=by
 unfold F.cS;have hc:bj (([]:List Int).length+s.length≤maxLen∧(([]:List Int).length+s.length)*8≤140737488355328)=some ():=cQ (by simp only[jE];omega) (by simp only[jE];omega);rw[hc];simp only[aa,jD];unfold EC;split
 ·rename_i h;have:s=[]:=bu (by omega);subst this;simp
 ·rfl
def hasB (l:List Int) (n:Int):Bool:=l.any fun x=>x==n
theorem Ws {α:Type}(p:α→Bool) (l:List α):(l.findSome? fun x=>if p x then some true else none)=if l.any p then some true else none:=by
 induction l with
 | nil=>rfl
 | cons x r ih=>
  rw[dT,mU];cases p x with
  | true=>rfl
  | false=>simpa using ih
theorem oK (fu:Nat) (s:List Int) (v:Int) (hs:s.length≤4000000) (hf:4000000<fu):F.iE fu s v=some (hasB s v):=by
 obtain⟨r,h1,h2⟩:=xV s (fun x=>some (v==x)) (fun x=>v==x) (fun _=>rfl) (by omega) fu (by omega);have h3:aP (F.xa fu s v) fu 0=some r:=h1;have e:s.any (fun x=>v==x)=hasB s v:=by
  unfold hasB;have:(fun x:Int=>v==x)=fun x=>x==v:=by
   funext x;exact(decide_eq_decide.2 ⟨Eq.symm,Eq.symm⟩:decide (v=x)=decide (x=v))
  rw[this]
 rw[e] at h2;unfold F.iE F.vS;cases r with
 | bJ _=>
  replace h2:hasB s v=false:=h2;simp only[h3,bd,aa,h2];rfl
 | ret i=>
  replace h2:0≤i∧hasB s v=true:=h2;simp only[h3,bd,aa,h2.2];simpa using h2.1
theorem OX (fu:Nat) (s:List Int) (v:Int) (hs:s.length≤4000000) (hf:4000000<fu):F.mN fu s v=some (hasB s v):=by
 unfold F.mN hasB;have hl:=xh (body:=F.mM fu s v) s (fun k=>(k:Int)) (fun x=>if x==v then some true else none)
  (fun k x hx=>by
   have hw:=aT (bP hx) (by omega);simp only[F.mM,dec_lt hx,cond_true,aC hx,aa,hw];cases (x==v) <;> rfl)
  (by simp only[F.mM,bw,cond_false]) fu (by omega)
 rw[show((0:Nat):Int)=0 from rfl] at hl;rw[hl,AS,Ws];cases s.any fun x=>x==v <;> rfl
theorem H8 (fu:Nat) (s:List Int) (v:Int) (hs:s.length≤4000000) (hf:4000000<fu):F.kH fu s v=some (hasB s v):=by
 unfold F.kH hasB;have hl:=xh (body:=F.mO fu s v) s (fun k=>(k:Int)) (fun x=>if x==v then some true else none)
  (fun k x hx=>by
   have hw:=aT (bP hx) (by omega);simp only[F.mO,dec_lt hx,cond_true,aC hx,aa,hw];cases (x==v) <;> rfl)
  (by simp only[F.mO,bw,cond_false]) fu (by omega)
 rw[show((0:Nat):Int)=0 from rfl] at hl;rw[hl,AS,Ws];cases s.any fun x=>x==v <;> rfl
theorem GQ {body:Int→Option (Int⊕Ex Unit Bool)}(a b:List Int) (hl:a.length=b.length)
  (hb:∀(k:Nat) (x y:Int),a[k]?=some x→b[k]?=some y→body k=some (if x=y then .inl ((k+1:Nat):Int) else .inr (.ret false))) (he:body (a.length:Int)=some (.inr (.bJ ()))) (n:Nat) (hn:a.length<n):
  aP body n 0=some (if a=b then .bJ () else .ret false):=by
 have key:∀(m k n:Nat),m=a.length-k→k≤a.length→m<n→aP body n (k:Int)=some (if a.drop k=b.drop k then .bJ () else .ret false):=by
  intro m
  induction m with
  | zero=>
   intro k n hm hk hn;obtain rfl:k=a.length:=by omega
   cases n with
   | zero=>omega
   | succ n=>
    rw[jQ,hl,jQ,←hl];simp only[aP,he,if_true]
  | succ m ih=>
   intro k n hm hk hn;cases n with
   | zero=>omega
   | succ n=>
    have h1:k<a.length:=by omega
    have h2:k<b.length:=by omega
    simp only[aP,hb k _ _ (ag h1) (ag h2)];rw[cM h1,cM h2]
    by_cases h:a[k]=b[k]
    ·rw[if_pos h];simp only;rw[ih (k+1) n (by omega) (by omega) (by omega)];congr 1
     by_cases h3:a.drop (k+1)=b.drop (k+1)
     ·rw[if_pos h3,if_pos (by rw[h,h3])]
     ·rw[if_neg h3,if_neg (by intro e;injection e with _ e;exact h3 e)]
    ·rw[if_neg h];simp only;rw[if_neg (by intro e;injection e with e _;exact h e)]
 have:=key a.length 0 n (by omega) (by omega) hn;simpa using this
theorem MP (fu:Nat) (a b:List Int) (ha:a.length≤4000000) (hf:4000000<fu):F.pq fu a b=some (decide (a=b)):=by
 unfold F.pq
 by_cases hl:a.length=b.length
 ·rw[bne_false (by omega),cond_false];have h:=GQ (body:=F.oS fu a b) a b hl
   (fun k x y hx hy=>by
    have hw:=aT (bP hx) (by omega);simp only[F.oS,dec_lt hx,cond_true,aC hx,aC hy,aa,hw]
    by_cases h:x=y
    ·rw[bne_false h,cond_false,if_pos h]
    ·rw[bne_true h,cond_true,if_neg h])
   (by simp only[F.oS,bw,cond_false]) fu (by omega)
  rw[h]
  by_cases h:a=b <;> simp[h,bd]
 ·rw[bne_true (by omega),cond_true,cB (fun e=>hl (by rw[e]))]
theorem iI (fu:Nat) (a b:List Int) (ha:a.length≤4000000) (hf:4000000<fu):F.cE fu a b=some (decide (a=b)):=by
 unfold F.cE
 by_cases hl:a.length=b.length
 ·rw[bne_false (by omega),cond_false];have h:=GQ (body:=F.jL fu a b) a b hl
   (fun k x y hx hy=>by
    have hw:=aT (bP hx) (by omega);simp only[F.jL,dec_lt hx,cond_true,aC hx,aC hy,aa,hw]
    by_cases h:x=y
    ·rw[bne_false h,cond_false,if_pos h]
    ·rw[bne_true h,cond_true,if_neg h])
   (by simp only[F.jL,bw,cond_false]) fu (by omega)
  rw[h]
  by_cases h:a=b <;> simp[h,bd]
 ·rw[bne_true (by omega),cond_true,cB (fun e=>hl (by rw[e]))]
def pT (d:Int):Bool:=decide (d<0)||decide (d>4096)
def ep:Int→List Int→Int
 | n,[]=>n
 | n,x::r=>ep (n*x) r
def cn (d:List Int):Int×Int:=
 if d.length>6 then(0,3) else if d.any pT then(0,4) else if hasB d 0 then(0,0) else if ep 1 d>65536 then(0,5) else(ep 1 d,0)
theorem Uf (fu:Nat) (d:Int):F.qw fu d=some (pT d):=by
 unfold F.qw pT;rw[cc];rfl
theorem Ue (fu:Nat) (s:List Int) (hs:s.length≤4000000) (hf:4000000<fu):F.lT fu s=some (s.any pT):=by
 obtain⟨r,h1,h2⟩:=xV s (F.qw fu) pT (Uf fu) (by omega) fu (by omega);have h3:aP (F.sS fu s) fu 0=some r:=h1;unfold F.lT F.qW;cases r with
 | bJ _=>
  simp only at h2;simp only[h3,bd,aa,h2];rfl
 | ret i=>
  simp only at h2;simp only[h3,bd,aa,h2.2];simpa using h2.1
theorem vd:∀(l:List Int) (n:Int),0≤n→(∀x∈l,1≤x)→n≤ep n l
 | [],n,_,_=>iY n
 | x::r,n,h0,h=>by
  have hx:=h x ar;have h1:n≤n*x:=by
   have:=j9 hx h0;omega
  have:=vd r (n*x) (by omega) fun y hy=>h y (ap _ hy);show n≤ep (n*x) r;omega
theorem BU {ρ:Type}(e:ρ) (k:Int→ρ):∀(l:List Int) (n:Int),0≤n→n≤65536→(∀x∈l,1≤x∧x≤4096)→
  nk (fun (n:Int) x=>if n*x>65536 then some (.inr e) else some (.inl (n*x))) k n l=some (if ep n l>65536 then e else k (ep n l))
 | [],n,_,h1,_=>by
  rw[show ep n []=n from rfl,if_neg (by omega)];rfl
 | x::r,n,h0,h1,h=>by
  have hx:=h x ar;have h2:0≤n*x:=iH h0 (by omega);rw[show ep n (x::r)=ep (n*x) r from rfl];simp only[nk]
  by_cases hb:n*x>65536
  ·rw[if_pos hb];have:=vd r (n*x) h2 fun y hy=>(h y (ap _ hy)).1;simp only;rw[if_pos (by omega)]
  ·rw[if_neg hb];exact BU e k r (n*x) h2 (by omega) fun y hy=>h y (ap _ hy)
def ri (n x:Int):Int:=if 65537<n*x then 65537 else n*x
theorem JW:∀(l:List Int),l.foldl ri 0=0
 | []=>rfl
 | x::r=>by
  have:ri 0 x=0:=by unfold ri;simp
  rw[cz,this];exact JW r
theorem Nb:∀(l:List Int) (n:Int),0∈l→l.foldl ri n=0
 | x::r,n,h=>by
  rw[cz];rcases bf.1 h with e | h
  ·have:ri n x=0:=by unfold ri;rw[←e];simp
   rw[this];exact JW r
  ·exact Nb r _ h
theorem Na:∀(l:List Int) (n:Int),0≤n→n≤65537→(∀x∈l,0≤x∧x≤4096)→0≤l.foldl ri n∧l.foldl ri n≤65537
 | [],n,h0,h1,_=>⟨h0,h1⟩
 | x::r,n,h0,h1,h=>by
  have hx:=h x ar;have h2:0≤n*x:=iH h0 hx.1;rw[cz];refine Na r _ ?_ ?_ fun y hy=>h y (ap _ hy)
  ·unfold ri;split <;> omega
  ·unfold ri;split <;> omega
theorem HV {n x:Int}(h0:0≤n) (h1:n≤65537) (h2:0≤x) (h3:x≤4096):IntKind.i64.wrap (n*x)=n*x:=by
 have a1:=iH h0 h2;have a2:n*x≤65537*4096:=pi h1 h3 h2 (by omega);exact i64 (by omega) (by omega)
theorem ju {l:List Int}{n:Int}:hasB l n=true↔n∈l:=by
 unfold hasB;rw[List.any_eq_true];constructor
 ·rintro⟨x,h1,h2⟩;simp at h2;subst h2;exact h1
 ·intro h;exact⟨n,h,by simp⟩
theorem Cc {d:List Int}(h:d.any pT=false):∀x∈d,0≤x∧x≤4096:=fun x hx=>by
 have:=fV.1 h x hx;simp[pT] at this;omega
theorem rq (fu:Nat) (d:List Int) (hd:d.length≤4000000) (hf:4000000<fu):F.jF fu d=some (cn d):=by
 unfold F.jF cn
 by_cases h6:d.length>6
 ·rw[ed (by omega),cond_true,if_pos h6]
 ·rw[cB (by omega),cond_false,if_neg h6,Ue fu d hd hf];simp only[aa];cases hb:d.any pT with
  | true=>rfl
  | false=>
   have hg:=Cc hb;simp only[cond_false,bF,if_false];cases hz:hasB d 0 with
   | true=>
    have hl:=fw (body:=F.lD fu d) d (fun k=>((d.take k).foldl ri 1,(k:Int))) (Ex.bJ (d.foldl ri 1):Ex Int (Int×Int))
     (fun k x hx=>by
      have hw:=aT (bP hx) (by omega);have hx0:=hg x (aj hx);have hr:=Na (d.take k) 1 (by omega) (by omega) fun y hy=>hg y (fA hy);have hm:=HV hr.1 hr.2 hx0.1 hx0.2;have e:(d.take (k+1)).foldl ri 1=ri ((d.take k).foldl ri 1) x:=by rw[take_succ hx,eo];rfl
      simp only[F.lD,dec_lt hx,cond_true,aC hx,aa,hw,hm,oK fu d 0 hd hf,hz,fj,M9,Bool.and_false,cond_false,e];rfl)
     (by simp only[F.lD,bw,cond_false,bK]) fu (by omega)
    simp only[dA,eZ] at hl;rw[show((0:Nat):Int)=0 from rfl] at hl;rw[hl,Nb d 1 (ju.1 hz)];rfl
   | false=>
    have hg1:∀x∈d,1≤x∧x≤4096:=fun x hx=>by
     have:=hg x hx;have h0:x≠0:=fun e=>by subst e;rw[ju.2 hx] at hz;cases hz
     omega
    have hl:=B5 (body:=F.lD fu d) d (fun (n:{n:Int // 0≤n∧n≤65536}) i=>(n.1,i))
     (fun n x=>if h:n.1*x>65536 then some (.inr (Ex.ret ((0:Int),(5:Int)))) else if h2:0≤n.1*x then some (.inl ⟨n.1*x,h2,by omega⟩) else none) (fun n=>Ex.bJ n.1)
     (fun n k x hx=>by
      have hw:=aT (bP hx) (by omega);have hx0:=hg1 x (aj hx);have hm:=HV n.2.1 (by have:=n.2.2;omega) (by omega) hx0.2;have h0:0≤n.1*x:=iH n.2.1 (by omega);simp only[F.lD,dec_lt hx,cond_true,aC hx,aa,hw,hm,oK fu d 0 hd hf,hz,jn,M9,jZ]
      by_cases h:n.1*x>65536
      ·rw[ed h,cond_true,dif_pos h];rfl
      ·rw[cB h,cond_false,dif_neg h,dif_pos h0,if_neg (by omega)];rfl)
     (fun n=>by simp only[F.lD,bw,cond_false]) fu (by omega) ⟨1,by omega,by omega⟩
    have e:∀(l:List Int) (n:{n:Int // 0≤n∧n≤65536}),(∀x∈l,1≤x∧x≤4096)→nk (fun (n:{n:Int // 0≤n∧n≤65536}) x=>if h:n.1*x>65536 then some (.inr (Ex.ret ((0:Int),(5:Int)))) else if h2:0≤n.1*x then some (.inl ⟨n.1*x,h2,by omega⟩) else none) (fun n=>(Ex.bJ n.1:Ex Int (Int×Int))) n l
      =nk (fun (n:Int) x=>if n*x>65536 then some (.inr (Ex.ret ((0:Int),(5:Int)))) else some (.inl (n*x))) (fun n=>Ex.bJ n) n.1 l:=by
     intro l
     induction l with
     | nil=>intro n _;rfl
     | cons x r ih=>
      intro n h;have hx0:=h x ar;have h0:0≤n.1*x:=iH n.2.1 (by omega);simp only[nk]
      by_cases hb:n.1*x>65536
      ·rw[dif_pos hb,if_pos hb]
      ·rw[dif_neg hb,dif_pos h0,if_neg hb];exact ih _ fun y hy=>h y (ap _ hy)
    rw[hl,e d _ hg1,BU _ _ d 1 (by omega) (by omega) hg1]
    by_cases h:ep 1 d>65536
    ·simp only[if_pos h,bd];rfl
    ·simp only[if_neg h,bd];rfl
theorem k5 (fu:Nat) (d:List Int) (hd:d.length≤4000000) (hf:4000000<fu):F.e9 fu d=some (cn d):=by
 unfold F.e9 cn
 by_cases h6:d.length>6
 ·rw[ed (by omega),cond_true,if_pos h6]
 ·rw[cB (by omega),cond_false,if_neg h6];have hl0:=B5 (body:=F.mb fu d) d (fun (b:Bool) i=>(b,i)) (fun b x=>cond (pT x) (some (.inr (Ex.ret ((0:Int),(4:Int))))) (some (.inl (b||x==0)))) (fun b=>Ex.bJ b)
   (fun b k x hx=>by
    have hw:=aT (bP hx) (by omega);simp only[F.mb,dec_lt hx,cond_true,aC hx,aa,hw,cc];unfold pT;cases (decide (x<0)||decide (x>4096)) <;> cases b <;> cases (x==0) <;> rfl)
   (fun b=>by simp only[F.mb,bw,cond_false]) fu (by omega) false
  have e0:∀(l:List Int) (b:Bool),nk (fun (b:Bool) (x:Int)=>cond (pT x) (some (.inr (Ex.ret ((0:Int),(4:Int))))) (some (.inl (b||x==0)))) (fun b=>(Ex.bJ b:Ex Bool (Int×Int))) b l=some (if l.any pT then Ex.ret (0,4) else Ex.bJ (b||hasB l 0)):=by
   intro l
   induction l with
   | nil=>intro b;simp[nk,hasB]
   | cons x r ih=>
    intro b;rw[mU,show hasB (x::r) 0=(x==0||hasB r 0) from rfl,←Bool.or_assoc];simp only[nk];cases hb:pT x with
    | true=>rfl
    | false=>
     simp only[cond_false,fW];exact ih _
  rw[hl0,e0];cases hb:d.any pT with
  | true=>rfl
  | false=>
   have hg:=Cc hb;simp only[bF,if_false,bd,fW];cases hz:hasB d 0 with
   | true=>rfl
   | false=>
    have hg1:∀x∈d,1≤x∧x≤4096:=fun x hx=>by
     have:=hg x hx;have h0:x≠0:=fun e=>by subst e;rw[ju.2 hx] at hz;cases hz
     omega
    have hl:=B5 (body:=F.ma fu d) d (fun (n:{n:Int // 0≤n∧n≤65536}) i=>(n.1,i))
     (fun n x=>if h:n.1*x>65536 then some (.inr (Ex.ret ((0:Int),(5:Int)))) else if h2:0≤n.1*x then some (.inl ⟨n.1*x,h2,by omega⟩) else none) (fun n=>Ex.bJ n.1)
     (fun n k x hx=>by
      have hw:=aT (bP hx) (by omega);have hx0:=hg1 x (aj hx);have hm:=HV n.2.1 (by have:=n.2.2;omega) (by omega) hx0.2;have h0:0≤n.1*x:=iH n.2.1 (by omega);simp only[F.ma,dec_lt hx,cond_true,aC hx,aa,hw,hm]
      by_cases h:n.1*x>65536
      ·rw[ed h,cond_true,dif_pos h];rfl
      ·rw[cB h,cond_false,dif_neg h,dif_pos h0];rfl)
     (fun n=>by simp only[F.ma,bw,cond_false]) fu (by omega) ⟨1,by omega,by omega⟩
    have e:∀(l:List Int) (n:{n:Int // 0≤n∧n≤65536}),(∀x∈l,1≤x∧x≤4096)→nk (fun (n:{n:Int // 0≤n∧n≤65536}) x=>if h:n.1*x>65536 then some (.inr (Ex.ret ((0:Int),(5:Int)))) else if h2:0≤n.1*x then some (.inl ⟨n.1*x,h2,by omega⟩) else none) (fun n=>(Ex.bJ n.1:Ex Int (Int×Int))) n l
      =nk (fun (n:Int) x=>if n*x>65536 then some (.inr (Ex.ret ((0:Int),(5:Int)))) else some (.inl (n*x))) (fun n=>Ex.bJ n) n.1 l:=by
     intro l
     induction l with
     | nil=>intro n _;rfl
     | cons x r ih=>
      intro n h;have hx0:=h x ar;have h0:0≤n.1*x:=iH n.2.1 (by omega);simp only[nk]
      by_cases hb:n.1*x>65536
      ·rw[dif_pos hb,if_pos hb]
      ·rw[dif_neg hb,dif_pos h0,if_neg hb];exact ih _ fun y hy=>h y (ap _ hy)
    simp only[cond_false];rw[hl,e d _ hg1,BU _ _ d 1 (by omega) (by omega) hg1]
    by_cases h:ep 1 d>65536
    ·simp only[if_pos h,bd];rfl
    ·simp only[if_neg h,bd];rfl
end Go.DN.Pl
