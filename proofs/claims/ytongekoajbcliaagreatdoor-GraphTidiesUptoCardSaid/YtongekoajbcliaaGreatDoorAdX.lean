/-
  Arrays: the plain law: views: whole, wrong, spread, turned.
-/
import Derived.Test.YtongekoajbcliaaGreatDoorAdV
set_option linter.unusedSimpArgs false
set_option linter.unusedVariables false
namespace Go.DN.Pl
open Go.AM Go.PL
def b8:List Int→Int
 | []=>1
 | x::r=>b8 r*x
def lF:List Int→List Int
 | []=>[]
 | _::r=>b8 r::lF r
theorem s6:∀(l:List Int) (n:Int),ep n l=n*b8 l
 | [],n=>by simp[ep,b8]
 | x::r,n=>by
  rw[show ep n (x::r)=ep (n*x) r from rfl,s6 r,show b8 (x::r)=b8 r*x from rfl,Int.mul_assoc,Int.mul_comm x]
theorem my:∀(l:List Int),(∀x∈l,1≤x)→1≤b8 l
 | [],_=>iY 1
 | x::r,h=>by
  have h1:=my r fun y hy=>h y (ap _ hy);have h2:=h x ar;have:=pi h1 h2 (by omega) (by omega);rw[show b8 (x::r)=b8 r*x from rfl];omega
theorem mz:∀(l:List Int),(∀x∈l,1≤x)→∀k,b8 (l.drop k)≤b8 l
 | [],_,k=>by simp
 | x::r,h,0=>by simp
 | x::r,h,k+1=>by
  have h1:=my r fun y hy=>h y (ap _ hy);have h2:=h x ar;have h3:=mz r (fun y hy=>h y (ap _ hy)) k;have:=j9 h2 (show 0≤b8 r by omega);rw[List.drop_succ_cons,show b8 (x::r)=b8 r*x from rfl];omega
theorem kY:∀(l:List Int),(lF l).length=l.length
 | []=>rfl
 | x::r=>by rw[show lF (x::r)=b8 r::lF r from rfl,bL,kY r,bL]
theorem u9:∀(l:List Int) (k:Nat),k<l.length→ao (lF l) k=b8 (l.drop (k+1))
 | [],k,h=>by simp at h
 | x::r,0,h=>rfl
 | x::r,k+1,h=>by
  rw[List.drop_succ_cons,←u9 r k (by simp at h;omega)];rfl
def dc (d:List Int):List Int:=if hasB d 0 then List.replicate d.length 0 else lF d
theorem fC {d:List Int}(h:(cn d).2=0):d.length≤6∧(∀x∈d,0≤x∧x≤4096)∧(hasB d 0=false→(∀x∈d,1≤x)∧b8 d≤65536∧(cn d).1=b8 d)∧(hasB d 0=true→(cn d).1=0):=by
 unfold cn at h⊢
 by_cases h6:d.length>6
 ·rw[if_pos h6] at h;simp at h
 ·rw[if_neg h6] at h⊢;cases hb:d.any pT with
  | true=>rw[hb] at h;simp at h
  | false=>
   have hg:=Cc hb;rw[hb] at h;simp only[bF,if_false] at h⊢;refine⟨by omega,hg,fun hz=>?_,fun hz=>?_⟩
   ·rw[hz] at h⊢;simp only[bF,if_false] at h⊢
    by_cases h5:ep 1 d>65536
    ·rw[if_pos h5] at h;simp at h
    ·rw[if_neg h5];rw[s6,nI] at h5⊢;refine⟨fun x hx=>?_,by omega,rfl⟩;have:=hg x hx;have:x≠0:=fun e=>by
      subst e;have:=ju.2 hx;rw[this] at hz;cases hz
     omega
   ·rw[hz];rfl
theorem NL (fu:Nat) (d:List Int) (h:(cn d).2=0) (hf:4000000<fu):F.qJ fu d=some (dc d):=by
 obtain⟨h6,hg,hp,_⟩:=fC h;unfold F.qJ F.mu F.qm dc;rw[oK fu d 0 (by omega) hf,ey (by omega)];simp only[aa,bO];cases hz:hasB d 0 with
 | true=>rfl
 | false=>
  obtain⟨h1,h2,_⟩:=hp hz;have hl:=iP (body:=F.kZ fu d) d.length (fun j=>((d.length:Int)-1-(j:Int),d,b8 (d.drop (d.length-j)),List.replicate (d.length-j) 0++lF (d.drop (d.length-j)))) (Ex.bJ (d,b8 d,lF d))
   (fun j hj=>by
    obtain⟨k,hk⟩:∃k:Nat,d.length-j=k+1:=⟨d.length-j-1,by omega⟩;have e1:(d.length:Int)-1-(j:Int)=(k:Int):=by omega
    have hx:=aY (l:=d) (show k<d.length by omega);have e2:d.length-(j+1)=k:=by omega
    have e3:(d.length:Int)-1-((j+1:Nat):Int)=(k:Int)-1:=by omega
    have hg0:(List.replicate (k+1) 0++lF (d.drop (k+1)))[k]?=some (0:Int):=by
     rw[eL (by simp),ko];simp
    have hw:IntKind.i64.wrap ((k:Int)-1)=(k:Int)-1:=i64 (by omega) (by omega);have hd:d.drop k=ao d k::d.drop (k+1):=by
     rw[cM (show k<d.length by omega),←(ai.1 hx).2]
    have q1:=mz d h1 k;have q2:=my (d.drop k) fun x hx=>h1 x (iW hx);rw[e1,e2,e3,hk];rw[hd,show b8 (ao d k::d.drop (k+1))=b8 (d.drop (k+1))*ao d k from rfl] at q1 q2;have hm:IntKind.i64.wrap (b8 (d.drop (k+1))*ao d k)=b8 (d.drop (k+1))*ao d k:=i64 (by omega) (by omega);simp only[F.kZ,ed (show(k:Int)≥0 by omega),cond_true,aC hx,aa,F.rO,aC hg0,hw,hm,bO,fj,cond_false,fP,qD];rw[hd,List.replicate_succ',aR,List.singleton_append,N9 _ _ _ _ k (by simp)];rfl)
   (by
    have e1:¬((d.length:Int)-1-(d.length:Int)≥0):=by omega
    simp only[F.kZ,cB e1,cond_false,Nat.sub_self,List.replicate_zero,jD,gW]) fu (by omega)
  have e0:IntKind.i64.wrap ((d.length:Int)-1)=(d.length:Int)-1-((0:Nat):Int):=by rw[i64 (by omega) (by omega)];simp
  simp only[Nat.sub_zero,jQ] at hl;simp only[cond_false,e0];rw[show(lF ([]:List Int))=[] from rfl,bM,show b8 []=1 from rfl] at hl;have hq:(lF d).length=(List.replicate d.length (0:Int)).length:=by rw[kY,oM]
  rw[hl];simp only[bd,aa,hq,qD,cond_true];simp
def L3 (n x:Int):Int:=IntKind.wrap .i64 (n*x)
theorem OA:∀(l:List Int) (n:Int),1≤n→(∀x∈l,1≤x)→n*b8 l≤65536→l.foldl L3 n=n*b8 l
 | [],n,_,_,_=>by simp[b8]
 | x::r,n,h0,h,hb=>by
  have h1:=my r fun y hy=>h y (ap _ hy);have h2:=h x ar;have e:n*b8 (x::r)=n*x*b8 r:=by
   rw[show b8 (x::r)=b8 r*x from rfl,Int.mul_assoc,Int.mul_comm x]
  rw[e] at hb⊢;have h3:1≤n*x:=by have:=pi h0 h2 (by omega) (by omega);omega
  have h4:n*x≤n*x*b8 r:=by have:=j9 h1 (show 0≤n*x by omega);omega
  have h5:L3 n x=n*x:=i64 (by omega) (by omega);rw[cz,h5];exact OA r (n*x) h3 (fun y hy=>h y (ap _ hy)) hb
theorem sg {α:Type}(l:List α) (k:Nat):eG l (k:Int) (l.length:Int)=l.drop k:=by
 unfold eG;simp only[bO];exact dj (by simp)
theorem NN (fu:Nat) (d:List Int) (h:(cn d).2=0) (hf:4000000<fu):F.nv fu d=some (dc d):=by
 obtain⟨h6,hg,hp,_⟩:=fC h;unfold F.nv;have hlen:(dc d).length=d.length:=by unfold dc;split <;> simp[kY]
 have hl:=iP (body:=F.lf fu d) d.length (fun k=>((k:Int),(dc d).take k)) (dc d)
  (fun k hk=>by
   have hx:=aY hk;have hw:=aT hk (by omega);have hi:=fw (body:=F.lg fu d k) (d.drop (k+1)) (fun j=>(((d.drop (k+1)).take j).foldl L3 1,(j:Int))) ((d.drop (k+1)).foldl L3 1)
    (fun j x hx=>by
     have hw2:=aT (bP hx) (by rw[cf];omega);have hlt:=bP hx;simp only[F.lg,hw,sg,dec_lt hx,cond_true,aC hx,aa,hw2,take_succ hx,eo,cz,eZ];rfl)
    (by simp only[F.lg,hw,sg,bw,cond_false,bK]) fu (by rw[cf];omega)
   rw[dA,show((0:Nat):Int)=0 from rfl,eZ] at hi;have hs:(dc d)[k]?=some (if hasB d 0 then 0 else(d.drop (k+1)).foldl L3 1):=by
    unfold dc;cases hz:hasB d 0 with
    | true=>simp only[if_true];rw[ko,if_pos hk]
    | false=>
     obtain⟨h1,h2,_⟩:=hp hz;simp only[bF,if_false];rw[aY (l:=lF d) (by rw[kY];exact hk),u9 d k hk];have:=mz d h1 (k+1);rw[OA _ 1 (by omega) (fun x hx=>h1 x (iW hx)) (by omega),nI]
   have hlt:=pE hs;simp only[F.lf,dec_lt hx,cond_true,hw,hi,H8 fu d 0 (by omega) hf,aa];rw[ey (by omega),take_succ hs];simp only[aa];have ec:∀n:Int,(cond (hasB d 0) (some (0:Int)) (some n))=some (if hasB d 0 then 0 else n):=fun n=>by cases hasB d 0 <;> rfl
   rw[ec];simp only[aa];rw[cQ (by simp only[ah];omega) (by simp only[ah];omega)];rfl)
  (by
   have:(dc d).take d.length=dc d:=by rw[←hlen];exact bK
   simp only[F.lf,bw,cond_false,this]) fu (by omega)
 rw[dA,show((0:Nat):Int)=0 from rfl] at hl;simp only[hl,aa]
def jS:aK:=⟨0,[],[]⟩
def yz (d:List Int):aK×Int:=if (cn d).2=0 then(⟨0,d,dc d⟩,0) else(jS,(cn d).2)
theorem TN (fu:Nat) (d:List Int) (hd:d.length≤4000000) (hf:4000000<fu):F.u6 fu d=some (yz d):=by
 unfold F.u6 yz;simp only[rq fu d hd hf,aa]
 by_cases h:(cn d).2=0
 ·simp only[bne_false h,cond_false,kP fu d (by omega),NL fu d h hf,aa,if_pos h]
 ·simp only[bne_true h,cond_true,if_neg h];rfl
theorem Rn (fu:Nat) (d:List Int) (hd:d.length≤4000000) (hf:4000000<fu):F.nu fu d=some (yz d):=by
 unfold F.nu yz;simp only[k5 fu d hd hf,aa]
 by_cases h:(cn d).2=0
 ·simp only[bne_false h,cond_false,NN fu d h hf,aa,if_pos h]
 ·simp only[bne_true h,cond_true,if_neg h];rfl
def lV (n:Int):Bool:=decide (n≥-1099511627776)&&decide (n≤1099511627776)
def fo (v:aK):Int:=
 if (cn v.au).2≠0 then(cn v.au).2 else if v.Steps.length≠v.au.length then 6 else if (!(lV v.Start)||v.Steps.any fun s=>!(lV s)) then 4 else 0
theorem Oz (fu:Nat) (n:Int):F.ub fu n=some (lV n):=by unfold F.ub;rw[M9];rfl
theorem S7 (fu:Nat) (n:Int):F.mP fu n=some (!(lV n)):=by
 unfold F.mP;rw[cc];simp only[aa];congr 1;unfold lV;rw[mn];simp;omega
theorem Uy (fu:Nat) (s:List Int) (hs:s.length≤4000000) (hf:4000000<fu):F.kw fu s=some (s.any fun s=>!(lV s)):=by
 obtain⟨r,h1,h2⟩:=xV s (F.rP fu) (fun s=>!(lV s)) (fun x=>by unfold F.rP;rw[Oz];rfl) (by omega) fu (by omega);have h3:aP (F.rp fu s) fu 0=some r:=h1;unfold F.kw F.pp;cases r with
 | bJ _=>
  simp only at h2;simp only[h3,bd,aa,h2];rfl
 | ret i=>
  simp only at h2;simp only[h3,bd,aa,h2.2];simpa using h2.1
theorem sW (fu:Nat) (v:aK) (hd:v.au.length≤4000000) (hs:v.Steps.length≤4000000) (hf:4000000<fu):F.kW fu v=some (fo v):=by
 unfold F.kW fo;simp only[rq fu v.au hd hf,aa]
 by_cases h:(cn v.au).2=0
 ·rw[if_neg (by omega),bne_false h,cond_false]
  by_cases h2:v.Steps.length=v.au.length
  ·rw[if_neg (by omega),bne_false (by omega),cond_false];simp only[Oz,Uy fu _ hs hf,aa,cc];cases (!(lV v.Start)||v.Steps.any fun s=>!(lV s)) <;> rfl
  ·rw[if_pos (by omega),bne_true (by omega),cond_true]
 ·rw[if_pos h,bne_true h,cond_true]
theorem ua (fu:Nat) (v:aK) (hd:v.au.length≤4000000) (hs:v.Steps.length≤4000000) (hf:4000000<fu):F.gE fu v=some (fo v):=by
 unfold F.gE fo;simp only[k5 fu v.au hd hf,aa]
 by_cases h:(cn v.au).2=0
 ·rw[if_neg (by omega),bne_false h,cond_false]
  by_cases h2:v.Steps.length=v.au.length
  ·rw[if_neg (by omega),bne_false (by omega),cond_false];simp only[S7,aa];cases lV v.Start with
   | false=>rfl
   | true=>
    have hl:=nL (body:=F.ld fu v) v.Steps (fun k=>(k:Int)) (fun s=>if !(lV s) then some (Ex.ret 4:Ex Unit Int) else none) (Ex.bJ ())
     (fun k x hx=>by
      have hw:=aT (bP hx) (by omega);simp only[F.ld,dec_lt hx,cond_true,aC hx,aa,hw,S7];cases lV x <;> rfl)
     (by simp only[F.ld,bw,cond_false]) fu (by omega)
    rw[show((0:Nat):Int)=0 from rfl] at hl;rw[fj,cond_false,hl,gP];cases v.Steps.any fun s=>!(lV s) <;> rfl
  ·rw[if_pos (by omega),bne_true (by omega),cond_true]
 ·rw[if_pos h,bne_true h,cond_true]
theorem mo {v:aK}(h:fo v=0):(cn v.au).2=0∧v.Steps.length=v.au.length∧lV v.Start=true∧∀s∈v.Steps,lV s=true:=by
 unfold fo at h;split at h
 ·omega
 ·split at h
  ·omega
  ·split at h
   ·omega
   ·rename_i h1 h2 h3;rw[Bool.not_eq_true,bi,fV] at h3;refine⟨by omega,by omega,by simpa using h3.1,fun s hs=>by simpa using h3.2 s hs⟩
end Go.DN.Pl
