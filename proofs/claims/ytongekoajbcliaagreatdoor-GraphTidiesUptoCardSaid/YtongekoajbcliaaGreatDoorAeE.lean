/-
  Arrays: the plain law: what an operation makes is the same in both.
-/
import Derived.Test.YtongekoajbcliaaGreatDoorAeD
set_option linter.unusedSimpArgs false
set_option linter.unusedVariables false
set_option maxRecDepth 20000
namespace Go.DN.Pl
open Go.AM Go.PL
theorem PR {k:Int}{n:Nat}(h:kR k n=0):eF k≠-2∧(eF k≥0→eF k=n)∧(eF k=-1→n≠0):=by
 unfold kR at h;split at h
 ·omega
 ·rename_i h1;split at h
  ·omega
  ·rename_i h2;refine⟨h1,fun h3=>?_,fun h3=>?_⟩
   ·apply mg;intro h4;exact h2 (.inl ⟨h3,h4⟩)
   ·intro h4;exact h2 (.inr ⟨h3,h4⟩)
theorem B7 {α:Type}{l:List α}(h:l.length=1):∃a,l=[a]:=by
 match l,h with
 | [a],_=>exact⟨a,rfl⟩
theorem UN {α:Type}{l:List α}(h:l.length=2):∃a b,l=[a,b]:=by
 match l,h with
 | [a,b],_=>exact⟨a,b,rfl⟩
theorem WU (fu:Nat) (op:cy) (args:List (List Int)) (ho:vZ op) (ha:yJ args) (hf:4000000<fu) (h0:kR op.Kind args.length=0) (h1:jN rT args=0):∃r,RS fu op args r:=by
 have hfit:F.gv fu op args=some 0:=by rw[Ib fu op args ha hf,if_neg (by omega),h1]
 obtain⟨m1,m2,m3⟩:=PR h0;have hz:∀a∈args,(cn a).2=0:=xX h1;have hl:∀a∈args,a.length≤6:=fun a h=>(k4 (hz a h)).1;have al:=ha.1;have same:(op.Kind=3∨op.Kind=4∨op.Kind=5∨op.Kind=6∨op.Kind=7∨op.Kind=8)→args≠[]→∃r,RS fu op args r:=fun hk hne=>by
  cases args with
  | nil=>exact absurd rfl hne
  | cons a r=>exact⟨_,YB fu op ho hf hk a r (hl a ar) (fun x hx=>hl x (ap _ hx)) (by simp only[bL] at al;omega) hfit⟩
 have ne:∀{m:Int},0<m→eF op.Kind=m→args≠[]:=fun hm h e=>by
  subst e;have:=m2 (by omega);simp at this;omega
 rcases kinds op.Kind with h | h | h
 ·rcases h with h | h | h | h | h | h | h | h | h
  ·exact⟨_,YE fu op ho hf h args hfit⟩
  ·exact same (by omega) (ne (m:=2) (by omega) (by rw[h];rfl))
  ·exact same (by omega) (ne (m:=2) (by omega) (by rw[h];rfl))
  ·exact same (by omega) (ne (m:=2) (by omega) (by rw[h];rfl))
  ·exact same (by omega) (ne (m:=2) (by omega) (by rw[h];rfl))
  ·exact same (by omega) (ne (m:=2) (by omega) (by rw[h];rfl))
  ·exact same (by omega) (ne (m:=3) (by omega) (by rw[h];rfl))
  ·obtain⟨a,rfl⟩:=B7 (l:=args) (by have:=m2 (by rw[h];decide);rw[h,show eF 9=1 from rfl] at this;omega);exact⟨_,Gp fu op ho hf (by omega) a [] (hz a ar) hfit⟩
  ·obtain⟨a,rfl⟩:=B7 (l:=args) (by have:=m2 (by rw[h];decide);rw[h,show eF 10=1 from rfl] at this;omega);exact⟨_,ZP fu op ho hf h a [] (hl a ar) hfit⟩
 ·rcases h with h | h | h | h | h | h | h | h | h
  ·obtain⟨a,rfl⟩:=B7 (l:=args) (by have:=m2 (by rw[h];decide);rw[h,show eF 11=1 from rfl] at this;omega);exact⟨_,Gp fu op ho hf (by omega) a [] (hz a ar) hfit⟩
  ·obtain⟨a,rfl⟩:=B7 (l:=args) (by have:=m2 (by rw[h];decide);rw[h,show eF 12=1 from rfl] at this;omega);exact⟨_,YD fu op ho hf h a [] (hz a ar) hfit⟩
  ·obtain⟨a,rfl⟩:=B7 (l:=args) (by have:=m2 (by rw[h];decide);rw[h,show eF 13=1 from rfl] at this;omega);exact⟨_,Gp fu op ho hf (by omega) a [] (hz a ar) hfit⟩
  ·obtain⟨a,rfl⟩:=B7 (l:=args) (by have:=m2 (by rw[h];decide);rw[h,show eF 14=1 from rfl] at this;omega);exact⟨_,ZR fu op ho hf h a [] (hz a ar) hfit⟩
  ·obtain⟨a,rfl⟩:=B7 (l:=args) (by have:=m2 (by rw[h];decide);rw[h,show eF 15=1 from rfl] at this;omega);exact⟨_,Gp fu op ho hf (by omega) a [] (hz a ar) hfit⟩
  ·obtain⟨a,b,rfl⟩:=UN (l:=args) (by have:=m2 (by rw[h];decide);rw[h,show eF 16=2 from rfl] at this;omega);exact⟨_,ZS fu op ho hf h a b [] (hl a ar) (hl b (ap _ ar)) hfit⟩
  ·cases args with
   | nil=>exact absurd rfl (m3 (by rw[h];rfl))
   | cons a r=>exact⟨_,YC fu op ho hf h a r hz (by simp only[bL] at al;omega) hfit⟩
  ·obtain⟨a,b,rfl⟩:=UN (l:=args) (by have:=m2 (by rw[h];decide);rw[h,show eF 18=2 from rfl] at this;omega);exact⟨_,YA fu op ho hf h a b [] (hl a ar) (hl b (ap _ ar)) hfit⟩
  ·obtain⟨a,b,rfl⟩:=UN (l:=args) (by have:=m2 (by rw[h];decide);rw[h,show eF 19=2 from rfl] at this;omega);exact⟨_,ZQ fu op ho hf h a b [] (hl a ar) (hl b (ap _ ar)) hfit⟩
 ·exfalso;apply m1;have ne:∀c:Int,2≤c→c≤19→(op.Kind==c)=false:=fun c h1 h2=>by simp;omega
  unfold eF;simp only[ne 2 (by omega) (by omega),ne 3 (by omega) (by omega),ne 4 (by omega) (by omega),ne 5 (by omega) (by omega),ne 6 (by omega) (by omega),ne 7 (by omega) (by omega),ne 8 (by omega) (by omega),ne 9 (by omega) (by omega),ne 10 (by omega) (by omega),ne 11 (by omega) (by omega),ne 12 (by omega) (by omega),ne 13 (by omega) (by omega),ne 14 (by omega) (by omega),ne 15 (by omega) (by omega),ne 16 (by omega) (by omega),ne 17 (by omega) (by omega),ne 18 (by omega) (by omega),ne 19 (by omega) (by omega),cF,cond_false]
theorem Tk (fu:Nat) (op:cy) (args:List (List Int)) (ho:vZ op) (ha:yJ args) (hf:4000000<fu):
  ∃r:List Int×Int,F.fe fu op args=some r∧F.ig fu op args=some r∧r.1.length≤6∧(r.2=0→(cn r.1).2=0∧kR op.Kind args.length=0∧jN rT args=0∧∃q,RS fu op args q∧r=wo q):=by
 by_cases h0:kR op.Kind args.length=0
 ·by_cases h1:jN rT args=0
  ·obtain⟨r,r1,r2,r3⟩:=WU fu op args ho ha hf h0 h1;refine⟨wo r,r1,VA fu op args ha h0 h1 r r2 r3 hf,Vi r,fun h=>⟨?_,h0,h1,r,⟨r1,r2,r3⟩,rfl⟩⟩;unfold wo at h⊢;split at h
   ·rename_i h2;simp at h;omega
   ·rename_i h2;split at h
    ·rename_i h3;simp at h;omega
    ·rename_i h3;rw[if_neg h2,if_neg h3];exact mg fun h4=>h3 h4
  ·refine⟨([],jN rT args),?_,?_,by simp,fun h=>absurd h h1⟩
   ·unfold F.fe;rw[Ib fu op args ha hf,if_neg (by omega)];simp only[aa,bne_true h1,cond_true]
   ·unfold F.ig;rw[En,h0];simp only[aa];have hl:=xh (body:=F.gI fu args) args (fun k=>(k:Int)) (fun a=>(tu (rT a)).map fun e=>(([]:List Int),e))
     (fun k x hx=>by
      have hw:=aT (bP hx) (by have:=ha.1;omega);simp only[F.gI,dec_lt hx,cond_true,aC hx,aa,hw,k5 fu x (by have:=ha.2 x (aj hx);omega) hf];unfold rT
      by_cases h:(cn x).2=0
      ·rw[bne_false h,h,uy];rfl
      ·rw[bne_true h,pN h];rfl)
     (by simp only[F.gI,bw,cond_false]) fu (by have:=ha.1;omega)
    rw[show((0:Nat):Int)=0 from rfl] at hl;have hl2:(args.findSome? fun a=>(tu (rT a)).map fun e=>(([]:List Int),e))=(tu (jN rT args)).map fun e=>(([]:List Int),e):=by
     rw[←D0];clear hl h1 h0 ha
     induction args with
     | nil=>rfl
     | cons x r ih=>
      rw[dT,dT];cases tu (rT x) with
      | none=>exact ih
      | some e=>rfl
    rw[hl2,pN h1] at hl;rw[show((0:Int) !=0)=false from rfl,cond_false,hl];rfl
 ·refine⟨([],kR op.Kind args.length),?_,?_,by simp,fun h=>absurd h h0⟩
  ·unfold F.fe;rw[Ib fu op args ha hf,if_pos h0];simp only[aa,bne_true h0,cond_true]
  ·unfold F.ig;rw[En];simp only[aa,bne_true h0,cond_true]
end Go.DN.Pl
