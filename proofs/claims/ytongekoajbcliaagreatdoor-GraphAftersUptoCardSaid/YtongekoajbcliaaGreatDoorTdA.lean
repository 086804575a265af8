/-
  Graphs: tidying, said: the order in which nodes are needed, what they are then.
-/
import Derived.Test.YtongekoajbcliaaGreatDoorKeA
set_option linter.all false
set_option maxRecDepth 20000
namespace Go.DN.Pl
open Go.AM Go.PL
def SM:∀(n:Nat){l:List Int},l.Nodup->(∀x∈l,0<=x/\x<(n:Int))->l.length<=n|0,l,_,h=>(by cases l with|nil=>exact aH _|cons x r=>have:=h x au;omega)|n+1,l,b,h=>by have a:=SM n (l:=l.erase (n:Int)) (b.erase _) (fun x d=>by have c:=(b.mem_erase_iff).1 d;have f:=h x c.2;have e:=c.1;omega);rw[List.length_erase] at a;split at a <;> omega
def dA(x y:ai):Bool:=Gj x.Op y.Op&&decide (x.bU=y.bU)
def xB{x y:ai}:dA x y=true↔x=y:=by constructor;intro h;obtain⟨⟨k,a,b,c,d,e,v⟩,g⟩:=x;obtain⟨⟨i,j,l,m,n,o,p⟩,f⟩:=y;simp only[dA,Gj,ag,decide_eq_true_eq,beq_iff_eq] at h;obtain⟨⟨rfl,rfl,rfl,rfl,rfl,rfl,rfl⟩,rfl⟩:=h;rfl;rintro rfl;simp[dA,Qq]
def M0(x y:ai):decide (tJ y=tJ x)=dA x y:=by cases h:dA x y with|true=>rw[xB.1 h];exact decide_eq_true rfl|false=>refine decide_eq_false fun e=>?_;rw[xB.2 (Vz e).symm] at h;cases h
def Ek(k:Nat):List ai->List pC|[]=>[]|y::r=>⟨tJ y,(k:Int)⟩::Ek (k+1) r
def kn(st:List ai):List pC:=Ek 0 st
def Pq(x:ai):∀(st:List ai) (k:Nat),Ek k (st++[x])=Ek k st++[⟨tJ x,((k+st.length:Nat):Int)⟩]|[],k=>rfl|y::r,k=>by rw[b7,Ek,Ek,Pq x r (k+1),bQ,b7];congr 5;omega
def Fb(x:ai):∀(st:List ai) (k:Nat),List.find? (fun a:pC=>decide (a.Key=tJ x)) (Ek k st)=if st.any (dA x) then some ⟨tJ x,((k+st.findIdx (dA x):Nat):Int)⟩ else none|[],k=>rfl|y::r,k=>by rw[Ek,List.find?_cons,ni,List.findIdx_cons];dsimp only;rw[M0];cases h:dA x y with|true=>rw[xB.1 h];rfl|false=>dsimp only;rw[Fb x r (k+1),gm,cond_false];rw[show k+1+r.findIdx (dA x)=k+(r.findIdx (dA x)+1) by omega]
def Tk(st:List ai)(x:ai):ye (kn st) (tJ x)=st.any (dA x):=by unfold ye kn;rw[Fb];cases st.any (dA x) <;> rfl
def Tl{st:List ai}{x:ai}(h:st.any (dA x)=true):yf (kn st) (tJ x)=(st.findIdx (dA x):Int):=by unfold yf kn;rw[Fb,h,dl];rfl
def Pr(x:ai):∀(st:List ai) (k:Nat),List.any (Ek k st) (fun b=>decide (b.Key=tJ x))=st.any (dA x)|[],_=>rfl|y::r,k=>by rw[Ek,ni,ni,Pr x r (k+1),M0]
def Tj{st:List ai}{x:ai}(h:st.any (dA x)=false):yd (kn st) (tJ x) (st.length:Int)=kn (st++[x]):=by unfold yd kn;rw[Pr,h,cond_false,Pq,dl]
def HU{st:List ai}{x:ai}(h:st.any (dA x)=true):st.isEmpty=false:=by cases st with|nil=>cases h|cons=>rfl
def sQ{st:List ai}{x:ai}(h:st.any (dA x)=false):st.findIdx (dA x)=st.length:=List.findIdx_eq_length.2 fun y a=>by have:=gk.1 h y a;simpa using this
def yz{st:List ai}{x:ai}(h:st.any (dA x)=true):st.findIdx (dA x)<st.length:=List.findIdx_lt_length.2 (List.any_eq_true.1 h)
def VO{l t:List gU}{i:Int}(h:od l i=true):jx (l++t) i=jx l i:=by unfold od at h;unfold jx;rw[List.find?_append];cases b:List.find? (fun a:gU=>decide (a.Key=i)) l with|none=>rw[b] at h;cases h|some a=>rfl
def VL{l:List gU}{i:Int}:od l i=true↔i∈l.map (·.Key):=by unfold od;rw[List.find?_isSome];simp
def Me{l:List gU}{i v:Int}(h:i∉l.map (·.Key)):yg l i v=l++[⟨i,v⟩]:=by
 unfold yg;have:List.any l (fun b=>decide (b.Key=i))=false:=by rw[gk];intro a c;simp only[decide_eq_true_eq];intro e;exact h (eL.2 ⟨a,c,e⟩)
 rw[this,cond_false]
def Ka{l:List gU}{i v:Int}(h:i∉l.map (·.Key)):jx (l++[⟨i,v⟩]) i=v:=by
 unfold jx;rw[List.find?_append];have:List.find? (fun a:gU=>decide (a.Key=i)) l=none:=by rw[List.find?_eq_none];intro a b;simp only[decide_eq_true_eq];intro e;exact h (eL.2 ⟨a,b,e⟩)
 rw[this];simp
def J9{l:List gU}{i:Int}(h:i∉l.map (·.Key)):jx l i=0:=by
 unfold jx;have:List.find? (fun a:gU=>decide (a.Key=i)) l=none:=by rw[List.find?_eq_none];intro a b;simp only[decide_eq_true_eq];intro e;exact h (eL.2 ⟨a,b,e⟩)
 rw[this]
def VN{l:List gU}{B:Int}(c:0<=B)(h:∀e∈l,0<=e.zL/\e.zL<=B)(i:Int):0<=jx l i/\jx l i<=B:=by unfold jx;split;rename_i a b;exact h a (List.mem_of_find?_eq_some b);exact⟨jh _,c⟩
def nd(nodes:List ai)(i:Int):ai:=nodes.getD i.toNat ⟨⟨0,[],[],[],[],[],0⟩,[]⟩
def GI{nodes:List ai}{i:Int}(b:0<=i)(h1:i<(nodes.length:Int)):idx nodes i=some (nd nodes i)/\nodes[i.toNat]?=some (nd nodes i)/\nd nodes i∈nodes:=by
 obtain⟨x,c,a⟩:=Tw b h1;have:nd nodes i=x:=by unfold nd;rw[bl,a];rfl
 rw[this];exact⟨c,a,ak a⟩
def qI(st:List ai)(x:ai):List ai:=if st.any (dA x) then st else st++[x]
def lC(nodes:List ai)(es:List gU)(i:Int):ai:=⟨dS (nd nodes i).Op,(nd nodes i).bU.map (jx es)⟩
def stepT(nodes:List ai)(s:List ai×List gU)(i:Int):List ai×List gU:=(qI s.1 (lC nodes s.2 i),s.2++[⟨i,(s.1.findIdx (dA (lC nodes s.2 i)):Int)⟩])
def runT(nodes:List ai)(l:List Int):List ai×List gU:=l.foldl (stepT nodes) ([],[])
def zY(nodes:List ai)(l:List Int)(i:Int):runT nodes (l++[i])=stepT nodes (runT nodes l) i:=by unfold runT;rw[eA];rfl
def Hk(nodes:List ai):∀(l:List Int) (s:List ai×List gU),(l.foldl (stepT nodes) s).2.map (·.Key)=s.2.map (·.Key)++l|[],s=>(bR _).symm|i::r,s=>by rw[cE,Hk nodes r];unfold stepT;simp
def rL(nodes:List ai)(l:List Int):(runT nodes l).2.map (·.Key)=l:=Hk nodes l ([],[])
def Kp(nodes:List ai):∀(l:List Int) (s:List ai×List gU),∃u,(l.foldl (stepT nodes) s).2=s.2++u|[],s=>⟨[],(bR _).symm⟩|i::r,s=>by obtain⟨u,h⟩:=Kp nodes r (stepT nodes s i);rw[cE,h];exact⟨_,by unfold stepT;rw[aS]⟩
def Sx(nodes:List ai)(l t:List Int):∃u,(runT nodes (l++t)).2=(runT nodes l).2++u:=by unfold runT;rw[eA];exact Kp nodes t _
def IJ{nodes:List ai}{l:List Int}{i:Int}:od (runT nodes l).2 i=true↔i∈l:=by rw[VL,rL]
def num(nodes:List ai)(l:List Int)(i:Int):Int:=jx (runT nodes l).2 i
def Mw{nodes:List ai}{l:List Int}(t:List Int){i:Int}(h:i∈l):num nodes (l++t) i=num nodes l i:=by obtain⟨u,a⟩:=Sx nodes l t;unfold num;rw[a,VO (IJ.2 h)]
def Oa(st:List ai)(x:ai):(qI st x).length<=st.length+1:=by unfold qI;split <;> simp
def Ko(nodes:List ai):∀(l:List Int) (s:List ai×List gU),(l.foldl (stepT nodes) s).1.length<=s.1.length+l.length|[],s=>aH _|i::r,s=>by have a:=Ko nodes r (stepT nodes s i);have b:=Oa s.1 (lC nodes s.2 i);rw[cE,bQ];unfold stepT at a|-;dsimp only at a;omega
def zX(nodes:List ai)(l:List Int):(runT nodes l).1.length<=l.length:=by have:=Ko nodes l ([],[]);rw[fg,dl] at this;exact this
def Kn(nodes:List ai)(B:Nat):∀(l:List Int) (s:List ai×List gU),s.1.length+l.length<=B->(∀e∈s.2,0<=e.zL/\e.zL<=(B:Int))->∀e∈(l.foldl (stepT nodes) s).2,0<=e.zL/\e.zL<=(B:Int)|[],s,_,h=>h|i::r,s,b,h=>by rw[cE];rw[bQ] at b;refine Kn nodes B r (stepT nodes s i) ?_ ?_;have:=Oa s.1 (lC nodes s.2 i);unfold stepT;dsimp only;omega;intro e a;unfold stepT at a;rcases dy.1 a with a|a;exact h e a;rw[dj.1 a];have:s.1.findIdx (dA (lC nodes s.2 i))<=s.1.length:=List.findIdx_le_length;dsimp only;omega
def XL(nodes:List ai)(l:List Int)(i:Int):0<=num nodes l i/\num nodes l i<=(l.length:Int):=VN (by omega) (Kn nodes l.length l ([],[]) (by simp) (fun e a=>by cases a)) i
def whole(nodes:List ai):Nat->Int->List Int->List Int|0,_,b=>b|k+1,i,b=>if i∈b then b else(nd nodes i).bU.foldl (fun d a=>whole nodes k a d) b++[i]
def Rt(nodes:List ai):Prop:=∀i,0<=i->i<(nodes.length:Int)->∀a∈(nd nodes i).bU,0<=a/\a<i
def xE(n:Nat)(l:List Int):Prop:=l.Nodup/\∀x∈l,0<=x/\x<(n:Int)
def zf{n:Nat}{l:List Int}(h:xE n l):l.length<=n:=SM n h.1 h.2
def Fq{f:List Int->Int->List Int}(hf:∀d a,∃t,f d a=d++t):∀(l d:List Int),∃t,l.foldl f d=d++t|[],d=>⟨[],(bR _).symm⟩|a::r,d=>by obtain⟨t,c⟩:=hf d a;obtain⟨u,b⟩:=Fq hf r (f d a);rw[cE,b,c];exact⟨t++u,by rw[aS]⟩
def xt(nodes:List ai):∀(k:Nat) (i:Int) (d:List Int),∃t,whole nodes k i d=d++t|0,_,d=>⟨[],(bR _).symm⟩|k+1,i,d=>by unfold whole;split;exact⟨[],(bR _).symm⟩;obtain⟨t,b⟩:=Fq (f:=fun d a=>whole nodes k a d) (fun d a=>xt nodes k a d) (nd nodes i).bU d;rw[b];exact⟨t++[i],by rw[aS]⟩
def R1(nodes:List ai){k:Nat}(a:0<k)(i:Int)(d:List Int):i∈whole nodes k i d:=by match k,a with|k+1,_=>unfold whole;split;rename_i h;exact h;exact cA _ au
def JA{nodes:List ai}(p:Rt nodes):∀(k:Nat) (i:Int) (d:List Int),0<=i->i<(nodes.length:Int)->i<(k:Int)->xE nodes.length d->xE nodes.length (whole nodes k i d)/\∀x∈whole nodes k i d,x∈d\/x<=i|0,i,d,m,_,D,_=>by omega|k+1,i,d,m,q,D,s=>by unfold whole;split;exact⟨s,fun x c=>.inl c⟩;rename_i v;(have j:∀(l f:List Int),(∀a∈l,0<=a/\a<i)->xE nodes.length f->xE nodes.length (l.foldl (fun d a=>whole nodes k a d) f)/\∀x∈l.foldl (fun d a=>whole nodes k a d) f,x∈f\/x<i:=by intro l;induction l with|nil=>intro f _ h;exact⟨h,fun x c=>.inl c⟩|cons a r E=>intro f n h;have G:=n a au;obtain⟨w,z⟩:=JA p k a f G.1 (by omega) (by omega) h;obtain⟨A,B⟩:=E (whole nodes k a f) (fun b C=>n b (ar _ C)) w;rw[cE];refine⟨A,fun x c=>?_⟩;rcases B x c with g|g;rcases z x g with o|o;exact .inl o;exact .inr (by omega);exact .inr g);obtain⟨t,u⟩:=j (nd nodes i).bU d (p i m q) s;refine⟨⟨List.nodup_append.2 ⟨t.1,by simp,fun x c y F e=>?_⟩,fun x c=>?_⟩,fun x c=>?_⟩;rw[dj.1 F] at e;subst e;rcases u x c with g|g;exact v g;omega;rcases dy.1 c with c|c;exact t.2 x c;rw[dj.1 c];exact⟨m,q⟩;rcases dy.1 c with c|c;exact(u x c).imp id (by omega);rw[dj.1 c];exact .inr (jh _)
end Go.DN.Pl
