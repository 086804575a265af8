/-
  Graphs: tidying, said: the order in which nodes are needed, what they are then.
-/
import Derived.Test.YtongekoajbcliaaGreatDoorKeA
set_option linter.unusedSimpArgs false
set_option linter.unusedVariables false
set_option maxRecDepth 20000
namespace Go.DN.Pl
open Go.AM Go.PL
theorem R6:∀(n:Nat){l:List Int},l.Nodup→(∀x∈l,0≤x∧x<(n:Int))→l.length≤n
 | 0,l,_,h=>by
  cases l with
  | nil=>exact aG _
  | cons x r=>have:=h x ar;omega
 | n+1,l,hn,h=>by
  have h1:=R6 n (l:=l.erase (n:Int)) (hn.erase _) (fun x hx=>by
   have h2:=(hn.mem_erase_iff).1 hx;have h3:=h x h2.2;have h4:=h2.1;omega)
  rw[List.length_erase] at h1;split at h1 <;> omega
def dn (x y:aq):Bool:=FP x.Op y.Op&&decide (x.cH=y.cH)
theorem xc {x y:aq}:dn x y=true↔x=y:=by
 constructor
 ·intro h;obtain⟨⟨k,a,b,c,d,e,v⟩,g⟩:=x;obtain⟨⟨k',a',b',c',d',e',v'⟩,g'⟩:=y;simp only[dn,FP,af,decide_eq_true_eq,beq_iff_eq] at h;obtain⟨⟨rfl,rfl,rfl,rfl,rfl,rfl,rfl⟩,rfl⟩:=h;rfl
 ·rintro rfl;simp[dn,PJ]
theorem Ms (x y:aq):decide (tj y=tj x)=dn x y:=by
 cases h:dn x y with
 | true=>rw[xc.1 h];exact decide_eq_true rfl
 | false=>
  refine decide_eq_false fun e=>?_;rw[xc.2 (UT e).symm] at h;cases h
def DR (k:Nat):List aq→List pf
 | []=>[]
 | y::r=>⟨tj y,(k:Int)⟩::DR (k+1) r
def kn (st:List aq):List pf:=DR 0 st
theorem OM (x:aq):∀(st:List aq) (k:Nat),DR k (st++[x])=DR k st++[⟨tj x,((k+st.length:Nat):Int)⟩]
 | [],k=>rfl
 | y::r,k=>by
  rw[bU,DR,DR,OM x r (k+1),bL,bU];congr 5;omega
theorem EJ (x:aq):∀(st:List aq) (k:Nat),List.find? (fun a:pf=>decide (a.Key=tj x)) (DR k st)=if st.any (dn x) then some ⟨tj x,((k+st.findIdx (dn x):Nat):Int)⟩ else none
 | [],k=>rfl
 | y::r,k=>by
  rw[DR,List.find?_cons,mU,List.findIdx_cons];dsimp only;rw[Ms];cases h:dn x y with
  | true=>
   rw[xc.1 h];rfl
  | false=>
   dsimp only;rw[EJ x r (k+1),fW,cond_false];rw[show k+1+r.findIdx (dn x)=k+(r.findIdx (dn x)+1) by omega]
theorem SE (st:List aq) (x:aq):xI (kn st) (tj x)=st.any (dn x):=by
 unfold xI kn;rw[EJ];cases st.any (dn x) <;> rfl
theorem SF {st:List aq}{x:aq}(h:st.any (dn x)=true):xJ (kn st) (tj x)=(st.findIdx (dn x):Int):=by
 unfold xJ kn;rw[EJ,h,da];rfl
theorem ON (x:aq):∀(st:List aq) (k:Nat),List.any (DR k st) (fun b=>decide (b.Key=tj x))=st.any (dn x)
 | [],_=>rfl
 | y::r,k=>by rw[DR,mU,mU,ON x r (k+1),Ms]
theorem SD {st:List aq}{x:aq}(h:st.any (dn x)=false):xH (kn st) (tj x) (st.length:Int)=kn (st++[x]):=by
 unfold xH kn;rw[ON,h,cond_false,OM,da]
theorem Ho {st:List aq}{x:aq}(h:st.any (dn x)=true):st.isEmpty=false:=by
 cases st with
 | nil=>cases h
 | cons=>rfl
theorem sA {st:List aq}{x:aq}(h:st.any (dn x)=false):st.findIdx (dn x)=st.length:=
 List.findIdx_eq_length.2 fun y hy=>by
  have:=fV.1 h y hy;simpa using this
theorem xZ {st:List aq}{x:aq}(h:st.any (dn x)=true):st.findIdx (dn x)<st.length:=
 List.findIdx_lt_length.2 (List.any_eq_true.1 h)
theorem U9 {l t:List gN}{i:Int}(h:nO l i=true):jk (l++t) i=jk l i:=by
 unfold nO at h;unfold jk;rw[List.find?_append];cases hf:List.find? (fun a:gN=>decide (a.Key=i)) l with
 | none=>rw[hf] at h;cases h
 | some a=>rfl
theorem U6 {l:List gN}{i:Int}:nO l i=true↔i∈l.map (·.Key):=by
 unfold nO;rw[List.find?_isSome];simp
theorem LH {l:List gN}{i v:Int}(h:i∉l.map (·.Key)):xK l i v=l++[⟨i,v⟩]:=by
 unfold xK;have:List.any l (fun b=>decide (b.Key=i))=false:=by
  rw[fV];intro a ha;simp only[decide_eq_true_eq];intro e;exact h (fc.2 ⟨a,ha,e⟩)
 rw[this,cond_false]
theorem JD {l:List gN}{i v:Int}(h:i∉l.map (·.Key)):jk (l++[⟨i,v⟩]) i=v:=by
 unfold jk;rw[List.find?_append];have:List.find? (fun a:gN=>decide (a.Key=i)) l=none:=by
  rw[List.find?_eq_none];intro a ha;simp only[decide_eq_true_eq];intro e;exact h (fc.2 ⟨a,ha,e⟩)
 rw[this];simp
theorem JC {l:List gN}{i:Int}(h:i∉l.map (·.Key)):jk l i=0:=by
 unfold jk;have:List.find? (fun a:gN=>decide (a.Key=i)) l=none:=by
  rw[List.find?_eq_none];intro a ha;simp only[decide_eq_true_eq];intro e;exact h (fc.2 ⟨a,ha,e⟩)
 rw[this]
theorem U8 {l:List gN}{B:Int}(hB:0≤B) (h:∀e∈l,0≤e.zl∧e.zl≤B) (i:Int):0≤jk l i∧jk l i≤B:=by
 unfold jk;split
 ·rename_i a ha;exact h a (List.mem_of_find?_eq_some ha)
 ·exact⟨iY _,hB⟩
def nd (nodes:List aq) (i:Int):aq:=nodes.getD i.toNat ⟨⟨0,[],[],[],[],[],0⟩,[]⟩
theorem F9 {nodes:List aq}{i:Int}(h0:0≤i) (h1:i<(nodes.length:Int)):idx nodes i=some (nd nodes i)∧nodes[i.toNat]?=some (nd nodes i)∧nd nodes i∈nodes:=by
 obtain⟨x,h2,h3⟩:=YJ h0 h1;have:nd nodes i=x:=by unfold nd;rw[bZ,h3];rfl
 rw[this];exact⟨h2,h3,aj h3⟩
def qs (st:List aq) (x:aq):List aq:=if st.any (dn x) then st else st++[x]
def li (nodes:List aq) (es:List gN) (i:Int):aq:=⟨dP (nd nodes i).Op,(nd nodes i).cH.map (jk es)⟩
def stepT (nodes:List aq) (s:List aq×List gN) (i:Int):List aq×List gN:=
 (qs s.1 (li nodes s.2 i),s.2++[⟨i,(s.1.findIdx (dn (li nodes s.2 i)):Int)⟩])
def runT (nodes:List aq) (l:List Int):List aq×List gN:=l.foldl (stepT nodes) ([],[])
theorem zz (nodes:List aq) (l:List Int) (i:Int):runT nodes (l++[i])=stepT nodes (runT nodes l) i:=by
 unfold runT;rw[eo];rfl
theorem GI (nodes:List aq):∀(l:List Int) (s:List aq×List gN),(l.foldl (stepT nodes) s).2.map (·.Key)=s.2.map (·.Key)++l
 | [],s=>(bM _).symm
 | i::r,s=>by
  rw[cz,GI nodes r];unfold stepT;simp
theorem ru (nodes:List aq) (l:List Int):(runT nodes l).2.map (·.Key)=l:=GI nodes l ([],[])
theorem JL (nodes:List aq):∀(l:List Int) (s:List aq×List gN),∃u,(l.foldl (stepT nodes) s).2=s.2++u
 | [],s=>⟨[],(bM _).symm⟩
 | i::r,s=>by
  obtain⟨u,h⟩:=JL nodes r (stepT nodes s i);rw[cz,h];exact⟨_,by unfold stepT;rw[aR]⟩
theorem RP (nodes:List aq) (l t:List Int):∃u,(runT nodes (l++t)).2=(runT nodes l).2++u:=by
 unfold runT;rw[eo];exact JL nodes t _
theorem H7 {nodes:List aq}{l:List Int}{i:Int}:nO (runT nodes l).2 i=true↔i∈l:=by
 rw[U6,ru]
def num (nodes:List aq) (l:List Int) (i:Int):Int:=jk (runT nodes l).2 i
theorem L0 {nodes:List aq}{l:List Int}(t:List Int){i:Int}(h:i∈l):num nodes (l++t) i=num nodes l i:=by
 obtain⟨u,hu⟩:=RP nodes l t;unfold num;rw[hu,U9 (H7.2 h)]
theorem NB (st:List aq) (x:aq):(qs st x).length≤st.length+1:=by
 unfold qs;split <;> simp
theorem JK (nodes:List aq):∀(l:List Int) (s:List aq×List gN),(l.foldl (stepT nodes) s).1.length≤s.1.length+l.length
 | [],s=>aG _
 | i::r,s=>by
  have h1:=JK nodes r (stepT nodes s i);have h2:=NB s.1 (li nodes s.2 i);rw[cz,bL];unfold stepT at h1⊢;dsimp only at h1;omega
theorem zy (nodes:List aq) (l:List Int):(runT nodes l).1.length≤l.length:=by
 have:=JK nodes l ([],[]);rw[jE,da] at this;exact this
theorem JJ (nodes:List aq) (B:Nat):∀(l:List Int) (s:List aq×List gN),s.1.length+l.length≤B→(∀e∈s.2,0≤e.zl∧e.zl≤(B:Int))→∀e∈(l.foldl (stepT nodes) s).2,0≤e.zl∧e.zl≤(B:Int)
 | [],s,_,h=>h
 | i::r,s,hb,h=>by
  rw[cz];rw[bL] at hb;refine JJ nodes B r (stepT nodes s i) ?_ ?_
  ·have:=NB s.1 (li nodes s.2 i);unfold stepT;dsimp only;omega
  ·intro e he;unfold stepT at he;rcases dl.1 he with he | he
   ·exact h e he
   ·rw[c8.1 he];have:s.1.findIdx (dn (li nodes s.2 i))≤s.1.length:=List.findIdx_le_length;dsimp only;omega
theorem Xa (nodes:List aq) (l:List Int) (i:Int):0≤num nodes l i∧num nodes l i≤(l.length:Int):=
 U8 (by omega) (JJ nodes l.length l ([],[]) (by simp) (fun e he=>by cases he)) i
def whole (nodes:List aq):Nat→Int→List Int→List Int
 | 0,_,done=>done
 | k+1,i,done=>if i∈done then done else(nd nodes i).cH.foldl (fun d a=>whole nodes k a d) done++[i]
def Rt (nodes:List aq):Prop:=∀i,0≤i→i<(nodes.length:Int)→∀a∈(nd nodes i).cH,0≤a∧a<i
def xf (n:Nat) (l:List Int):Prop:=l.Nodup∧∀x∈l,0≤x∧x<(n:Int)
theorem yI {n:Nat}{l:List Int}(h:xf n l):l.length≤n:=R6 n h.1 h.2
theorem EX {f:List Int→Int→List Int}(hf:∀d a,∃t,f d a=d++t):∀(l d:List Int),∃t,l.foldl f d=d++t
 | [],d=>⟨[],(bM _).symm⟩
 | a::r,d=>by
  obtain⟨t,ht⟩:=hf d a;obtain⟨u,hu⟩:=EX hf r (f d a);rw[cz,hu,ht];exact⟨t++u,by rw[aR]⟩
theorem wY (nodes:List aq):∀(k:Nat) (i:Int) (d:List Int),∃t,whole nodes k i d=d++t
 | 0,_,d=>⟨[],(bM _).symm⟩
 | k+1,i,d=>by
  unfold whole;split
  ·exact⟨[],(bM _).symm⟩
  ·obtain⟨t,ht⟩:=EX (f:=fun d a=>whole nodes k a d) (fun d a=>wY nodes k a d) (nd nodes i).cH d;rw[ht];exact⟨t++[i],by rw[aR]⟩
theorem Rm (nodes:List aq){k:Nat}(hk:0<k) (i:Int) (d:List Int):i∈whole nodes k i d:=by
 match k,hk with
 | k+1,_=>
  unfold whole;split
  ·rename_i h;exact h
  ·exact ct _ ar
theorem I3 {nodes:List aq}(hR:Rt nodes):∀(k:Nat) (i:Int) (d:List Int),0≤i→i<(nodes.length:Int)→i<(k:Int)→xf nodes.length d→
  xf nodes.length (whole nodes k i d)∧∀x∈whole nodes k i d,x∈d∨x≤i
 | 0,i,d,h0,_,hk,_=>by omega
 | k+1,i,d,h0,h1,hk,hd=>by
  unfold whole;split
  ·exact⟨hd,fun x hx=>.inl hx⟩
  ·rename_i hi;have key:∀(l d':List Int),(∀a∈l,0≤a∧a<i)→xf nodes.length d'→xf nodes.length (l.foldl (fun d a=>whole nodes k a d) d')∧∀x∈l.foldl (fun d a=>whole nodes k a d) d',x∈d'∨x<i:=by
    intro l
    induction l with
    | nil=>intro d' _ h;exact⟨h,fun x hx=>.inl hx⟩
    | cons a r ih=>
     intro d' hl h;have ha:=hl a ar;obtain⟨q1,q2⟩:=I3 hR k a d' ha.1 (by omega) (by omega) h;obtain⟨q3,q4⟩:=ih (whole nodes k a d') (fun b hb=>hl b (ap _ hb)) q1;rw[cz];refine⟨q3,fun x hx=>?_⟩;rcases q4 x hx with h4 | h4
     ·rcases q2 x h4 with h5 | h5
      ·exact .inl h5
      ·exact .inr (by omega)
     ·exact .inr h4
   obtain⟨p1,p2⟩:=key (nd nodes i).cH d (hR i h0 h1) hd;refine⟨⟨List.nodup_append.2 ⟨p1.1,by simp,fun x hx y hy e=>?_⟩,fun x hx=>?_⟩,fun x hx=>?_⟩
   ·rw[c8.1 hy] at e;subst e;rcases p2 x hx with h4 | h4
    ·exact hi h4
    ·omega
   ·rcases dl.1 hx with hx | hx
    ·exact p1.2 x hx
    ·rw[c8.1 hx];exact⟨h0,h1⟩
   ·rcases dl.1 hx with hx | hx
    ·exact(p2 x hx).imp id (by omega)
    ·rw[c8.1 hx];exact .inr (iY _)
end Go.DN.Pl
