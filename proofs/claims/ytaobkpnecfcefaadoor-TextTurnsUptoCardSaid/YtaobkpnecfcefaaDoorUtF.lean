/-
  Text, turning: programs read again; the law.
-/
import Derived.Test.YtaobkpnecfcefaaDoorUtE
set_option linter.unusedVariables false
set_option linter.unusedSimpArgs false
set_option linter.unusedSectionVars false
namespace Go.DN
open Go.AM
variable {X:jk}
def gT (g:cJ):List ByteArray:=tok (kr g)
theorem LU (g:cJ):gT g=g.Name::ByteArray.mk #[58]::tok (gI g.nz):=by
 unfold gT kr
 simp only[eE];rfl
theorem Fv {β:Type}{g:cJ}{i:Nat}(ho:Fc g) (hb:kS g=true) (h:eg X i (gT g)) (k:cJ→Nat→R β):
  ((jT X i).bind fun s i=>(cg X (ByteArray.mk #[58]) i).bind fun _ i=>(lZ X i).bind fun ds i=>k ⟨s,ds⟩ i)=k g (i+(gT g).length):=by
 unfold kS at hb
 rw[ag] at hb
 rw[LU] at h⊢
 rw[su h.hd hb.1]
 show(cg X _ _).bind _=_
 rw[il h.tl.hd]
 show(lZ X _).bind _=_
 rw[Cw ho hb.2 h.tl.tl]
 show k _ _=_
 simp only[aZ]
 congr 1;omega
theorem N3:∀(gs:List cJ) (acc:List cJ) (i m:Nat),(∀g∈gs,Fc g)→gs.all kS=true→0<acc.length→eg X i (more gT gs++[ByteArray.mk #[41]])→gs.length<m→fe X m i acc=.ok (acc++gs) (i+(more gT gs).length)
 | gs,acc,i,0,_,_,_,_,h=>by omega
 | [],acc,i,m+1,_,_,_,h,_=>by
  unfold fe
  rw[if_pos (p5 (eg.hd h)),bL];rfl
 | x::r,acc,i,m+1,ho,hb,ha,h,hm=>by
  simp only[fC,ag] at hb
  have e:more gT (x::r)=ByteArray.mk #[44]::(gT x++more gT r):=by unfold more;simp
  rw[e] at h⊢
  have hd:=eg.hd h
  have h1:eg X (i+1) (gT x++(more gT r++[ByteArray.mk #[41]])):=by rw[bd,aA] at h;exact eg.tl h
  have ih:=N3 r (acc++[x]) (i+1+(gT x).length) m (fun y hy=>ho y (ap _ hy)) hb.2 (by simp) h1.right (by simp only[aZ] at hm;omega)
  unfold fe
  rw[oJ hd (kC (by decide)),if_neg (by decide),if_pos ha,il hd]
  have:=Fv (X:=X) (ho x au) hb.1 h1.left fun g j=>fe X m j (acc++[g])
  refine Eq.trans this ?_
  show fe X m _ (acc++[x])=_
  rw[ih,aA]
  simp only[aZ,ak]
  congr 1;omega
theorem LQ {gs:List cJ}{i:Nat}(ho:∀g∈gs,Fc g) (hb:gs.all kS=true) (h:eg X i (tok (fq [w [44],sp] (gs.map kr))++[ByteArray.mk #[41]])):
  fe X (X.L.length-i+1) i []=.ok gs (i+(tok (fq [w [44],sp] (gs.map kr))).length):=by
 cases gs with
 | nil=>
  unfold fe
  rw[if_pos (p5 (eg.hd h))];rfl
 | cons x r=>
  simp only[fC,ag] at hb
  rw[Bf] at h⊢
  have h:eg X i (gT x++more gT r++[ByteArray.mk #[41]]):=h
  show _=R.ok _ (i+(gT x++more gT r).length)
  have hlt:=h.lt (by decide)
  rw[aA] at h
  have hml:=BK gT r
  rw[ak] at hlt
  have hd:X.tx i=x.Name:=by have h2:=h.left;rw[LU] at h2;exact h2.hd
  have hql:0<(gT x).length:=by rw[LU];simp
  have hnm:nm x.Name=true:=by have:=hb.1;unfold kS at this;rw[ag] at this;exact this.1
  have ih:=N3 (X:=X) r [x] (i+(gT x).length) (X.L.length-i) (fun y hy=>ho y (ap _ hy)) hb.2 (by simp) h.right (by omega)
  unfold fe
  rw[oJ hd (wQ hnm (by decide)),if_neg (by decide),if_neg (by simp)]
  have:=Fv (X:=X) (ho x au) hb.1 h.left fun g j=>fe X (X.L.length-i) j ([]++[g])
  refine Eq.trans this ?_
  show fe X _ _ ([]++[x])=_
  rw[cX,ih,ak,nR];rfl
theorem Bg (f:br):tok (lB f)=ByteArray.mk #[102,110]::f.Name::ByteArray.mk #[40]::(tok (fq [w [44],sp] (f.cy.map kr))++(ByteArray.mk #[41]::ByteArray.mk #[61]::(tk f.Body++[ByteArray.mk #[59]]))):=by
 unfold lB
 simp only[eE,aA];rfl
theorem N5 {f:br}{i:Nat}(ho:okF f) (hb:kE f=true) (hm:kZ f=false) (h:eg X i (tok (lB f))):xI X i=.ok f (i+(tok (lB f)).length):=by
 unfold kE at hb
 rw[ag,ag] at hb
 unfold kZ at hm
 rw[bc,decide_eq_false_iff_not,decide_eq_false_iff_not] at hm
 rw[Bg] at h⊢
 have h3:=h.tl.tl.tl
 have g1:eg X (i+1+1+1) (tok (fq [w [44],sp] (f.cy.map kr))++[ByteArray.mk #[41]]):=fun k q hq=>h3 k q (by
  by_cases hk:k<(tok (fq [w [44],sp] (f.cy.map kr))).length
  ·rw[cd hk] at hq⊢;exact hq
  ·rw[dj (by omega)] at hq⊢
   have hl:=nH hq
   simp only[cY] at hl
   have:k-(tok (fq [w [44],sp] (f.cy.map kr))).length=0:=by omega
   rw[this] at hq⊢;exact hq)
 have h4:=h3.right
 have h5:=h4.tl.tl
 have hr:=Fi (X:=X) _ f.Body (aq _) ho.2 hb.2.2 (by omega)
 have h59:=h5.right.hd
 unfold xI
 rw[il h.hd]
 show(jT X _).bind _=_
 rw[su h.tl.hd hb.1]
 show(cg X _ _).bind _=_
 rw[il h.tl.tl.hd]
 show(fe X _ _ []).bind _=_
 rw[LQ ho.1 hb.2.1 g1]
 show(cg X _ _).bind _=_
 rw[il h4.tl.hd]
 show(pE X 64 _).bind _=_
 rw[hr.d 63 _ (by omega) h5.left (s9 h59 (.inr (.inr (.inl rfl))))]
 show(cg X _ _).bind _=_
 rw[il h59]
 show R.ok _ _=_
 simp only[aZ,ak,dY]
 congr 1;omega
theorem E8:∀(p:List br) (acc:List br) (i m:Nat),JR p→p.all kE=true→p.any kZ=false→eg X i (tok (iD p))→i+(tok (iD p)).length=X.L.length→p.length<m→qU X m i acc=.ok (acc++p) X.L.length
 | p,acc,i,0,_,_,_,_,_,h=>by omega
 | [],acc,i,m+1,_,_,_,_,he,_=>by
  have he:i=X.L.length:=he
  unfold qU
  rw[if_neg (by omega),bL,he]
 | f::r,acc,i,m+1,ho,hb,hm,h,he,hl=>by
  simp only[fC,ag] at hb
  simp only[List.any_cons,bc] at hm
  have e:tok (iD (f::r))=tok (lB f)++tok (iD r):=by
   have:iD (f::r)=lB f++iD r:=by simp[iD]
   rw[this,eE]
  rw[e] at h he
  have h0:0<(tok (lB f)).length:=by rw[Bg];simp
  rw[ak] at he
  have ih:=E8 r (acc++[f]) (i+(tok (lB f)).length) m (fun y hy=>ho y (ap _ hy)) hb.2 hm.2 h.right (by omega) (by simp only[aZ] at hl;omega)
  unfold qU
  rw[if_pos (by omega),N5 (ho f au) hb.1 hm.1 h.left]
  show qU X m _ (acc++[f])=_
  rw[ih,aA];rfl
theorem Hx:∀p:List br,p.length≤(tok (iD p)).length
 | []=>cv _
 | f::r=>by
  have ih:=Hx r
  have e:tok (iD (f::r))=tok (lB f)++tok (iD r):=by
   have:iD (f::r)=lB f++iD r:=by simp[iD]
   rw[this,eE]
  rw[e,Bg];simp only[aZ,ak];omega
theorem OK {s:ByteArray}{m:List UInt8}(h:s.data.toList=m):At s 0 m:=⟨[],[],by rw[h];simp,rfl⟩
theorem Ch {fu:Nat}(hf:3<fu):F.mD fu=some true:=by
 have hl:ByteArray.size (ByteArray.mk #[97,32,98])=3:=rfl
 obtain⟨j,ts,h1,h2,h3⟩:=Ly (t:=ByteArray.mk #[97,32,98]) (by rw[hl];decide) [w [97],sp,w [98]] 0 (Gi.cons (BR (by decide) (by decide)) (Gi.cons jW (Gi.cons (BR (by decide) (by decide)) Gi.nil))) (by rw[iC pL];rfl) (OK rfl) rfl
 have h4:=h2 []
 rw[cX] at h4
 have h5:=Jw (fu:=fu) (by rw[hl];decide) (by rw[hl];exact hf) h1 h4
 have h6:ts.length=2:=by have:=congrArg List.length h3;rw[aN] at this;exact this
 unfold F.mD
 rw[h5]
 simp only[aa,h6]
 rfl
theorem RN {ts:List ah}{l:List ByteArray}(h:ts.map (·.Text)=l) (hX:X.L=ts):eg X 0 l:=fun k s hk=>by
 rw[←h,ar] at hk
 unfold jk.tx
 rw[hX,cr]
 cases ht:ts[k]? with
 | none=>rw[ht] at hk;cases hk
 | some t=>rw[ht] at hk;exact eR hk
theorem MO {p:List br}(ho:JR p) (hb:p.all kE=true) (hm:p.any kZ=false) (hz:(jl p).length≤Mx):Mz p∧∀fu,Mx+66≤fu→F.sU fu (n8 p)=some (p,⟨0,0⟩):=by
 have hsz:(n8 p).size=(jl p).length:=by
  unfold n8 strOf
  show(List.toArray _).size=_
  simp
 obtain⟨g1,g2⟩:=Fu ho hb
 have hby:=Lb p
 obtain⟨j,ts,h1,h2,h3⟩:=Ly (t:=n8 p) (by omega) (iD p) 0 g1 g2 (OK hby) (by rw[←hby,cr];exact Array.length_toList)
 have hr:=h2 []
 rw[cX] at hr
 have hf:=h1.facts
 have hl:=RJ hr (by simp) (hf.2.1 (cv _))
 have hl:ts.length≤(n8 p).size:=hl
 have hok:=TU (by omega) hr (fun t h=>by cases h)
 obtain⟨X,hX,he⟩:∃X:jk,X.L=ts∧X.en=((n8 p).size:Int):=⟨⟨ts,((n8 p).size:Int),hok,by omega⟩,rfl,rfl⟩
 have hlen:(tok (iD p)).length=X.L.length:=by rw[hX,←h3,aN]
 have hpl:=Hx p
 have hrd:=E8 (X:=X) p [] 0 (X.L.length+1) ho hb hm (RN h3 hX) (by omega) (by omega)
 have hg:=HF (X:=X) (X.L.length+1) 0 [] (cv _) (by have:=X.sz;simp;omega) (fun f h=>by cases h)
 rw[hrd,cX] at hg
 refine⟨hg.2.2,fun fu hfu=>?_⟩
 have ht:F.mn fu (n8 p)=some (X.L,⟨0,0⟩):=by rw[hX];exact Jw (by omega) (by omega) h1 hr
 rw[Tx (s:=n8 p) (fu:=fu) X he ht (by omega),hrd];rfl
theorem G7 {p:List br}(ho:JR p) (hw:dG ox p≤1048576):∃fu,F.iB fu p=some true:=by
 have key:∀fu,5000000≤fu→F.qL fu p=some (wL p):=fun fu h=>Nr (by omega) hw ho
 by_cases hb:p.all kE=true
 ·by_cases hm:p.any kZ=true∨65536<(jl p).length
  ·refine⟨5000000,?_⟩
   unfold F.iB
   rw[Ch (by omega),key _ (aq _)]
   unfold wL
   rw[if_pos hb,if_pos hm];rfl
  ·have hm':p.any kZ=false:=by cases h:p.any kZ with
    | false=>rfl
    | true=>exact absurd (.inl h) hm
   have hz:(jl p).length≤Mx:=by show _≤65536;omega
   obtain⟨h1,h2⟩:=MO ho hb hm' hz
   obtain⟨n,hn⟩:=Je h1
   refine⟨5000000+n,?_⟩
   unfold F.iB
   rw[Ch (by omega),key _ (by omega)]
   unfold wL
   rw[if_pos hb,if_neg hm]
   simp only[aa,de,cond_false]
   rw[h2 _ (by show 65536+66≤_;omega)]
   simp only[aa,hn (5000000+n) (by omega)]
   rfl
 ·refine⟨5000000,?_⟩
  unfold F.iB
  rw[Ch (by omega),key _ (aq _)]
  unfold wL
  rw[if_neg hb];rfl
end Go.DN
