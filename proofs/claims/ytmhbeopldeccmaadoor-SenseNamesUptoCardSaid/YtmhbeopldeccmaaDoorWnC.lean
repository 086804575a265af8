/-
  Sense, names: the plain law: the program's Wrong.
-/
import Derived.Test.YtmhbeopldeccmaaDoorWnB
set_option maxRecDepth 20000
set_option linter.unusedVariables false
set_option linter.unusedSimpArgs false
namespace Go.DN
open Go.AM
def ir (q:List bB) (n:ByteArray):Option bB:=q.find? fun f=>cr f.Name n
def Am (q:List bB) (n:ByteArray):Option Int:=(ir q n).map fun f=>(f.aB.length:Int)
def Dm (gs:List eT):lL:=fun n=>gs.any fun g=>g.cV.any fun d=>cr d.Name n
def Km (gs:List eT):lL:=fun n=>gs.any fun g=>cr g.Name n
def ng:lL→List eT→Bool
 | _,[]=>false
 | K,g::r=>K g.Name||ng (fun n=>cr g.Name n||K n) r
def kr (q:List bB) (f:bB):Int:=
 if (cY f.Name).Kind≠0∨(ir q f.Name).isSome=true then 8
 else if ng (fun _=>false) f.aB=true then 8
 else jo (Dm f.aB) (Am q) f.Body (Km f.aB)
def fY:List bB→List bB→Int
 | _,[]=>0
 | q,f::r=>if kr q f=0 then fY (q++[f]) r else kr q f
theorem Cu:∀(l:List jJ) (n:ByteArray),du l n=l.any fun a=>cr a.Key n
 | [],n=>rfl
 | a::r,n=>by
  have ih:=Cu r n
  unfold du at ih⊢
  rw[mG,cG,←vz]
  cases decide (a.Key=n) with
  | true=>rfl
  | false=>simpa using ih
theorem fF (a:jJ) (r:List jJ) (n:ByteArray):ik (a::r) n=if cr a.Key n=true then a.Ox else ik r n:=by
 unfold ik
 rw[mG,←vz]
 cases decide (a.Key=n) <;> rfl
theorem H4 (l:List jJ) (k:ByteArray):(l.any fun b=>decide (b.Key=k))=l.any fun a=>cr a.Key k:=by
 congr 1
 funext b
 exact vz _ _
theorem Hf (k:ByteArray) (v:Int) (n:ByteArray):∀l:List jJ,(l.map fun b=>bif decide (b.Key=k) then(⟨k,v⟩:jJ) else b).any (fun a=>cr a.Key n)=l.any fun a=>cr a.Key n
 | []=>rfl
 | a::r=>by
  rw[az,cG,cG,Hf k v n r]
  congr 1
  cases h:decide (a.Key=k) with
  | true=>rw[cond_true,of_decide_eq_true h]
  | false=>rfl
theorem BX (k:ByteArray) (v:Int) (n:ByteArray):∀l:List jJ,(l.any fun a=>cr a.Key k)=true→ik (l.map fun b=>bif decide (b.Key=k) then(⟨k,v⟩:jJ) else b) n=if cr k n=true then v else ik l n
 | [],h=>by cases h
 | a::r,h=>by
  rw[az,fF,fF]
  cases hd:decide (a.Key=k) with
  | true=>
   have e:=of_decide_eq_true hd
   rw[cond_true,e]
   by_cases hn:cr k n=true
   ·rw[if_pos hn,if_pos hn]
   ·rw[if_neg hn,if_neg hn,if_neg hn]
    cases hr:r.any fun a=>cr a.Key k with
    | true=>rw[BX k v n r hr,if_neg hn]
    | false=>
     congr 1
     conv=>rhs;rw[←List.map_id r]
     refine fB fun b hb=>?_
     have:decide (b.Key=k)=false:=by
      rw[vz]
      cases hq:cr b.Key k with
      | false=>rfl
      | true=>rw[List.any_eq_false] at hr;exact absurd hq (hr b hb)
     rw[this];rfl
  | false=>
   rw[cond_false]
   rw[cG,←vz,hd,fx] at h
   rw[BX k v n r h]
   by_cases ha:cr a.Key n=true
   ·rw[if_pos ha,if_pos ha]
    have:¬cr k n=true:=fun e=>by
     have e1:=mY.1 ha
     have e2:=mY.1 e
     rw[decide_eq_true (e1.trans e2.symm)] at hd;cases hd
    rw[if_neg this]
   ·rw[if_neg ha,if_neg ha]
theorem Hp (l:List jJ) (k n:ByteArray) (v:Int):du (jR l k v) n=(cr k n||du l n):=by
 rw[Cu,Cu]
 unfold jR
 rw[H4]
 cases h:l.any fun a=>cr a.Key k with
 | true=>
  rw[cond_true,Hf]
  cases hk:cr k n with
  | false=>rfl
  | true=>
   have e:=mY.1 hk
   subst e
   rw[h];rfl
 | false=>
  rw[cond_false,fk,cG,fH,di,qa]
theorem OR (l:List jJ) (k n:ByteArray) (v:Int):ik (jR l k v) n=if cr k n=true then v else ik l n:=by
 unfold jR
 rw[H4]
 cases h:l.any fun a=>cr a.Key k with
 | true=>rw[cond_true,BX k v n l h]
 | false=>
  rw[cond_false]
  induction l with
  | nil=>rw[jd,fF]
  | cons a r ih=>
   rw[cG,bO] at h
   rw[ca,fF,fF,ih h.2]
   by_cases ha:cr a.Key n=true
   ·have:¬cr k n=true:=fun e=>by
     have e1:=mY.1 ha
     have e2:=mY.1 e
     rw[mY.2 (e1.trans e2.symm)] at h;cases h.1
    rw[if_pos ha,if_pos ha,if_neg this]
   ·rw[if_neg ha,if_neg ha]
theorem CS.put {m:ap}{q:List bB}{f:bB}(h:CS m (Am q)) (hn:ir q f.Name=none):CS ⟨jR m.Es f.Name (f.aB.length:Int)⟩ (Am (q++[f])):=by
 intro n
 obtain⟨h1,h2⟩:=h n
 have e:ir (q++[f]) n=if cr f.Name n=true then some f else ir q n:=by
  unfold ir
  rw[List.find?_append]
  by_cases hq:cr f.Name n=true
  ·have:=mY.1 hq
   subst this
   unfold ir at hn
   rw[hn,if_pos hq,mG,hq];rfl
  ·rw[if_neg hq,mG,gE.2 hq]
   simp
 rw[Hp,OR]
 unfold Am at h1 h2⊢
 rw[e]
 by_cases hq:cr f.Name n=true
 ·rw[if_pos hq,if_pos hq,hq];exact⟨rfl,rfl⟩
 ·rw[if_neg hq,if_neg hq,gE.2 hq,fx]
  exact⟨h1,h2⟩
theorem Ln {fu:Nat}{g:eT}(hf:g.cV.length<fu) (hl:g.cV.length≤1048576) (m:ap):∃m',aW (F.mI fu g) fu (0,m)=some m'∧∀n,du m'.Es n=(du m.Es n||g.cV.any fun d=>cr d.Name n):=by
 obtain⟨r,h1,h2⟩:=dh (body:=F.mI fu g) g.cV (fun k st=>∃m',st=((k:Int),m')∧∀n,du m'.Es n=(du m.Es n||(g.cV.take k).any fun d=>cr d.Name n)) (fun r=>∀n,du r.Es n=(du m.Es n||g.cV.any fun d=>cr d.Name n)) (by
  rintro k x st hx ⟨m',rfl,hm⟩
  have hk:=dR hx
  refine .inl ⟨((k+1:Nat),⟨jR m'.Es x.Name (IntKind.wrap .i64 ((ik m'.Es x.Name)+1))⟩),?_,_,rfl,fun n=>?_⟩
  ·simp only[F.mI,dec_lt hx,cond_true,cc hx,aa,gF hk (by omega)]
  ·rw[Hp,hm,dD,hx]
   simp only[mb,fk,cG,fH,di]
   rw[qa,kA]) (by
  rintro st ⟨m',rfl,hm⟩
  rw[kC] at hm
  exact⟨m',by simp only[F.mI,dj,cond_false],hm⟩) g.cV.length 0 fu (0,m) (by omega) (by omega) hf ⟨m,rfl,fun n=>by simp⟩
 exact⟨r,h1,h2⟩
theorem Bp {K K':lL}(h:∀n,K n=K' n) (l:List eT):ng K l=ng K' l:=by rw[funext h]
theorem Ji {fu:Nat}{f:bB}(hf:f.aB.length<fu) (hl:f.aB.length≤1048576) (hd:∀g∈f.aB,g.cV.length<fu∧g.cV.length≤1048576):
  ∃r,aW (F.j9 fu f) fu ((none:Option cM),0,(⟨[]⟩:ap))=some r∧
   if ng (fun _=>false) f.aB=true then r=.ret (.inr (.ret (.inl 8))) else ∃s m l,r=.bw (s,m)∧GR l s∧l.length=f.aB.length∧(∀n,(l.any fun x=>cr x n)=Km f.aB n)∧∀n,du m.Es n=Dm f.aB n:=by
 obtain⟨r,h1,h2⟩:=dh (body:=F.j9 fu f) f.aB (fun k st=>∃s m l,st=(s,(k:Int),m)∧GR l s∧l.length=k∧(∀n,(l.any fun x=>cr x n)=Km (f.aB.take k) n)∧(∀n,du m.Es n=Dm (f.aB.take k) n)∧ng (fun _=>false) f.aB=ng (Km (f.aB.take k)) (f.aB.drop k))
   (fun r=>if ng (fun _=>false) f.aB=true then r=.ret (.inr (.ret (.inl 8))) else ∃s m l,r=.bw (s,m)∧GR l s∧l.length=f.aB.length∧(∀n,(l.any fun x=>cr x n)=Km f.aB n)∧∀n,du m.Es n=Dm f.aB n) (by
  rintro k x st hx ⟨s,m,l,rfl,hs,hll,hK,hD,hdup⟩
  have hk:=dR hx
  have hdr:f.aB.drop k=x::f.aB.drop (k+1):=by
   rw[b9 hk]
   congr 1
   exact dx ((ao hk).symm.trans hx)
  rw[hdr] at hdup
  simp only[ng] at hdup
  obtain⟨v,hv⟩:=HL (fu:=fu) (n:=x.Name) hs (by omega)
  rw[hK] at hv
  cases hq:Km (f.aB.take k) x.Name with
  | true=>
   rw[hq] at hv hdup
   refine .inr ⟨.ret (.inr (.ret (.inl 8))),?_,?_⟩
   ·simp only[F.j9,dec_lt hx,cond_true,cc hx,aa,hv,fX,dL,cond_false]
   ·rw[hdup,Bool.true_or,if_pos rfl]
  | false=>
   rw[hq,fx] at hdup
   rw[hq] at hv
   obtain⟨d1,d2⟩:=hd x (mem_of hx)
   obtain⟨m',hm1,hm2⟩:=Ln d1 d2 m
   refine .inl ⟨(some ⟨x.Name,0,s⟩,((k+1:Nat):Int),m'),?_,some ⟨x.Name,0,s⟩,m',x.Name::l,rfl,⟨_,rfl,rfl,hs⟩,by simp[hll],fun n=>?_,fun n=>?_,?_⟩
   ·simp only[F.j9,dec_lt hx,cond_true,cc hx,aa,hv,fX,eE,F.iE,hm1,gF hk (by omega)]
   ·rw[cG,hK]
    unfold Km
    rw[dD,hx]
    simp only[mb,fk,cG,fH,di]
    rw[qa]
   ·rw[hm2,hD]
    unfold Dm
    rw[dD,hx]
    simp only[mb,fk,cG,fH,di]
   ·rw[hdup]
    refine Bp (fun n=>?_) _
    unfold Km
    rw[dD,hx]
    simp only[mb,fk,cG,fH,di]
    rw[qa]) (by
  rintro st ⟨s,m,l,rfl,hs,hll,hK,hD,hdup⟩
  rw[jx] at hdup
  rw[kC] at hK hD
  have hdup:ng (fun _=>false) f.aB=false:=hdup
  refine⟨.bw (s,m),by simp only[F.j9,dj,cond_false],?_⟩
  rw[hdup,if_neg (by simp)]
  exact⟨s,m,l,rfl,hs,hll,hK,hD⟩) f.aB.length 0 fu _ (by omega) (by omega) hf ⟨none,⟨[]⟩,[],rfl,rfl,rfl,fun n=>rfl,fun n=>rfl,Bp (fun n=>rfl) _⟩
 exact⟨r,h1,h2⟩
theorem JS {fu:Nat}{p:List bB}(hf:4*bu eI p+60<fu) (hw:bu eI p≤1048576) (ho:De p):F.sy fu p=some (if (lq p).2=0 then fY [] p else(lq p).2):=by
 have hpl:p.length≤(p.map eI).sum:=dI (w:=eI) (fun x=>by unfold eI gM;omega) p
 have hwl:bu eI p=(p.map eI).sum+1:=rfl
 unfold F.sy F.ti
 rw[KE (by omega) hw ho]
 simp only[aa]
 by_cases he:(lq p).2=0
 ·have e0:((lq p).2 !=0)=false:=by simpa using he
  rw[e0,cond_false,if_pos he]
  obtain⟨r,h1,h2⟩:=dh (body:=F.j8 fu p) p (fun k st=>∃m,st=((k:Int),m)∧CS m (Am (p.take k))∧fY [] p=fY (p.take k) (p.drop k)) (fun r=>∃m,r=if fY [] p=0 then .bw m else .ret (.inl (fY [] p))) (by
   rintro k f st hx ⟨m,rfl,hA,hS⟩
   have hk:=dR hx
   have hdr:p.drop k=f::p.drop (k+1):=by
    rw[b9 hk]
    congr 1
    exact dx ((ao hk).symm.trans hx)
   rw[hdr] at hS
   simp only[fY] at hS
   have htk:p.take (k+1)=p.take k++[f]:=by rw[dD,hx];rfl
   have hwf:eI f≤(p.map eI).sum:=pE (mem_of hx)
   have hgl:f.aB.length≤(f.aB.map eO).sum:=dI (w:=eO) (fun x=>by unfold eO;omega) f.aB
   have hwf2:eI f=gM f.Name+((f.aB.map eO).sum+1)+bD f.Body+1:=rfl
   have hgd:∀g∈f.aB,g.cV.length<fu∧g.cV.length≤1048576:=fun g hg=>by
    have h1:eO g≤(f.aB.map eO).sum:=pE hg
    have h2:g.cV.length≤(g.cV.map dP).sum:=dI (w:=dP) (fun x=>by unfold dP;omega) g.cV
    have h3:eO g=gM g.Name+((g.cV.map dP).sum+1)+1:=rfl
    omega
   obtain⟨b,hb,_⟩:=wT fu f.Name
   have e42:F.w8 fu f=F.j9 fu f:=rfl
   obtain⟨a1,a2⟩:=hA f.Name
   have hfs:du m.Es f.Name=(ir (p.take k) f.Name).isSome:=by rw[a1];unfold Am;cases ir (p.take k) f.Name <;> rfl
   have hE:∀(E:Int),E≠0→fY [] p=E→∃m,(Ex.ret (.inl E):Ex ap (Int⊕((Int×Int)×Unit)))=if fY [] p=0 then .bw m else .ret (.inl (fY [] p)):=fun E h0 h=>⟨m,by rw[h,if_neg h0]⟩
   by_cases hq:(ir (p.take k) f.Name).isSome=true
   ·have hF:kr (p.take k) f=8:=if_pos (.inr hq)
    rw[hF,if_neg (by decide)] at hS
    refine .inr ⟨.ret (.inl 8),?_,hE 8 (by decide) hS⟩
    simp only[F.j8,dec_lt hx,cond_true,cc hx,aa,hb,hfs,hq,dL,cond_false,fX]
   ·have hq:=gE.2 hq
    by_cases hr:(cY f.Name).Kind=0
    ·have hr0:((cY f.Name).Kind !=0)=false:=by simpa using hr
     obtain⟨r,g1,g2⟩:=Ji (fu:=fu) (f:=f) (by omega) (by omega) hgd
     have hbody:F.j8 fu p ((k:Int),m)=br (fun r=>r) (some r:Option (Ex ((Option cM)×ap) ((Int×ap)⊕(Ex ap (Int⊕((Int×Int)×Unit)))))) fun ((s22,m23):(Option cM)×ap)=>
       aV (F.dG fu f.Body s22 m m23)
        (fun ((r24,r25):ap×ap)=>some (.inl (((k+1:Nat):Int),(⟨jR r24.Es f.Name (f.aB.length:Int)⟩:ap))))
        (fun ((e26,e27),(r28,r29))=>some (.inr (.ret (.inl e26)))):=by
      simp only[F.j8,dec_lt hx,cond_true,cc hx,aa,hb,hfs,hq,hr0,eE,fX,g1,gT,gF hk (show p.length≤9223372036854775807 by omega)]
     rw[hbody]
     cases hdup:ng (fun _=>false) f.aB with
     | true=>
      have hF:kr (p.take k) f=8:=by
       unfold kr
       rw[if_neg (by rw[hq,hr];simp),hdup,if_pos rfl]
      rw[hF,if_neg (by decide)] at hS
      rw[hdup,if_pos rfl] at g2
      subst g2
      exact .inr ⟨_,rfl,hE 8 (by decide) hS⟩
     | false=>
      rw[hdup,if_neg (by simp)] at g2
      obtain⟨s,m',l,rfl,hs,hll,hK,hD⟩:=g2
      have ht:=zp (m2:=m) (m3:=m') (D:=Dm f.aB) (A:=Am (p.take k)) hA (fun n _=>hD n) _ f.Body (ar _) fu s l (by omega) (by omega) hs
      rw[show(fun n=>l.any fun x=>cr x n)=Km f.aB from funext hK] at ht
      have hF:kr (p.take k) f=jo (Dm f.aB) (Am (p.take k)) f.Body (Km f.aB):=by
       unfold kr
       rw[if_neg (by rw[hq,hr];simp),hdup,if_neg (by simp)]
      rw[←hF] at ht
      simp only[br,ht]
      by_cases h0:kr (p.take k) f=0
      ·have e:mj (kr (p.take k) f) m m'=.inl (m,m'):=if_pos h0
       rw[if_pos h0] at hS
       rw[e]
       refine .inl ⟨_,rfl,_,rfl,?_,by rw[htk];exact hS⟩
       rw[htk]
       exact hA.put (by cases h:ir (p.take k) f.Name with | none=>rfl | some _=>rw[h] at hq;cases hq)
      ·have e:mj (kr (p.take k) f) m m'=.inr ((kr (p.take k) f,0),(m,m')):=if_neg h0
       rw[if_neg h0] at hS
       rw[e]
       exact .inr ⟨_,rfl,hE _ h0 hS⟩
    ·have hF:kr (p.take k) f=8:=if_pos (.inl hr)
     have hr0:((cY f.Name).Kind !=0)=true:=by simpa using hr
     rw[hF,if_neg (by decide)] at hS
     refine .inr ⟨.ret (.inl 8),?_,hE 8 (by decide) hS⟩
     simp only[F.j8,dec_lt hx,cond_true,cc hx,aa,hb,hfs,hq,hr0,eE,dL,cond_false,fX]) (by
   rintro st ⟨m,rfl,hA,hS⟩
   rw[jx] at hS
   have hS:fY [] p=0:=hS
   exact⟨.bw m,by simp only[F.j8,dj,cond_false],m,by rw[hS,if_pos rfl]⟩) p.length 0 fu (0,(⟨[]⟩:ap)) (by omega) (by omega) (by omega) ⟨⟨[]⟩,rfl,fun n=>⟨rfl,rfl⟩,rfl⟩
  obtain⟨m,rfl⟩:=h2
  rw[h1]
  by_cases h0:fY [] p=0
  ·rw[if_pos h0,h0];rfl
  ·rw[if_neg h0];rfl
 ·have e0:((lq p).2 !=0)=true:=by simpa using he
  rw[e0,cond_true,if_neg he]
  rfl
end Go.DN
