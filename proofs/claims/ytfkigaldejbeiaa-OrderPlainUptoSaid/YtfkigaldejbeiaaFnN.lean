/-
  Orders: without the document's answer: what nest.wL does; an order of one statement at one point.
-/
import Derived.Test.YtfkigaldejbeiaaFvQ
set_option linter.unusedSimpArgs false
set_option linter.unusedVariables false
namespace Go.DN
open Go.AM
abbrev Mem (n:aM):={m:List (List Int) // Fits n m}
def yN {n:aM}{s:c9}(g:ix n s) (a:List Int) (m:Mem n):Mem n×Jp:=(⟨vj s a m.1,xG g a m.2⟩,.go)
theorem zX {n:aM}{s:c9}(g:ix n s):∀(l:List (List Int)) (m:Mem n),(dI (yN g) l m).2=.go∧(dI (yN g) l m).1.1=l.foldl (fun m a=>vj s a m) m.1
 | [],m=>⟨rfl,rfl⟩
 | a::l,m=>by
  have:=zX g l ⟨vj s a m.1,xG g a m.2⟩
  simpa[dI,yN] using this
theorem Mem.beq {n:aM}(a b:Mem n):Nat.beq (List.length a.1) (List.length b.1)=true:=by
 rw[a.2.len,b.2.len];exact aI _
theorem Sj (fu:Nat){n:aM}{s:c9}(g:ix n s){x:List Int}(hx:ku x) (hl:x.length=s.ba.aU.length) (m:Mem n) (hf:20<fu):
  F.pW fu x s.ba.aU s.ba.Rows s.Do s.Value s.cg.Array s.cg.At.db s.cg.At.Const s.de m.1=some (s.ba.aU,s.ba.Rows,s.Do,s.Value,s.cg.Array,s.cg.At.db,s.cg.At.Const,s.de,(yN g x m).1.1):=by
 have hs:(⟨(⟨s.ba.aU,s.ba.Rows⟩:bu),s.Do,s.Value,(⟨s.cg.Array,(⟨s.cg.At.db,s.cg.At.Const⟩:aO)⟩:bK),s.de⟩:c9)=s:=rfl
 unfold F.pW
 rw[hs,EX fu g hx hl m.2 hf,ae]
 have hb:Nat.beq (List.length (vj s x m.1)) (List.length m.1)=true:=Mem.beq ⟨_,xG g x m.2⟩ m
 rw[hb];rfl
theorem NT {n:aM}{s:c9}(gs:ix n s):∀(fu k:Nat) (x:List Int) (m:Mem n),k≤s.ba.aU.length→x.length=s.ba.aU.length→ku x→5000+(s.ba.aU.length-k)<fu→
  ∃x':List Int,x'.length=s.ba.aU.length∧ku x'∧x'.take k=x.take k∧F.jE fu s.ba (k:Int) x s.ba.aU s.ba.Rows s.Do s.Value s.cg.Array s.cg.At.db s.cg.At.Const s.de m.1=
   some (true,x',s.ba.aU,s.ba.Rows,s.Do,s.Value,s.cg.Array,s.cg.At.db,s.cg.At.Const,s.de,(dI (yN gs) ((ext (s.ba.aU.drop k) (x.take k)).filter (sat s.ba)) m).1.1):=by
 have g:=gs.dm
 generalize hp:s.ba=p at *
 have h4:=g.len
 intro fu
 induction fu with
 | zero=>intro k x m _ _ _ h;omega
 | succ fu ih=>
  intro k x m hk hl hr hf
  show ∃x':List Int,x'.length=p.aU.length∧ku x'∧x'.take k=x.take k∧F.pL (F.jE fu) (fu+1) p (k:Int) x p.aU p.Rows s.Do s.Value s.cg.Array s.cg.At.db s.cg.At.Const s.de m.1=_
  unfold F.pL
  rw[AP (fu+1) g hr hl k (by omega),ae]
  rcases fJ (p.Rows.any fun r=>decide (oS r p x k<0)) with h | h
  ·rw[h,cond_true,H6 g hr hl hk h]
   exact⟨x,hl,hr,rfl,rfl⟩
  ·rw[h,cond_false]
   by_cases hkl:k=p.aU.length
   ·subst hkl
    have hs:sat p x=true:=by
     have:=H7 g hl
     rw[h] at this
     simpa using this.symm
    have e1:((p.aU.length:Int)==(p.aU.length:Int))=true:=by simp
    have hy:=Sj (fu+1) gs hr (by rw[hp];exact hl) m (by omega)
    rw[hp] at hy
    rw[e1,cond_true,Fp (fu+1) x (by omega),ae,hy,ae]
    refine⟨x,hl,hr,rfl,?_⟩
    rw[nB,b8 (Nat.le_of_eq hl)]
    have hb:=Mem.beq (yN gs x m).1 m
    simp only[hb,cond_true]
    simp only[ext,List.filter_cons,hs,if_true,List.filter_nil,dI,yN]
   ·have hkl:k<p.aU.length:=by omega
    have e1:((k:Int)==(p.aU.length:Int))=false:=by simp;omega
    have hbx:=g.box _ (lV hkl)
    have htk:(x.take k).length=k:=by rw[aX];omega
    have ek:IntKind.i64.wrap ((k:Int)+1)=((k+1:Nat):Int):=by rw[i64 (by omega) (by omega)];omega
    rw[e1,cond_false,bM (fw (l:=x) (i:=k) (by omega)),ae,bc]
    have hloop:=Ew (body:=F.lN (F.jE fu) (fu+1) p (k:Int)) (fun x (m:Mem n)=>(x,p.aU,p.Rows,s.Do,s.Value,s.cg.Array,s.cg.At.db,s.cg.At.Const,s.de,m.1)) (fun x m=>Ex.dW (x,p.aU,p.Rows,s.Do,s.Value,s.cg.Array,s.cg.At.db,s.cg.At.Const,s.de,m.1)) (fun x m j=>Ex.ret (false,x,p.aU,p.Rows,s.Do,s.Value,s.cg.Array,s.cg.At.db,s.cg.At.Const,s.de,m.1)) (yN gs) p.aU.length (p.aU.getD k 0).toNat k
     (fun i=>(ext (p.aU.drop (k+1)) (x.take k++[(i:Int)])).filter (sat p)) (x.take k) hkl (by omega)
     (fun i y m hi hyl hyr hyt hyi=>by
      obtain⟨x1,a1,a2,a3,a4⟩:=ih (k+1) y m (by omega) hyl hyr (by omega)
      have ht:y.take (k+1)=x.take k++[(i:Int)]:=by
       rw[kC,hyt,fw (l:=y) (i:=k) (by omega),hyi];rfl
      have h1k:x1.getD k 0=(i:Int):=by
       rw[←u7 (l:=x1) (jV k),a3,u7 (jV k),hyi]
      refine⟨x1,a1,a2,?_,?_⟩
      ·have:x1.take k=(x1.take (k+1)).take k:=by rw[List.take_take,dy (by omega)]
       rw[this,a3,ht,List.take_append_of_le_length (by omega),b8 (by omega)]
      ·rw[ht] at a4
       have hgo:=(zX gs ((ext (p.aU.drop (k+1)) (x.take k++[(i:Int)])).filter (sat p)) m).1
       have hb:=Mem.beq (dI (yN gs) ((ext (p.aU.drop (k+1)) (x.take k++[(i:Int)])).filter (sat p)) m).1 m
       rw[if_pos hgo]
       have hd:decide ((i:Int)<p.aU.getD k 0)=true:=by simp only[decide_eq_true_eq];omega
       have hw:IntKind.i64.wrap ((i:Int)+1)=((i+1:Nat):Int):=by rw[i64 (by omega) (by omega)];omega
       have cl:Nat.beq (List.length x1) (List.length y)=true:=by rw[a1,hyl];exact aI _
       simp only[F.lN,bM (fw (l:=y) (i:=k) (by omega)),hyi,bM (fw (l:=p.aU) (i:=k) hkl),ae,hd,cond_true,ek,a4,cl,hb,jQ,cond_false,bM (fw (l:=x1) (i:=k) (by omega)),h1k,hw,bc])
     (fun y m hyl hyi=>by
      have hd:decide (((p.aU.getD k 0).toNat:Int)<p.aU.getD k 0)=false:=by simp only[decide_eq_false_iff_not];omega
      simp only[F.lN,bM (fw (l:=y) (i:=k) (by omega)),hyi,bM (fw (l:=p.aU) (i:=k) hkl),ae,hd,cond_false])
     (fu+1) (x.set k 0) m (by rw[cW];exact hl) (fun z hz=>by
      rcases kv hz with h | h
      ·exact hr z h
      ·subst h;omega)
     (by rw[List.take_set,List.set_eq_of_length_le (by omega)])
     (by rw[aE,cG (by omega)];rfl) (by omega)
    obtain⟨x',b1,b2,b3,b4⟩:=hloop
    refine⟨x',b1,b2,b3,?_⟩
    have hdr:p.aU.drop k=p.aU.getD k 0::p.aU.drop (k+1):=by
     rw[bY hkl,aE,ag hkl];rfl
    rw[hdr,vd]
    try dsimp only at b4
    rw[if_pos (zX gs _ m).1] at b4
    rw[b4]
    rfl
theorem Ra (fu:Nat){n:aM}{s:c9}(g:ix n s) (m:Mem n) (hf:5010<fu):
  F.nH fu s.ba.aU s.ba.Rows s.ba.aU s.ba.Rows s.Do s.Value s.cg.Array s.cg.At.db s.cg.At.Const s.de m.1=
   some (s.ba.aU,s.ba.Rows,s.ba.aU,s.ba.Rows,s.Do,s.Value,s.cg.Array,s.cg.At.db,s.cg.At.Const,s.de,(dI (yN g) (qA s.ba) m).1.1):=by
 have h4:=g.dm.len
 have hs:(⟨s.ba.aU,s.ba.Rows⟩:bu)=s.ba:=rfl
 unfold F.nH
 rw[hs,A7 fu s.ba (by omega),g.bad,ae]
 have e0:((0:Int)==0)=true:=rfl
 rw[e0,cond_true,bJ]
 rotate_left
 ·omega
 rw[ae]
 obtain⟨x',b1,b2,b3,b4⟩:=NT g fu 0 (List.replicate (Int.toNat (s.ba.aU.length:Int)) 0) m (by omega) (by simp) (fun y hy=>by
  rw[gO hy];omega) (by omega)
 have b4:F.jE fu s.ba 0 (List.replicate (Int.toNat (s.ba.aU.length:Int)) (0:Int)) s.ba.aU s.ba.Rows s.Do s.Value s.cg.Array s.cg.At.db s.cg.At.Const s.de m.1=_:=b4
 rw[b4]
 have c1:Nat.beq (List.length x') (List.length (List.replicate (Int.toNat (s.ba.aU.length:Int)) (0:Int)))=true:=by
  rw[b1,eY];simp
 have c2:=Mem.beq (dI (yN g) ((ext (s.ba.aU.drop 0) ((List.replicate (Int.toNat (s.ba.aU.length:Int)) (0:Int)).take 0)).filter (sat s.ba)) m).1 m
 simp only[ae,c1,c2,cond_true]
 rfl
open Classical in
noncomputable def uL {n:aM}(m:Mem n) (s:c9):Mem n:=if g:ix n s then(dI (yN g) (qA s.ba) m).1 else m
theorem EE {n:aM}{s:c9}(g:ix n s) (m:Mem n):(uL m s)=(dI (yN g) (qA s.ba) m).1:=by unfold uL;rw[dif_pos g]
theorem KE {n:aM}{s:c9}(g:ix n s) (m:Mem n):(uL m s).1=(qA s.ba).foldl (fun m a=>vj s a m) m.1:=by rw[EE g];exact(zX g _ m).2
theorem KL (fu:Nat){n:aM}(hg:∀s∈n.bC,ix n s) (hl:n.bC.length≤256) (m:Mem n) (hf:5010<fu):
  aB (F.oz fu n) fu (0,m.1)=some (n.bC.foldl uL m).1:=by
 have:=jT (body:=F.oz fu n) n.bC (fun (m:Mem n) i=>(i,m.1)) (fun m s=>some (.inl (uL m s))) (fun m=>m.1)
  (fun m k s hk=>by
   have g:=hg s (ar hk)
   have hw:=dh (ep hk) (by omega)
   have h1:F.pN fu s.ba=some (s.ba.aU,s.ba.Rows):=rfl
   have hb:=Mem.beq (dI (yN g) (qA s.ba) m).1 m
   simp only[F.oz,dec_lt hk,cond_true,bM hk,ae,h1,Ra fu g m hf,hb,hw]
   simp only[EE g]
   rfl)
  (fun m=>by simp only[F.oz,eF,cond_false]) fu (by omega) m
 rw[this,vb]
theorem K1 (fu:Nat){n:aM}(hs:n.cC.length≤1048576) (hw:wN n=0) (mem:List (List Int)) (hf:2000000<fu):
  (∃hF:Fits n mem,F.nb fu n mem=some ((n.bC.foldl uL (⟨mem,hF⟩:Mem n)).1,0))∨(∃e,e≠0∧F.gP fu n mem=some (e,[])∧F.nb fu n mem=some ([],e)):=by
 have hW:=za fu n hs hf
 obtain⟨hl,hz,hg⟩:=lU hw
 have b:(wN n !=0)=false:=by simp[hw]
 rcases zC fu hs hz mem hf with ⟨hF,hc⟩ | ⟨hF,e,he,hc⟩
 ·left
  refine⟨hF,?_⟩
  have h1:=KL fu hg hl ⟨mem,hF⟩ (by omega)
  unfold F.nb
  have b0:((0:Int) !=0)=false:=rfl
  simp only[hW,ae,b,cond_false,hc,b0,h1]
 ·right
  have be:(e !=0)=true:=by simpa using he
  refine⟨e,he,hc,?_⟩
  unfold F.nb
  simp only[hW,ae,b,cond_false,hc,be,cond_true]
theorem Qu {ρ:Type}{n:Int}{m1 m2:Option ρ}(h:m1=m2):sv n m1 m2=m1:=by
 unfold sv
 subst h
 simp
theorem R3 (fu:Nat):F.k7 fu []=some []:=Qu (by
 rw[bJ (by decide)];rfl)
theorem Sk (f:Nat):F.gU (f+20) ⟨[],[]⟩ 0 [] 0 [([]:List aO)] 0 0 0 [] []=some (true,[],0,[[]],0,0,0,[],[⟨⟨0,[]⟩,0,[]⟩]):=by
 show F.kJ (F.gU (f+19)) (f+20) ⟨[],[]⟩ 0 [] 0 [([]:List aO)] 0 0 0 [] []=_
 unfold F.kJ
 rw[R3]
 rfl
theorem Tl (f:Nat):F.j8 (f+20) 0 [] [] [([]:List aO)] 0 0 0 [] []=some (0,[],[],[[]],0,0,0,[],[⟨⟨0,[]⟩,0,[]⟩]):=by
 unfold F.j8
 show(F.jh (f+20) (⟨[],[]⟩:bu)).bind _=_
 have e:F.jh (f+20) (⟨[],[]⟩:bu)=some 0:=rfl
 rw[e,ae]
 have e2:((0:Int)==0)=true:=rfl
 have e3:List.replicate (Int.toNat (([]:List Int).length:Int)) (0:Int)=[]:=rfl
 rw[e2,cond_true,e3,Sk]
 rfl
def n0:aM:=⟨[1],[(⟨(⟨([]:List Int),([]:List aO)⟩:bu),1,7,(⟨0,(⟨([]:List Int),0⟩:aO)⟩:bK),([]:List bK)⟩:c9)]⟩
theorem MY {σ ρ:Type}{body:σ→Option (σ⊕ρ)}{n:Nat}{x y:σ}(h:body x=some (.inl y)):aB body (n+1) x=aB body n y:=by
 simp only[aB,h]
theorem P6 (f:Nat):aB (F.gl (f+20) n0) (f+20) (0,[([]:List aO)],0,0,[],[])=some (Ex.dW ([[]],0,0,[],[⟨⟨0,[]⟩,0,[]⟩])):=by
 have e:F.gl (f+20) n0 (0,[([]:List aO)],0,0,[],[])=some (.inl (1,[([]:List aO)],0,0,[],[⟨⟨0,[]⟩,0,[]⟩])):=by
  show(F.j8 (f+20) 0 [] [] [([]:List aO)] 0 0 0 [] []).bind _=_
  rw[Tl]
  rfl
 exact(MY (n:=f+19) e).trans rfl
theorem Rg (f:Nat):F.iA (f+20) n0 [([]:List aO)]=some (0,[⟨⟨0,[]⟩,0,[]⟩]):=by
 unfold F.iA
 have e:F.oy (f+20) n0 [([]:List aO)]=some 0:=rfl
 have e2:((0:Int) !=0)=false:=rfl
 have e3:aB (F.jX (f+20) [([]:List aO)]) (f+20) (0,0)=some 0:=rfl
 rw[e,ae,e2,cond_false,e3,ae,P6]
 rfl
theorem Pu (f:Nat):F.jo (f+20)=some true:=by
 unfold F.jo
 show(F.jS (f+20) n0 [([]:List aO)] [[0]] []).bind _=_
 have e:F.jS (f+20) n0 [([]:List aO)] [[0]] []=some ([[7]],0):=by
  unfold F.jS
  rw[Rg]
  rfl
 rw[e]
 rfl
end Go.DN
