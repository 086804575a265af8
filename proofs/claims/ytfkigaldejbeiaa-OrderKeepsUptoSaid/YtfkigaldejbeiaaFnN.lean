/-
  Orders: without the document's answer: what nest.vU does; an order of one statement at one point.
-/
import Derived.Test.YtfkigaldejbeiaaFvQ
set_option linter.unusedSectionVars false
set_option linter.unusedSimpArgs false
set_option linter.unusedVariables false
namespace Go.DN
open Go.AM
abbrev Mem (n:aP):={m:List (List Int) // Fits n m}
def yN {n:aP}{s:dh}(g:iD n s) (a:List Int) (m:Mem n):Mem n×Jp:=(⟨uN s a m.1,w7 g a m.2⟩,.go)
theorem zi {n:aP}{s:dh}(g:iD n s):∀(l:List (List Int)) (m:Mem n),(dE (yN g) l m).2=.go∧(dE (yN g) l m).1.1=l.foldl (fun m a=>uN s a m) m.1
 | [],m=>⟨rfl,rfl⟩
 | a::l,m=>by
  have:=zi g l ⟨uN s a m.1,w7 g a m.2⟩
  simpa[dE,yN] using this
theorem Mem.beq {n:aP}(a b:Mem n):Nat.beq (List.length a.1) (List.length b.1)=true:=by
 rw[a.2.len,b.2.len];exact aG _
theorem Rp (fu:Nat){n:aP}{s:dh}(g:iD n s){x:List Int}(hx:kl x) (hl:x.length=s.bI.ba.length) (m:Mem n) (hf:20<fu):
  F.pE fu x s.bI.ba s.bI.Rows s.Do s.Value s.cf.Array s.cf.At.cZ s.cf.At.Const s.c9 m.1=some (s.bI.ba,s.bI.Rows,s.Do,s.Value,s.cf.Array,s.cf.At.cZ,s.cf.At.Const,s.c9,(yN g x m).1.1):=by
 have hs:(⟨(⟨s.bI.ba,s.bI.Rows⟩:bp),s.Do,s.Value,(⟨s.cf.Array,(⟨s.cf.At.cZ,s.cf.At.Const⟩:aS)⟩:bF),s.c9⟩:dh)=s:=rfl
 unfold F.pE
 rw[hs,Ee fu g hx hl m.2 hf,ab]
 have hb:Nat.beq (List.length (uN s x m.1)) (List.length m.1)=true:=Mem.beq ⟨_,w7 g x m.2⟩ m
 rw[hb];rfl
theorem M1 {n:aP}{s:dh}(gs:iD n s):∀(fu k:Nat) (x:List Int) (m:Mem n),k≤s.bI.ba.length→x.length=s.bI.ba.length→kl x→5000+(s.bI.ba.length-k)<fu→
  ∃x':List Int,x'.length=s.bI.ba.length∧kl x'∧x'.take k=x.take k∧F.jy fu s.bI (k:Int) x s.bI.ba s.bI.Rows s.Do s.Value s.cf.Array s.cf.At.cZ s.cf.At.Const s.c9 m.1=
   some (true,x',s.bI.ba,s.bI.Rows,s.Do,s.Value,s.cf.Array,s.cf.At.cZ,s.cf.At.Const,s.c9,(dE (yN gs) ((ext (s.bI.ba.drop k) (x.take k)).filter (sat s.bI)) m).1.1):=by
 have g:=gs.dz
 generalize hp:s.bI=p at *
 have h4:=g.len
 intro fu
 induction fu with
 | zero=>intro k x m _ _ _ h;omega
 | succ fu ih=>
  intro k x m hk hl hr hf
  show ∃x':List Int,x'.length=p.ba.length∧kl x'∧x'.take k=x.take k∧F.pt (F.jy fu) (fu+1) p (k:Int) x p.ba p.Rows s.Do s.Value s.cf.Array s.cf.At.cZ s.cf.At.Const s.c9 m.1=_
  unfold F.pt
  rw[Aa (fu+1) g hr hl k (by omega),ab]
  rcases fG (p.Rows.any fun r=>decide (oE r p x k<0)) with h | h
  ·rw[h,cond_true,Hl g hr hl hk h]
   exact⟨x,hl,hr,rfl,rfl⟩
  ·rw[h,cond_false]
   by_cases hkl:k=p.ba.length
   ·subst hkl
    have hs:sat p x=true:=by
     have:=Hm g hl
     rw[h] at this
     simpa using this.symm
    have e1:((p.ba.length:Int)==(p.ba.length:Int))=true:=by simp
    have hy:=Rp (fu+1) gs hr (by rw[hp];exact hl) m (by omega)
    rw[hp] at hy
    rw[e1,cond_true,EG (fu+1) x (by omega),ab,hy,ab]
    refine⟨x,hl,hr,rfl,?_⟩
    rw[np,b6 (Nat.le_of_eq hl)]
    have hb:=Mem.beq (yN gs x m).1 m
    simp only[hb,cond_true]
    simp only[ext,List.filter_cons,hs,if_true,List.filter_nil,dE,yN]
   ·have hkl:k<p.ba.length:=by omega
    have e1:((k:Int)==(p.ba.length:Int))=false:=by simp;omega
    have hbx:=g.box _ (lN hkl)
    have htk:(x.take k).length=k:=by rw[aU];omega
    have ek:IntKind.i64.wrap ((k:Int)+1)=((k+1:Nat):Int):=by rw[i64 (by omega) (by omega)];omega
    rw[e1,cond_false,bJ (fp (l:=x) (i:=k) (by omega)),ab,bh]
    have hloop:=DR (body:=F.lG (F.jy fu) (fu+1) p (k:Int)) (fun x (m:Mem n)=>(x,p.ba,p.Rows,s.Do,s.Value,s.cf.Array,s.cf.At.cZ,s.cf.At.Const,s.c9,m.1)) (fun x m=>Ex.dS (x,p.ba,p.Rows,s.Do,s.Value,s.cf.Array,s.cf.At.cZ,s.cf.At.Const,s.c9,m.1)) (fun x m j=>Ex.ret (false,x,p.ba,p.Rows,s.Do,s.Value,s.cf.Array,s.cf.At.cZ,s.cf.At.Const,s.c9,m.1)) (yN gs) p.ba.length (p.ba.getD k 0).toNat k
     (fun i=>(ext (p.ba.drop (k+1)) (x.take k++[(i:Int)])).filter (sat p)) (x.take k) hkl (by omega)
     (fun i y m hi hyl hyr hyt hyi=>by
      obtain⟨x1,a1,a2,a3,a4⟩:=ih (k+1) y m (by omega) hyl hyr (by omega)
      have ht:y.take (k+1)=x.take k++[(i:Int)]:=by
       rw[kw,hyt,fp (l:=y) (i:=k) (by omega),hyi];rfl
      have h1k:x1.getD k 0=(i:Int):=by
       rw[←uE (l:=x1) (jQ k),a3,uE (jQ k),hyi]
      refine⟨x1,a1,a2,?_,?_⟩
      ·have:x1.take k=(x1.take (k+1)).take k:=by rw[List.take_take,dt (by omega)]
       rw[this,a3,ht,List.take_append_of_le_length (by omega),b6 (by omega)]
      ·rw[ht] at a4
       have hgo:=(zi gs ((ext (p.ba.drop (k+1)) (x.take k++[(i:Int)])).filter (sat p)) m).1
       have hb:=Mem.beq (dE (yN gs) ((ext (p.ba.drop (k+1)) (x.take k++[(i:Int)])).filter (sat p)) m).1 m
       rw[if_pos hgo]
       have hd:decide ((i:Int)<p.ba.getD k 0)=true:=by simp only[decide_eq_true_eq];omega
       have hw:IntKind.i64.wrap ((i:Int)+1)=((i+1:Nat):Int):=by rw[i64 (by omega) (by omega)];omega
       have cl:Nat.beq (List.length x1) (List.length y)=true:=by rw[a1,hyl];exact aG _
       simp only[F.lG,bJ (fp (l:=y) (i:=k) (by omega)),hyi,bJ (fp (l:=p.ba) (i:=k) hkl),ab,hd,cond_true,ek,a4,cl,hb,jL,cond_false,bJ (fp (l:=x1) (i:=k) (by omega)),h1k,hw,bh])
     (fun y m hyl hyi=>by
      have hd:decide (((p.ba.getD k 0).toNat:Int)<p.ba.getD k 0)=false:=by simp only[decide_eq_false_iff_not];omega
      simp only[F.lG,bJ (fp (l:=y) (i:=k) (by omega)),hyi,bJ (fp (l:=p.ba) (i:=k) hkl),ab,hd,cond_false])
     (fu+1) (x.set k 0) m (by rw[de];exact hl) (fun z hz=>by
      rcases km hz with h | h
      ·exact hr z h
      ·subst h;omega)
     (by rw[List.take_set,List.set_eq_of_length_le (by omega)])
     (by rw[aL,cD (by omega)];rfl) (by omega)
    obtain⟨x',b1,b2,b3,b4⟩:=hloop
    refine⟨x',b1,b2,b3,?_⟩
    have hdr:p.ba.drop k=p.ba.getD k 0::p.ba.drop (k+1):=by
     rw[bV hkl,aL,ag hkl];rfl
    rw[hdr,uJ]
    try dsimp only at b4
    rw[if_pos (zi gs _ m).1] at b4
    rw[b4]
    rfl
theorem Qh (fu:Nat){n:aP}{s:dh}(g:iD n s) (m:Mem n) (hf:5010<fu):
  F.nv fu s.bI.ba s.bI.Rows s.bI.ba s.bI.Rows s.Do s.Value s.cf.Array s.cf.At.cZ s.cf.At.Const s.c9 m.1=
   some (s.bI.ba,s.bI.Rows,s.bI.ba,s.bI.Rows,s.Do,s.Value,s.cf.Array,s.cf.At.cZ,s.cf.At.Const,s.c9,(dE (yN g) (qh s.bI) m).1.1):=by
 have h4:=g.dz.len
 have hs:(⟨s.bI.ba,s.bI.Rows⟩:bp)=s.bI:=rfl
 unfold F.nv
 rw[hs,Ar fu s.bI (by omega),g.bad,ab]
 have e0:((0:Int)==0)=true:=rfl
 rw[e0,cond_true,bK]
 rotate_left
 ·omega
 rw[ab]
 obtain⟨x',b1,b2,b3,b4⟩:=M1 g fu 0 (List.replicate (Int.toNat (s.bI.ba.length:Int)) 0) m (by omega) (by simp) (fun y hy=>by
  rw[gK hy];omega) (by omega)
 have b4:F.jy fu s.bI 0 (List.replicate (Int.toNat (s.bI.ba.length:Int)) (0:Int)) s.bI.ba s.bI.Rows s.Do s.Value s.cf.Array s.cf.At.cZ s.cf.At.Const s.c9 m.1=_:=b4
 rw[b4]
 have c1:Nat.beq (List.length x') (List.length (List.replicate (Int.toNat (s.bI.ba.length:Int)) (0:Int)))=true:=by
  rw[b1,gH];simp
 have c2:=Mem.beq (dE (yN g) ((ext (s.bI.ba.drop 0) ((List.replicate (Int.toNat (s.bI.ba.length:Int)) (0:Int)).take 0)).filter (sat s.bI)) m).1 m
 simp only[ab,c1,c2,cond_true]
 rfl
open Classical in
noncomputable def uh {n:aP}(m:Mem n) (s:dh):Mem n:=if g:iD n s then(dE (yN g) (qh s.bI) m).1 else m
theorem DY {n:aP}{s:dh}(g:iD n s) (m:Mem n):(uh m s)=(dE (yN g) (qh s.bI) m).1:=by unfold uh;rw[dif_pos g]
theorem JF {n:aP}{s:dh}(g:iD n s) (m:Mem n):(uh m s).1=(qh s.bI).foldl (fun m a=>uN s a m) m.1:=by rw[DY g];exact(zi g _ m).2
theorem JM (fu:Nat){n:aP}(hg:∀s∈n.cd,iD n s) (hl:n.cd.length≤256) (m:Mem n) (hf:5010<fu):
  aB (F.oe fu n) fu (0,m.1)=some (n.cd.foldl uh m).1:=by
 have:=jO (body:=F.oe fu n) n.cd (fun (m:Mem n) i=>(i,m.1)) (fun m s=>some (.inl (uh m s))) (fun m=>m.1)
  (fun m k s hk=>by
   have g:=hg s (ar hk)
   have hw:=du (eT hk) (by omega)
   have h1:F.pw fu s.bI=some (s.bI.ba,s.bI.Rows):=rfl
   have hb:=Mem.beq (dE (yN g) (qh s.bI) m).1 m
   simp only[F.oe,dec_lt hk,cond_true,bJ hk,ab,h1,Qh fu g m hf,hb,hw]
   simp only[DY g]
   rfl)
  (fun m=>by simp only[F.oe,ff,cond_false]) fu (by omega) m
 rw[this,uH]
theorem J3 (fu:Nat){n:aP}(hs:n.cA.length≤1048576) (hw:wN n=0) (mem:List (List Int)) (hf:2000000<fu):
  (∃hF:Fits n mem,F.mS fu n mem=some ((n.cd.foldl uh (⟨mem,hF⟩:Mem n)).1,0))∨(∃e,e≠0∧F.gL fu n mem=some (e,[])∧F.mS fu n mem=some ([],e)):=by
 have hW:=yn fu n hs hf
 obtain⟨hl,hz,hg⟩:=mZ hw
 have b:(wN n !=0)=false:=by simp[hw]
 rcases yP fu hs hz mem hf with ⟨hF,hc⟩ | ⟨hF,e,he,hc⟩
 ·left
  refine⟨hF,?_⟩
  have h1:=JM fu hg hl ⟨mem,hF⟩ (by omega)
  unfold F.mS
  have b0:((0:Int) !=0)=false:=rfl
  simp only[hW,ab,b,cond_false,hc,b0,h1]
 ·right
  have be:(e !=0)=true:=by simpa using he
  refine⟨e,he,hc,?_⟩
  unfold F.mS
  simp only[hW,ab,b,cond_false,hc,be,cond_true]
theorem PC {ρ:Type}{n:Int}{m1 m2:Option ρ}(h:m1=m2):rR n m1 m2=m1:=by
 unfold rR
 subst h
 simp
theorem Rc (fu:Nat):F.kX fu []=some []:=PC (by
 rw[bK (by decide)];rfl)
theorem Rq (f:Nat):F.gQ (f+20) ⟨[],[]⟩ 0 [] 0 [([]:List aS)] 0 0 0 [] []=some (true,[],0,[[]],0,0,0,[],[⟨⟨0,[]⟩,0,[]⟩]):=by
 show F.kE (F.gQ (f+19)) (f+20) ⟨[],[]⟩ 0 [] 0 [([]:List aS)] 0 0 0 [] []=_
 unfold F.kE
 rw[Rc]
 rfl
theorem Sn (f:Nat):F.jW (f+20) 0 [] [] [([]:List aS)] 0 0 0 [] []=some (0,[],[],[[]],0,0,0,[],[⟨⟨0,[]⟩,0,[]⟩]):=by
 unfold F.jW
 show(F.jb (f+20) (⟨[],[]⟩:bp)).bind _=_
 have e:F.jb (f+20) (⟨[],[]⟩:bp)=some 0:=rfl
 rw[e,ab]
 have e2:((0:Int)==0)=true:=rfl
 have e3:List.replicate (Int.toNat (([]:List Int).length:Int)) (0:Int)=[]:=rfl
 rw[e2,cond_true,e3,Rq]
 rfl
def n0:aP:=⟨[1],[(⟨(⟨([]:List Int),([]:List aS)⟩:bp),1,7,(⟨0,(⟨([]:List Int),0⟩:aS)⟩:bF),([]:List bF)⟩:dh)]⟩
theorem L5 {σ ρ:Type}{body:σ→Option (σ⊕ρ)}{n:Nat}{x y:σ}(h:body x=some (.inl y)):aB body (n+1) x=aB body n y:=by
 simp only[aB,h]
theorem Pc (f:Nat):aB (F.gg (f+20) n0) (f+20) (0,[([]:List aS)],0,0,[],[])=some (Ex.dS ([[]],0,0,[],[⟨⟨0,[]⟩,0,[]⟩])):=by
 have e:F.gg (f+20) n0 (0,[([]:List aS)],0,0,[],[])=some (.inl (1,[([]:List aS)],0,0,[],[⟨⟨0,[]⟩,0,[]⟩])):=by
  show(F.jW (f+20) 0 [] [] [([]:List aS)] 0 0 0 [] []).bind _=_
  rw[Sn]
  rfl
 exact(L5 (n:=f+19) e).trans rfl
theorem Qn (f:Nat):F.im (f+20) n0 [([]:List aS)]=some (0,[⟨⟨0,[]⟩,0,[]⟩]):=by
 unfold F.im
 have e:F.od (f+20) n0 [([]:List aS)]=some 0:=rfl
 have e2:((0:Int) !=0)=false:=rfl
 have e3:aB (F.jS (f+20) [([]:List aS)]) (f+20) (0,0)=some 0:=rfl
 rw[e,ab,e2,cond_false,e3,ab,Pc]
 rfl
theorem OC (f:Nat):F.ji (f+20)=some true:=by
 unfold F.ji
 show(F.jN (f+20) n0 [([]:List aS)] [[0]] []).bind _=_
 have e:F.jN (f+20) n0 [([]:List aS)] [[0]] []=some ([[7]],0):=by
  unfold F.jN
  rw[Qn]
  rfl
 rw[e]
 rfl
end Go.DN
