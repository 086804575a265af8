/-
  Orders: without the document's answer: what nest.wu does; an order of one statement at one point.
-/
import Derived.Test.YtfkigaldejbeiaaFvQ
set_option linter.unusedSectionVars false
set_option linter.unusedSimpArgs false
set_option linter.unusedVariables false
namespace Go.DN
open Go.AM
abbrev Mem (n:aO):={m:List (List Int) // Fits n m}
def yN {n:aO}{s:dh}(g:iH n s) (a:List Int) (m:Mem n):Mem n×Jp:=(⟨u4 s a m.1,xp g a m.2⟩,.go)
theorem zD {n:aO}{s:dh}(g:iH n s):∀(l:List (List Int)) (m:Mem n),(dE (yN g) l m).2=.go∧(dE (yN g) l m).1.1=l.foldl (fun m a=>u4 s a m) m.1
 | [],m=>⟨rfl,rfl⟩
 | a::l,m=>by
  have:=zD g l ⟨u4 s a m.1,xp g a m.2⟩
  simpa[dE,yN] using this
theorem Mem.beq {n:aO}(a b:Mem n):Nat.beq (List.length a.1) (List.length b.1)=true:=by
 rw[a.2.len,b.2.len];exact aH _
theorem RP (fu:Nat){n:aO}{s:dh}(g:iH n s){x:List Int}(hx:kn x) (hl:x.length=s.bI.ba.length) (m:Mem n) (hf:20<fu):
  F.pO fu x s.bI.ba s.bI.Rows s.Do s.Value s.cf.Array s.cf.At.cZ s.cf.At.Const s.c9 m.1=some (s.bI.ba,s.bI.Rows,s.Do,s.Value,s.cf.Array,s.cf.At.cZ,s.cf.At.Const,s.c9,(yN g x m).1.1):=by
 have hs:(⟨(⟨s.bI.ba,s.bI.Rows⟩:bp),s.Do,s.Value,(⟨s.cf.Array,(⟨s.cf.At.cZ,s.cf.At.Const⟩:aT)⟩:bF),s.c9⟩:dh)=s:=rfl
 unfold F.pO
 rw[hs,EE fu g hx hl m.2 hf,ae]
 have hb:Nat.beq (List.length (u4 s x m.1)) (List.length m.1)=true:=Mem.beq ⟨_,xp g x m.2⟩ m
 rw[hb];rfl
theorem Nu {n:aO}{s:dh}(gs:iH n s):∀(fu k:Nat) (x:List Int) (m:Mem n),k≤s.bI.ba.length→x.length=s.bI.ba.length→kn x→5000+(s.bI.ba.length-k)<fu→
  ∃x':List Int,x'.length=s.bI.ba.length∧kn x'∧x'.take k=x.take k∧F.jA fu s.bI (k:Int) x s.bI.ba s.bI.Rows s.Do s.Value s.cf.Array s.cf.At.cZ s.cf.At.Const s.c9 m.1=
   some (true,x',s.bI.ba,s.bI.Rows,s.Do,s.Value,s.cf.Array,s.cf.At.cZ,s.cf.At.Const,s.c9,(dE (yN gs) ((ext (s.bI.ba.drop k) (x.take k)).filter (sat s.bI)) m).1.1):=by
 have g:=gs.dz
 generalize hp:s.bI=p at *
 have h4:=g.len
 intro fu
 induction fu with
 | zero=>intro k x m _ _ _ h;omega
 | succ fu ih=>
  intro k x m hk hl hr hf
  show ∃x':List Int,x'.length=p.ba.length∧kn x'∧x'.take k=x.take k∧F.pE (F.jA fu) (fu+1) p (k:Int) x p.ba p.Rows s.Do s.Value s.cf.Array s.cf.At.cZ s.cf.At.Const s.c9 m.1=_
  unfold F.pE
  rw[Au (fu+1) g hr hl k (by omega),ae]
  rcases fH (p.Rows.any fun r=>decide (oK r p x k<0)) with h | h
  ·rw[h,cond_true,HM g hr hl hk h]
   exact⟨x,hl,hr,rfl,rfl⟩
  ·rw[h,cond_false]
   by_cases hkl:k=p.ba.length
   ·subst hkl
    have hs:sat p x=true:=by
     have:=HN g hl
     rw[h] at this
     simpa using this.symm
    have e1:((p.ba.length:Int)==(p.ba.length:Int))=true:=by simp
    have hy:=RP (fu+1) gs hr (by rw[hp];exact hl) m (by omega)
    rw[hp] at hy
    rw[e1,cond_true,E5 (fu+1) x (by omega),ae,hy,ae]
    refine⟨x,hl,hr,rfl,?_⟩
    rw[nv,b6 (Nat.le_of_eq hl)]
    have hb:=Mem.beq (yN gs x m).1 m
    simp only[hb,cond_true]
    simp only[ext,List.filter_cons,hs,if_true,List.filter_nil,dE,yN]
   ·have hkl:k<p.ba.length:=by omega
    have e1:((k:Int)==(p.ba.length:Int))=false:=by simp;omega
    have hbx:=g.box _ (lP hkl)
    have htk:(x.take k).length=k:=by rw[aV];omega
    have ek:IntKind.i64.wrap ((k:Int)+1)=((k+1:Nat):Int):=by rw[i64 (by omega) (by omega)];omega
    rw[e1,cond_false,bJ (fq (l:=x) (i:=k) (by omega)),ae,bh]
    have hloop:=Ee (body:=F.lI (F.jA fu) (fu+1) p (k:Int)) (fun x (m:Mem n)=>(x,p.ba,p.Rows,s.Do,s.Value,s.cf.Array,s.cf.At.cZ,s.cf.At.Const,s.c9,m.1)) (fun x m=>Ex.dS (x,p.ba,p.Rows,s.Do,s.Value,s.cf.Array,s.cf.At.cZ,s.cf.At.Const,s.c9,m.1)) (fun x m j=>Ex.ret (false,x,p.ba,p.Rows,s.Do,s.Value,s.cf.Array,s.cf.At.cZ,s.cf.At.Const,s.c9,m.1)) (yN gs) p.ba.length (p.ba.getD k 0).toNat k
     (fun i=>(ext (p.ba.drop (k+1)) (x.take k++[(i:Int)])).filter (sat p)) (x.take k) hkl (by omega)
     (fun i y m hi hyl hyr hyt hyi=>by
      obtain⟨x1,a1,a2,a3,a4⟩:=ih (k+1) y m (by omega) hyl hyr (by omega)
      have ht:y.take (k+1)=x.take k++[(i:Int)]:=by
       rw[kz,hyt,fq (l:=y) (i:=k) (by omega),hyi];rfl
      have h1k:x1.getD k 0=(i:Int):=by
       rw[←uV (l:=x1) (jS k),a3,uV (jS k),hyi]
      refine⟨x1,a1,a2,?_,?_⟩
      ·have:x1.take k=(x1.take (k+1)).take k:=by rw[List.take_take,dt (by omega)]
       rw[this,a3,ht,List.take_append_of_le_length (by omega),b6 (by omega)]
      ·rw[ht] at a4
       have hgo:=(zD gs ((ext (p.ba.drop (k+1)) (x.take k++[(i:Int)])).filter (sat p)) m).1
       have hb:=Mem.beq (dE (yN gs) ((ext (p.ba.drop (k+1)) (x.take k++[(i:Int)])).filter (sat p)) m).1 m
       rw[if_pos hgo]
       have hd:decide ((i:Int)<p.ba.getD k 0)=true:=by simp only[decide_eq_true_eq];omega
       have hw:IntKind.i64.wrap ((i:Int)+1)=((i+1:Nat):Int):=by rw[i64 (by omega) (by omega)];omega
       have cl:Nat.beq (List.length x1) (List.length y)=true:=by rw[a1,hyl];exact aH _
       simp only[F.lI,bJ (fq (l:=y) (i:=k) (by omega)),hyi,bJ (fq (l:=p.ba) (i:=k) hkl),ae,hd,cond_true,ek,a4,cl,hb,jN,cond_false,bJ (fq (l:=x1) (i:=k) (by omega)),h1k,hw,bh])
     (fun y m hyl hyi=>by
      have hd:decide (((p.ba.getD k 0).toNat:Int)<p.ba.getD k 0)=false:=by simp only[decide_eq_false_iff_not];omega
      simp only[F.lI,bJ (fq (l:=y) (i:=k) (by omega)),hyi,bJ (fq (l:=p.ba) (i:=k) hkl),ae,hd,cond_false])
     (fu+1) (x.set k 0) m (by rw[de];exact hl) (fun z hz=>by
      rcases ko hz with h | h
      ·exact hr z h
      ·subst h;omega)
     (by rw[List.take_set,List.set_eq_of_length_le (by omega)])
     (by rw[aM,cF (by omega)];rfl) (by omega)
    obtain⟨x',b1,b2,b3,b4⟩:=hloop
    refine⟨x',b1,b2,b3,?_⟩
    have hdr:p.ba.drop k=p.ba.getD k 0::p.ba.drop (k+1):=by
     rw[bV hkl,aM,ag hkl];rfl
    rw[hdr,u0]
    try dsimp only at b4
    rw[if_pos (zD gs _ m).1] at b4
    rw[b4]
    rfl
theorem QJ (fu:Nat){n:aO}{s:dh}(g:iH n s) (m:Mem n) (hf:5010<fu):
  F.nB fu s.bI.ba s.bI.Rows s.bI.ba s.bI.Rows s.Do s.Value s.cf.Array s.cf.At.cZ s.cf.At.Const s.c9 m.1=
   some (s.bI.ba,s.bI.Rows,s.bI.ba,s.bI.Rows,s.Do,s.Value,s.cf.Array,s.cf.At.cZ,s.cf.At.Const,s.c9,(dE (yN g) (qs s.bI) m).1.1):=by
 have h4:=g.dz.len
 have hs:(⟨s.bI.ba,s.bI.Rows⟩:bp)=s.bI:=rfl
 unfold F.nB
 rw[hs,AL fu s.bI (by omega),g.bad,ae]
 have e0:((0:Int)==0)=true:=rfl
 rw[e0,cond_true,bK]
 rotate_left
 ·omega
 rw[ae]
 obtain⟨x',b1,b2,b3,b4⟩:=Nu g fu 0 (List.replicate (Int.toNat (s.bI.ba.length:Int)) 0) m (by omega) (by simp) (fun y hy=>by
  rw[gN hy];omega) (by omega)
 have b4:F.jA fu s.bI 0 (List.replicate (Int.toNat (s.bI.ba.length:Int)) (0:Int)) s.bI.ba s.bI.Rows s.Do s.Value s.cf.Array s.cf.At.cZ s.cf.At.Const s.c9 m.1=_:=b4
 rw[b4]
 have c1:Nat.beq (List.length x') (List.length (List.replicate (Int.toNat (s.bI.ba.length:Int)) (0:Int)))=true:=by
  rw[b1,gK];simp
 have c2:=Mem.beq (dE (yN g) ((ext (s.bI.ba.drop 0) ((List.replicate (Int.toNat (s.bI.ba.length:Int)) (0:Int)).take 0)).filter (sat s.bI)) m).1 m
 simp only[ae,c1,c2,cond_true]
 rfl
open Classical in
noncomputable def uB {n:aO}(m:Mem n) (s:dh):Mem n:=if g:iH n s then(dE (yN g) (qs s.bI) m).1 else m
theorem El {n:aO}{s:dh}(g:iH n s) (m:Mem n):(uB m s)=(dE (yN g) (qs s.bI) m).1:=by unfold uB;rw[dif_pos g]
theorem J9 {n:aO}{s:dh}(g:iH n s) (m:Mem n):(uB m s).1=(qs s.bI).foldl (fun m a=>u4 s a m) m.1:=by rw[El g];exact(zD g _ m).2
theorem Km (fu:Nat){n:aO}(hg:∀s∈n.cd,iH n s) (hl:n.cd.length≤256) (m:Mem n) (hf:5010<fu):
  aB (F.oo fu n) fu (0,m.1)=some (n.cd.foldl uB m).1:=by
 have:=jQ (body:=F.oo fu n) n.cd (fun (m:Mem n) i=>(i,m.1)) (fun m s=>some (.inl (uB m s))) (fun m=>m.1)
  (fun m k s hk=>by
   have g:=hg s (ar hk)
   have hw:=du (eU hk) (by omega)
   have h1:F.pG fu s.bI=some (s.bI.ba,s.bI.Rows):=rfl
   have hb:=Mem.beq (dE (yN g) (qs s.bI) m).1 m
   simp only[F.oo,dec_lt hk,cond_true,bJ hk,ae,h1,QJ fu g m hf,hb,hw]
   simp only[El g]
   rfl)
  (fun m=>by simp only[F.oo,fg,cond_false]) fu (by omega) m
 rw[this,uY]
theorem KC (fu:Nat){n:aO}(hs:n.cz.length≤1048576) (hw:wN n=0) (mem:List (List Int)) (hf:2000000<fu):
  (∃hF:Fits n mem,F.mW fu n mem=some ((n.cd.foldl uB (⟨mem,hF⟩:Mem n)).1,0))∨(∃e,e≠0∧F.gO fu n mem=some (e,[])∧F.mW fu n mem=some ([],e)):=by
 have hW:=yH fu n hs hf
 obtain⟨hl,hz,hg⟩:=nf hw
 have b:(wN n !=0)=false:=by simp[hw]
 rcases zh fu hs hz mem hf with ⟨hF,hc⟩ | ⟨hF,e,he,hc⟩
 ·left
  refine⟨hF,?_⟩
  have h1:=Km fu hg hl ⟨mem,hF⟩ (by omega)
  unfold F.mW
  have b0:((0:Int) !=0)=false:=rfl
  simp only[hW,ae,b,cond_false,hc,b0,h1]
 ·right
  have be:(e !=0)=true:=by simpa using he
  refine⟨e,he,hc,?_⟩
  unfold F.mW
  simp only[hW,ae,b,cond_false,hc,be,cond_true]
theorem P4 {ρ:Type}{n:Int}{m1 m2:Option ρ}(h:m1=m2):si n m1 m2=m1:=by
 unfold si
 subst h
 simp
theorem RC (fu:Nat):F.kZ fu []=some []:=P4 (by
 rw[bK (by decide)];rfl)
theorem RQ (f:Nat):F.gT (f+20) ⟨[],[]⟩ 0 [] 0 [([]:List aT)] 0 0 0 [] []=some (true,[],0,[[]],0,0,0,[],[⟨⟨0,[]⟩,0,[]⟩]):=by
 show F.kG (F.gT (f+19)) (f+20) ⟨[],[]⟩ 0 [] 0 [([]:List aT)] 0 0 0 [] []=_
 unfold F.kG
 rw[RC]
 rfl
theorem SR (f:Nat):F.jY (f+20) 0 [] [] [([]:List aT)] 0 0 0 [] []=some (0,[],[],[[]],0,0,0,[],[⟨⟨0,[]⟩,0,[]⟩]):=by
 unfold F.jY
 show(F.je (f+20) (⟨[],[]⟩:bp)).bind _=_
 have e:F.je (f+20) (⟨[],[]⟩:bp)=some 0:=rfl
 rw[e,ae]
 have e2:((0:Int)==0)=true:=rfl
 have e3:List.replicate (Int.toNat (([]:List Int).length:Int)) (0:Int)=[]:=rfl
 rw[e2,cond_true,e3,RQ]
 rfl
def n0:aO:=⟨[1],[(⟨(⟨([]:List Int),([]:List aT)⟩:bp),1,7,(⟨0,(⟨([]:List Int),0⟩:aT)⟩:bF),([]:List bF)⟩:dh)]⟩
theorem My {σ ρ:Type}{body:σ→Option (σ⊕ρ)}{n:Nat}{x y:σ}(h:body x=some (.inl y)):aB body (n+1) x=aB body n y:=by
 simp only[aB,h]
theorem PC (f:Nat):aB (F.gk (f+20) n0) (f+20) (0,[([]:List aT)],0,0,[],[])=some (Ex.dS ([[]],0,0,[],[⟨⟨0,[]⟩,0,[]⟩])):=by
 have e:F.gk (f+20) n0 (0,[([]:List aT)],0,0,[],[])=some (.inl (1,[([]:List aT)],0,0,[],[⟨⟨0,[]⟩,0,[]⟩])):=by
  show(F.jY (f+20) 0 [] [] [([]:List aT)] 0 0 0 [] []).bind _=_
  rw[SR]
  rfl
 exact(My (n:=f+19) e).trans rfl
theorem QQ (f:Nat):F.iw (f+20) n0 [([]:List aT)]=some (0,[⟨⟨0,[]⟩,0,[]⟩]):=by
 unfold F.iw
 have e:F.om (f+20) n0 [([]:List aT)]=some 0:=rfl
 have e2:((0:Int) !=0)=false:=rfl
 have e3:aB (F.jU (f+20) [([]:List aT)]) (f+20) (0,0)=some 0:=rfl
 rw[e,ae,e2,cond_false,e3,ae,PC]
 rfl
theorem O1 (f:Nat):F.jl (f+20)=some true:=by
 unfold F.jl
 show(F.jP (f+20) n0 [([]:List aT)] [[0]] []).bind _=_
 have e:F.jP (f+20) n0 [([]:List aT)] [[0]] []=some ([[7]],0):=by
  unfold F.jP
  rw[QQ]
  rfl
 rw[e]
 rfl
end Go.DN
