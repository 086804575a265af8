/-
  Text: the functions that throw and catch.
-/
import Derived.Test.YtmhbeopldeccmaaDoorMgH
import Derived.Test.YtmhbeopldeccmaaDoorProg
import Derived.Tactics
import Derived.Tactics2
import Derived.Recover
import Derived.RecoverIn
import Derived.WalkLawsBesides
import Derived.KernelRfl
set_option maxRecDepth 20000
set_option linter.unusedVariables false
set_option linter.unusedSectionVars false
set_option linter.unusedSimpArgs false
namespace Go.AM
section
variable {P:Program}{s:St}{dst:Option Nat}{ty:TypeId}{pos:String}{after:Array Edge}{guard:Option (Nat×Bool)}
theorem PY.A7 {t t':TypeId}{x:Operand}{b:Bool}{v:Value}{ms:_}(hx:ev s x=some (.val v)) (hb:Je v=some b) (ht:P.underlying t=some (.interface ms)):
  PY P s ⟨dst,.binOp .eql t x (.const .nilIface) t',ty,pos,after,guard⟩ (.val (.bool (!b))):=fun _ _ _ a _ hrel=>by
 refine⟨_,.aD (.val _),fun w'=>?_⟩
 have e1:=hrel.val hx
 have he:=DC (P:=P) hb ht w'
 have e2:(eqGuard .eql t x (.const .nilIface) v .nilIface).run P w'=.ok () w':=by
  cases v <;> cases hb <;> simp[eqGuard]
 have h1:binOp .eql t v .nilIface=(do pure (.bool (←Op.equal t v .nilIface)):Sem Value):=by cases v <;> cases hb <;> rfl
 have e3:(binOp .eql t v .nilIface).run P w'=.ok (.bool (!b)) w':=by
  simp only[h1,Sem.run_bind,he,Result.andThen_ok,Sem.run_pure]
 have e4:a.eval (.const .nilIface)=.nilIface:=rfl
 simp only[execOp,e1,e4,Sem.run_bind,e2,e3,Result.andThen_ok,Sem.run_pure]
theorem oZ {F:Fence}{n:Nat}{Q:Exit→Act→List Frame→World→Prop}{a:Act}{cs:List Frame}{w:World}{id:Nat}{ops:Array Oper}{o:Oper}{l:List Nat}(hF0:F.round=none)
  (hl0:List.range ops.size=0::l) (ho:ops[0]?=some o) (hw:Region.wanted o (yielded ops a.tmps)=true) (hab:∀f,o.about P w a.eval=some f→F.fn f) (hr:(execOp a.eval o).run P w=.ok .recover w)
  (h:∃v cs',((recoverD cs=none∧v=.nilIface∧cs'=cs)∨recoverD cs=some (v,cs'))∧wpOpsIn F n P ops (fun e a' w'=>Q e a' cs' w') l (a.put o.dst v) w):(Code.region id ops false).wpSIn F n P Q a cs w:=by
 intro b k hb hro hF hroom
 obtain⟨v,cs',hv,h⟩:=h
 have h0:(lone (b.atR a (.inRegion ops (0::l)::k)) cs w).fenced P F:=fenced_oper hF hroom ho hab
 have hg:=stepGR_op (P:=P) (b:=b) (k:=k) (cs:=cs) (w:=w) (rest:=l) ho hw
 rw[hro,Oper.semAt_none] at hg
 have hfin:∀v,(b.atR a (.inRegion ops (0::l)::k)).finish v=b.atR (a.put o.dst v) (.inRegion ops l::k):=by
  intro v;rw[Frame.finish_atR,ho];rfl
 have hk:(b.atR a (.inRegion ops (0::l)::k)).kind=.deferred:=hb
 have htr:=tryRecover_deferred hk cs
 have hlen:cs'.length=cs.length:=by
  rcases hv with ⟨_,_,rfl⟩ | hv
  ·rfl
  ·exact recoverD_length hv
 obtain⟨e,a',w',hq,harr⟩:=wp_opsIn l (a.put o.dst v) w h b k cs' (hro.trans hF0.symm) hF (hlen▸hroom)
 refine⟨e,a',cs',w',hlen,hq,.of_steps (.one (fenced_calm hF hroom rfl) stepR_region) (.of_steps (.one (by rw[hl0];exact h0) (step_lone_go ?_)) harr)⟩
 rw[hl0,hg,←hfin]
 simp only[Frame.atR,hro] at htr⊢
 rcases hv with ⟨hrec,rfl,rfl⟩ | hrec
 ·simp[stepG.apply,hr,htr,hrec]
 ·simp[stepG.apply,hr,htr,hrec]
end
end Go.AM
namespace Go.DN
open Go.AM Go.Proofs
theorem PT (x:Int×Int):uT 94 x=[{v:=.iface 94 (.agg #[.int .i64 x.1,.int .i64 x.2]),recovered:=false}]:=rfl
theorem Rk (a b:Int) (w:World):Calls Tryd.prog 47 #[.int .i64 a,.int .i64 b] w fun e w'=>e=.panicked (uT 94 (a,b))∧w'=w:=by
 go_enter Tryd.func47,Tryd.ntmps47
 go_wp2
 exact⟨rfl,rfl,rfl⟩
theorem PK {s:St}{x:Operand}{a b:Int}{dst:Option Nat}{ty:TypeId}{pos:String}{after:Array Edge}{guard:Option (Nat×Bool)}(hx:ev s x=some (.val (.iface 94 (.agg #[.int .i64 a,.int .i64 b])))):
  PY Tryd.prog s ⟨dst,.typeAssert x 20 94 true,ty,pos,after,guard⟩ (.aT [.val (.agg #[.int .i64 a,.int .i64 b]),.val (.bool true)]):=fun _ _ _ _ _ hrel=>by
 refine⟨.tuple #[.agg #[.int .i64 a,.int .i64 b],.bool true],?_,fun w'=>?_⟩
 ·refine .aT [_,_] [_,_] rfl ?_
  intro j g v hg hv
  match j with
  | 0=>cases hg;cases hv;exact .aD (.val _)
  | 1=>cases hg;cases hv;exact .aD (.val _)
  | j+2=>cases hg
 ·have h:(Instr.typeAssert (.iface 94 (.agg #[.int .i64 a,.int .i64 b])) 20 94 true).run Tryd.prog w'=.ok (.tuple #[.agg #[.int .i64 a,.int .i64 b],.bool true]) w':=by
   simp[Instr.typeAssert,go_sem]
  simp only[execOp,hrel.val hx,Sem.run_bind,h,Result.andThen_ok,Sem.run_pure]
def pr (a b:Int):List (Nat×aq):=[(1000,⟨77,false,false,false,0,[.val (.int .i64 a),.val (.int .i64 b)],none⟩)]
theorem Hb (a b a0 b0:Int):GM Tryd.prog 38 [.val (.iface 94 (.agg #[.int .i64 a,.int .i64 b])),.loc 1000 0] (pr a0 b0) (fun g st=>g=.aT []∧st=pr a b):=by
 refine GM.of (N:=16) Tryd.func38 rfl rfl rfl (fun cx hro=>?_)
 change GW _ _ _ _ _ _
 refine GW.seq ?_
 refine GW.region ?_
 refine GL.py (PY.move rfl) rfl rfl ?_
 refine GL.nil ?_
 change GW _ _ _ _ _ _
 refine GW.block ?_
 refine GW.seq ?_
 refine GW.region ?_
 refine GL.py (PY.A7 (b:=true) (ms:=#[]) rfl rfl (by kernel_rfl)) rfl rfl ?_
 refine GL.nil ?_
 change GW _ _ _ _ _ _
 refine GW.cond rfl (fun h=>by cases h) (fun _=>?_)
 refine GW.seq ?_
 refine GW.region ?_
 refine GL.py (PK rfl) rfl rfl ?_
 refine GL.py (PY.extract rfl rfl) rfl rfl ?_
 refine GL.py (PY.extract rfl rfl) rfl rfl ?_
 refine GL.nil ?_
 change GW _ _ _ _ _ _
 refine GW.cond rfl (fun _=>?_) (fun h=>by cases h)
 refine GW.seq ?_
 refine GW.region ?_
 refine GL.e1 (W:=[]) (EF.alloc 5 (z:=.agg #[.int .i64 0,.int .i64 0]) (fun w=>by rfl) rfl) rfl rfl ?_
 refine GL.e0 (W:=[5]) (EF.tn (sz:=2) rfl rfl rfl rfl rfl rfl rfl rfl (cD (by kernel_rfl)) (ar 2) rfl rfl) rfl ?_
 refine GL.nil ?_
 change GW _ _ _ _ _ _
 refine GW.region ?_
 refine GL.py (PY.move rfl) rfl rfl ?_
 refine GL.y (YL.Cq (sz:=2) rfl rfl rfl (eS (by kernel_rfl)) (cD (by kernel_rfl)) (ar 2) rfl) rfl rfl ?_
 refine GL.py (PY.nilCheck rfl rfl) rfl rfl ?_
 refine GL.e0 (W:=[1000]) (EF.tn (sz:=2) rfl rfl rfl rfl rfl rfl rfl rfl (cD (by kernel_rfl)) (ar 2) rfl rfl) rfl ?_
 refine GL.nil ?_
 exact pC.mk (.inr rfl) [] (.aT []) (pr a b) trivial ⟨rfl,trivial⟩ rfl ⟨rfl,rfl⟩
theorem Hc (a0 b0:Int):GM Tryd.prog 38 [.val .nilIface,.loc 1000 0] (pr a0 b0) (fun g st=>g=.aT []∧st=pr a0 b0):=by
 refine GM.of (N:=16) Tryd.func38 rfl rfl rfl (fun cx hro=>?_)
 change GW _ _ _ _ _ _
 refine GW.seq ?_
 refine GW.region ?_
 refine GL.py (PY.move rfl) rfl rfl ?_
 refine GL.nil ?_
 change GW _ _ _ _ _ _
 refine GW.block ?_
 refine GW.seq ?_
 refine GW.region ?_
 refine GL.py (PY.A7 (b:=false) (ms:=#[]) rfl rfl (by kernel_rfl)) rfl rfl ?_
 refine GL.nil ?_
 change GW _ _ _ _ _ _
 refine GW.cond rfl (fun _=>?_) (fun h=>by cases h)
 refine GW.region ?_
 refine GL.py (PY.assign rfl) rfl rfl ?_
 refine GL.nil ?_
 exact pC.mk (.inr rfl) [] (.aT []) (pr a0 b0) trivial ⟨rfl,trivial⟩ rfl ⟨rfl,rfl⟩
section
variable {S:dr}
abbrev LC (S:dr):iv S:=⟨47,[.ae false (.int .i64),.ae false (.int .i64)],[],false,[],[],[],94,fun q=>some (.inr ((q.1,q.2),()))⟩
theorem LB:db Tryd.prog (LC S):=⟨Tryd.call47,fun q r h=>by
 cases h
 intro X μ w vs hX hst hl ha
 match vs,hl with
 | [u,v],_=>
  have h0:=ha 0 _ u rfl rfl
  have h1:=ha 1 _ v rfl rfl
  cases h0 with
  | aD h0=>
   cases h0
   cases h1 with
   | aD h1=>
    cases h1
    refine Calls.mono (Rk q.1 q.2 w) ?_
    rintro e w' ⟨rfl,rfl⟩
    exact .inr ⟨_,_,μ,rfl,⟨_,rfl,rfl,rfl⟩,hst⟩⟩
end
end Go.DN
