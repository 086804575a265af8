/-
  Text: the functions that throw and catch.
-/
import Derived.Test.YtaobkpnecfcefaaDoorMgH
import Derived.Test.YtaobkpnecfcefaaDoorProg
import Derived.Tactics
import Derived.Tactics2
import Derived.Recover
import Derived.RecoverIn
import Derived.WalkLawsBesides
import Derived.KernelRfl
set_option maxRecDepth 20000
set_option linter.unusedVariables false
set_option linter.unusedSectionVars false
set_option linter.unusedSimpArgs false
namespace Go.AM
section
variable {P:Program}{s:St}{dst:Option Nat}{ty:TypeId}{pos:String}{after:Array Edge}{guard:Option (Nat×Bool)}
theorem PY.ifcVal {t t':TypeId}{x:Operand}{b:Bool}{v:Value}{ms:_}(hx:ev s x=some (.val v)) (hb:ifcB v=some b) (ht:P.underlying t=some (.interface ms)):
  PY P s ⟨dst,.binOp .eql t x (.const .nilIface) t',ty,pos,after,guard⟩ (.val (.bool (!b))):=fun _ _ _ a _ hrel=>by
 refine⟨_,.imm (.val _),fun w'=>?_⟩
 have e1:=hrel.val hx
 have he:=equal_ifc (P:=P) hb ht w'
 have e2:(eqGuard .eql t x (.const .nilIface) v .nilIface).run P w'=.ok () w':=by
  cases v <;> cases hb <;> simp[eqGuard]
 have h1:binOp .eql t v .nilIface=(do pure (.bool (←Op.equal t v .nilIface)):Sem Value):=by cases v <;> cases hb <;> rfl
 have e3:(binOp .eql t v .nilIface).run P w'=.ok (.bool (!b)) w':=by
  simp only[h1,Sem.run_bind,he,Result.andThen_ok,Sem.run_pure]
 have e4:a.eval (.const .nilIface)=.nilIface:=rfl
 simp only[execOp,e1,e4,Sem.run_bind,e2,e3,Result.andThen_ok,Sem.run_pure]
theorem wpSIn_recover {F:Fence}{n:Nat}{Q:Exit→Act→List Frame→World→Prop}{a:Act}{cs:List Frame}{w:World}{id:Nat}{ops:Array Oper}{o:Oper}{l:List Nat}(hF0:F.round=none)
  (hl0:List.range ops.size=0::l) (ho:ops[0]?=some o) (hw:Region.wanted o (yielded ops a.tmps)=true) (hab:∀f,o.about P w a.eval=some f→F.fn f) (hr:(execOp a.eval o).run P w=.ok .recover w)
  (h:∃v cs',((recoverD cs=none∧v=.nilIface∧cs'=cs)∨recoverD cs=some (v,cs'))∧wpOpsIn F n P ops (fun e a' w'=>Q e a' cs' w') l (a.put o.dst v) w):(Code.region id ops false).wpSIn F n P Q a cs w:=by
 intro b k hb hro hF hroom
 obtain⟨v,cs',hv,h⟩:=h
 have h0:(lone (b.atR a (.inRegion ops (0::l)::k)) cs w).fenced P F:=fenced_oper hF hroom ho hab
 have hg:=stepGR_op (P:=P) (b:=b) (k:=k) (cs:=cs) (w:=w) (rest:=l) ho hw
 rw[hro,Oper.semAt_none] at hg
 have hfin:∀v,(b.atR a (.inRegion ops (0::l)::k)).finish v=b.atR (a.put o.dst v) (.inRegion ops l::k):=by
  intro v;rw[Frame.finish_atR,ho];rfl
 have hk:(b.atR a (.inRegion ops (0::l)::k)).kind=.deferred:=hb
 have htr:=tryRecover_deferred hk cs
 have hlen:cs'.length=cs.length:=by
  rcases hv with ⟨_,_,rfl⟩ | hv
  ·rfl
  ·exact recoverD_length hv
 obtain⟨e,a',w',hq,harr⟩:=wp_opsIn l (a.put o.dst v) w h b k cs' (hro.trans hF0.symm) hF (hlen▸hroom)
 refine⟨e,a',cs',w',hlen,hq,.of_steps (.one (fenced_calm hF hroom rfl) stepR_region) (.of_steps (.one (by rw[hl0];exact h0) (step_lone_go ?_)) harr)⟩
 rw[hl0,hg,←hfin]
 simp only[Frame.atR,hro] at htr⊢
 rcases hv with ⟨hrec,rfl,rfl⟩ | hrec
 ·simp[stepG.apply,hr,htr,hrec]
 ·simp[stepG.apply,hr,htr,hrec]
end
end Go.AM
namespace Go.DN
open Go.AM Go.Proofs
theorem failC (a b:Int) (w:World):Calls Tryd.prog 56 #[.int .i64 a,.int .i64 b] w fun e w'=>e=.panicked (thrE 92 (a,b))∧w'=w:=by
 go_enter Tryd.func56,Tryd.ntmps56
 go_wp2
 exact⟨rfl,rfl,rfl⟩
theorem assertC {s:St}{x:Operand}{a b:Int}{dst:Option Nat}{ty:TypeId}{pos:String}{after:Array Edge}{guard:Option (Nat×Bool)}(hx:ev s x=some (.val (.iface 92 (.agg #[.int .i64 a,.int .i64 b])))):
  PY Tryd.prog s ⟨dst,.typeAssert x 20 92 true,ty,pos,after,guard⟩ (.tup [.val (.agg #[.int .i64 a,.int .i64 b]),.val (.bool true)]):=fun _ _ _ _ _ hrel=>by
 refine⟨.tuple #[.agg #[.int .i64 a,.int .i64 b],.bool true],?_,fun w'=>?_⟩
 ·refine .tup [_,_] [_,_] rfl ?_
  intro j g v hg hv
  match j with
  | 0=>cases hg;cases hv;exact .imm (.val _)
  | 1=>cases hg;cases hv;exact .imm (.val _)
  | j+2=>cases hg
 ·have h:(Instr.typeAssert (.iface 92 (.agg #[.int .i64 a,.int .i64 b])) 20 92 true).run Tryd.prog w'=.ok (.tuple #[.agg #[.int .i64 a,.int .i64 b],.bool true]) w':=by
   simp[Instr.typeAssert,go_sem]
  simp only[execOp,hrel.val hx,Sem.run_bind,h,Result.andThen_ok,Sem.run_pure]
def fbox (a b:Int):List (Nat×Blk):=[(1000,⟨29,false,false,false,0,[.val (.int .i64 a),.val (.int .i64 b)],none⟩)]
theorem caught_some (a b a0 b0:Int):GM Tryd.prog 30 [.val (.iface 92 (.agg #[.int .i64 a,.int .i64 b])),.loc 1000 0] (fbox a0 b0) (fun g st=>g=.tup []∧st=fbox a b):=by
 refine GM.of (N:=16) Tryd.func30 rfl rfl rfl (fun cx hro=>?_)
 change GW _ _ _ _ _ _
 refine GW.seq ?_
 refine GW.region ?_
 refine GL.py (PY.move rfl) rfl rfl ?_
 refine GL.nil ?_
 change GW _ _ _ _ _ _
 refine GW.block ?_
 refine GW.seq ?_
 refine GW.region ?_
 refine GL.py (PY.ifcVal (b:=true) (ms:=#[]) rfl rfl (by kernel_rfl)) rfl rfl ?_
 refine GL.nil ?_
 change GW _ _ _ _ _ _
 refine GW.cond rfl (fun h=>by cases h) (fun _=>?_)
 refine GW.seq ?_
 refine GW.region ?_
 refine GL.py (assertC rfl) rfl rfl ?_
 refine GL.py (PY.extract rfl rfl) rfl rfl ?_
 refine GL.py (PY.extract rfl rfl) rfl rfl ?_
 refine GL.nil ?_
 change GW _ _ _ _ _ _
 refine GW.cond rfl (fun _=>?_) (fun h=>by cases h)
 refine GW.seq ?_
 refine GW.region ?_
 refine GL.e1 (W:=[]) (EF.alloc 5 (z:=.agg #[.int .i64 0,.int .i64 0]) (fun w=>by rfl) rfl) rfl rfl ?_
 refine GL.e0 (W:=[5]) (EF.storeN (sz:=2) rfl rfl rfl rfl rfl rfl rfl rfl (sizP_ok (by kernel_rfl)) (Nat.le_refl 2) rfl rfl) rfl ?_
 refine GL.nil ?_
 change GW _ _ _ _ _ _
 refine GW.region ?_
 refine GL.py (PY.move rfl) rfl rfl ?_
 refine GL.y (YL.loadAgg (sz:=2) rfl rfl rfl (aggP_ok (by kernel_rfl)) (sizP_ok (by kernel_rfl)) (Nat.le_refl 2) rfl) rfl rfl ?_
 refine GL.py (PY.nilCheck rfl rfl) rfl rfl ?_
 refine GL.e0 (W:=[1000]) (EF.storeN (sz:=2) rfl rfl rfl rfl rfl rfl rfl rfl (sizP_ok (by kernel_rfl)) (Nat.le_refl 2) rfl rfl) rfl ?_
 refine GL.nil ?_
 exact RetQ.mk (.inr rfl) [] (.tup []) (fbox a b) trivial ⟨rfl,trivial⟩ rfl ⟨rfl,rfl⟩
theorem caught_none (a0 b0:Int):GM Tryd.prog 30 [.val .nilIface,.loc 1000 0] (fbox a0 b0) (fun g st=>g=.tup []∧st=fbox a0 b0):=by
 refine GM.of (N:=16) Tryd.func30 rfl rfl rfl (fun cx hro=>?_)
 change GW _ _ _ _ _ _
 refine GW.seq ?_
 refine GW.region ?_
 refine GL.py (PY.move rfl) rfl rfl ?_
 refine GL.nil ?_
 change GW _ _ _ _ _ _
 refine GW.block ?_
 refine GW.seq ?_
 refine GW.region ?_
 refine GL.py (PY.ifcVal (b:=false) (ms:=#[]) rfl rfl (by kernel_rfl)) rfl rfl ?_
 refine GL.nil ?_
 change GW _ _ _ _ _ _
 refine GW.cond rfl (fun _=>?_) (fun h=>by cases h)
 refine GW.region ?_
 refine GL.py (PY.assign rfl) rfl rfl ?_
 refine GL.nil ?_
 exact RetQ.mk (.inr rfl) [] (.tup []) (fbox a0 b0) trivial ⟨rfl,trivial⟩ rfl ⟨rfl,rfl⟩
section
variable {S:Sig}
abbrev c_fail (S:Sig):ConP S:=⟨56,[.dat false (.int .i64),.dat false (.int .i64)],[],false,[],[],[],92,fun q=>some (.inr ((q.1,q.2),()))⟩
theorem c_fail_ok:ConPOk Tryd.prog (c_fail S):=⟨Tryd.call56,fun q r h=>by
 cases h
 intro X μ w vs hX hst hl ha
 match vs,hl with
 | [u,v],_=>
  have h0:=ha 0 _ u rfl rfl
  have h1:=ha 1 _ v rfl rfl
  cases h0 with
  | imm h0=>
   cases h0
   cases h1 with
   | imm h1=>
    cases h1
    refine Calls.mono (failC q.1 q.2 w) ?_
    rintro e w' ⟨rfl,rfl⟩
    exact .inr ⟨_,_,μ,rfl,⟨_,rfl,rfl,rfl⟩,hst⟩⟩
end
end Go.DN
