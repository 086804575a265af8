/-
  walk: the functions that throw and catch.
-/
import Derived.Test.YtmhbeopldeccmaaDoorTfA
import Derived.Test.YtmhbeopldeccmaaDoorSgA
set_option maxRecDepth 20000
set_option linter.unusedVariables false
set_option linter.unusedSectionVars false
set_option linter.unusedSimpArgs false
namespace Go.DN
open Go.AM Go.Proofs
theorem Q0 (x:Int×Int):uT 1000082 x=[{v:=.iface 82 (.agg #[.int .i64 x.1]),recovered:=false}]:=rfl
theorem Rc (e:Int) (w:World):Calls Tryd.prog 16 #[.bool true,.int .i64 e] w fun r w'=>r=.returned (.tuple #[])∧w'=w:=by
 go_enter Tryd.func16,Tryd.ntmps16
 go_wp2
 exact⟨rfl,.tuple #[],by simp[results,Tryd.results16,go_sem],rfl,rfl⟩
theorem Rd (e:Int) (w:World):Calls Tryd.prog 16 #[.bool false,.int .i64 e] w fun r w'=>r=.panicked (uT 1000082 (e,0))∧w'=w:=by
 go_enter Tryd.func16,Tryd.ntmps16
 go_wp2
 exact⟨rfl,rfl,rfl⟩
theorem PJ {s:St}{x:Operand}{a:Int}{dst:Option Nat}{ty:TypeId}{pos:String}{after:Array Edge}{guard:Option (Nat×Bool)}(hx:ev s x=some (.val (.iface 82 (.agg #[.int .i64 a])))):
  PY Tryd.prog s ⟨dst,.typeAssert x 20 82 true,ty,pos,after,guard⟩ (.aT [.val (.agg #[.int .i64 a]),.val (.bool true)]):=fun _ _ _ _ _ hrel=>by
 refine⟨.tuple #[.agg #[.int .i64 a],.bool true],?_,fun w'=>?_⟩
 ·refine .aT [_,_] [_,_] rfl ?_
  intro j g v hg hv
  match j with
  | 0=>cases hg;cases hv;exact .aD (.val _)
  | 1=>cases hg;cases hv;exact .aD (.val _)
  | j+2=>cases hg
 ·have h:(Instr.typeAssert (.iface 82 (.agg #[.int .i64 a])) 20 82 true).run Tryd.prog w'=.ok (.tuple #[.agg #[.int .i64 a],.bool true]) w':=by
   simp[Instr.typeAssert,go_sem]
  simp only[execOp,hrel.val hx,Sem.run_bind,h,Result.andThen_ok,Sem.run_pure]
def pe (a:Int):List (Nat×aq):=[(1000,⟨23,false,false,false,0,[.val (.int .i64 a)],none⟩)]
theorem Gu (a a0:Int):GM Tryd.prog 14 [.val (.iface 82 (.agg #[.int .i64 a])),.loc 1000 0] (pe a0) (fun g st=>g=.aT []∧st=pe a):=by
 refine GM.of (N:=17) Tryd.func14 rfl rfl rfl (fun cx hro=>?_)
 change GW _ _ _ _ _ _
 refine GW.seq ?_
 refine GW.region ?_
 refine GL.py (PY.move rfl) rfl rfl ?_
 refine GL.nil ?_
 change GW _ _ _ _ _ _
 refine GW.block ?_
 refine GW.seq ?_
 refine GW.region ?_
 refine GL.py (PY.A7 (b:=true) (ms:=#[]) rfl rfl (by kernel_rfl)) rfl rfl ?_
 refine GL.nil ?_
 change GW _ _ _ _ _ _
 refine GW.cond rfl (fun h=>by cases h) (fun _=>?_)
 refine GW.seq ?_
 refine GW.region ?_
 refine GL.py (PJ rfl) rfl rfl ?_
 refine GL.py (PY.extract rfl rfl) rfl rfl ?_
 refine GL.py (PY.extract rfl rfl) rfl rfl ?_
 refine GL.nil ?_
 change GW _ _ _ _ _ _
 refine GW.cond rfl (fun _=>?_) (fun h=>by cases h)
 refine GW.seq ?_
 refine GW.region ?_
 refine GL.e1 (W:=[]) (EF.alloc 5 (z:=.agg #[.int .i64 0]) (fun w=>by rfl) rfl) rfl rfl ?_
 refine GL.e0 (W:=[5]) (EF.tn (sz:=1) rfl rfl rfl rfl rfl rfl rfl rfl (cD (by kernel_rfl)) (ar 1) rfl rfl) rfl ?_
 refine GL.nil ?_
 change GW _ _ _ _ _ _
 refine GW.region ?_
 refine GL.py (PY.move rfl) rfl rfl ?_
 refine GL.py (PY.field (sz:=1) (ht:=Tryd.underlying82) (hf:=rfl) (hx:=rfl) (hg:=rfl) (cD (by kernel_rfl)) (by decide)) rfl rfl ?_
 refine GL.y (YL.wg rfl rfl rfl (eS (by kernel_rfl)) rfl rfl) rfl rfl ?_
 refine GL.py (PY.nilCheck rfl rfl) rfl rfl ?_
 refine GL.e0 (W:=[1000]) (EF.tn (sz:=1) rfl rfl rfl rfl rfl rfl rfl rfl (cD (by kernel_rfl)) (ar 1) rfl rfl) rfl ?_
 refine GL.nil ?_
 exact pC.mk (.inr rfl) [] (.aT []) (pe a) trivial ⟨rfl,trivial⟩ rfl ⟨rfl,rfl⟩
theorem Gv (a0:Int):GM Tryd.prog 14 [.val .nilIface,.loc 1000 0] (pe a0) (fun g st=>g=.aT []∧st=pe a0):=by
 refine GM.of (N:=17) Tryd.func14 rfl rfl rfl (fun cx hro=>?_)
 change GW _ _ _ _ _ _
 refine GW.seq ?_
 refine GW.region ?_
 refine GL.py (PY.move rfl) rfl rfl ?_
 refine GL.nil ?_
 change GW _ _ _ _ _ _
 refine GW.block ?_
 refine GW.seq ?_
 refine GW.region ?_
 refine GL.py (PY.A7 (b:=false) (ms:=#[]) rfl rfl (by kernel_rfl)) rfl rfl ?_
 refine GL.nil ?_
 change GW _ _ _ _ _ _
 refine GW.cond rfl (fun _=>?_) (fun h=>by cases h)
 refine GW.region ?_
 refine GL.py (PY.assign rfl) rfl rfl ?_
 refine GL.nil ?_
 exact pC.mk (.inr rfl) [] (.aT []) (pe a0) trivial ⟨rfl,trivial⟩ rfl ⟨rfl,rfl⟩
theorem RE {X : Nat → Prop} {μ : Mu} {w : World} {v0 : Value} {a0 : Int} {m : Md} (hX : ∀ b, X b → b < w.heap.size) (hst : cd (eg X (pe a0) μ w) μ (pe a0) w)
  (hv : aN ((eg X (pe a0) μ w).O (pe a0) μ) w.heap.size w μ (.loc 1000 0) v0) :
  CallsDIn (FF none) 0 Tryd.prog 13 #[v0] (qR 1000082 m) w fun e u' w' => ∃ v st' μ', e = .returned v ∧ (settle u' = .returning ∧ st' = (match m with | none => pe a0 | some x => pe x.1)) ∧ cd (eg X (pe a0) μ w) μ' st' w' := by
 refine callsDIn_of_wpSIn Tryd.func13 rfl trivial fun c0 cs hu => ?_
 have args : ∀ u : Value, ∀ (j : Nat) (g : G) (v : Value), ([.val u, .loc 1000 0] : List G)[j]? = some g → [u, v0][j]? = some v → aN ((eg X (pe a0) μ w).O (pe a0) μ) w.heap.size w μ g v := fun u j g v hg hv' => by
  match j with
  | 0 => cases hg; cases hv'; exact .aD (.val _)
  | 1 => cases hg; cases hv'; exact hv
  | j + 2 => cases hg
 have put : ∀ u : Value, Act.put { tmps := #[v0] ++ Array.replicate (Tryd.f13.ntmps - #[v0].size) undef, defers := [] } (some 1) u = ⟨#[v0, u, undef], []⟩ := fun u => by
  rw [Tryd.ntmps13]; rfl
 cases m with
 | none =>
  refine oZ rfl rfl rfl (by simp [Tryd.ntmps13, Region.wanted]) (fun f _ => trivial) (by simp [go_sem]) ⟨.nilIface, c0 :: cs, .inl ⟨by simp [recoverD, hu, qR], rfl, rfl⟩, ?_⟩
  have hc := mw (ro := none) (n := 0) |>.2 (Gv a0 X μ w [.nilIface, v0] hX hst rfl (args _))
  change wpOpsIn _ _ _ _ _ _ (Act.put { tmps := #[v0] ++ Array.replicate (Tryd.f13.ntmps - #[v0].size) undef, defers := [] } (some 1) _) w
  rw [put]
  simp [wpOpsIn, Oper.wpIn, go_sem, Region.wanted, Tryd.call14]
  refine ⟨trivial, (fun h => by cases h), ?_⟩
  dsimp only
  simp [Act.eval]
  refine CallsIn.mono hc ?_
  rintro e w1 (⟨v, r, st', μ', rfl, ⟨rfl, rfl⟩, h3, h4⟩ | ⟨_, _, _, _, h, _⟩)
  · exact ⟨rfl, c0.mode, rfl, .tuple #[], by simp [results, Tryd.results13, go_sem], ⟨_, rfl⟩, _, ⟨by rw [hu]; rfl, rfl⟩, _, h3⟩
  · cases h
 | some x =>
  refine oZ rfl rfl rfl (by simp [Tryd.ntmps13, Region.wanted]) (fun f _ => trivial) (by simp [go_sem]) ⟨.iface 82 (.agg #[.int .i64 x.1]), { c0 with mode := .panicking [{ v := .iface 82 (.agg #[.int .i64 x.1]), recovered := true }] } :: cs, .inr (by simp [recoverD, hu, qR, Q0]), ?_⟩
  have hc := mw (ro := none) (n := 0) |>.2 (Gu x.1 a0 X μ w [.iface 82 (.agg #[.int .i64 x.1]), v0] hX hst rfl (args _))
  change wpOpsIn _ _ _ _ _ _ (Act.put { tmps := #[v0] ++ Array.replicate (Tryd.f13.ntmps - #[v0].size) undef, defers := [] } (some 1) _) w
  rw [put]
  simp [wpOpsIn, Oper.wpIn, go_sem, Region.wanted, Tryd.call14]
  refine ⟨trivial, (fun h => by cases h), ?_⟩
  dsimp only
  simp [Act.eval]
  refine CallsIn.mono hc ?_
  rintro e w1 (⟨v, r, st', μ', rfl, ⟨rfl, rfl⟩, h3, h4⟩ | ⟨_, _, _, _, h, _⟩)
  · exact ⟨rfl, _, rfl, .tuple #[], by simp [results, Tryd.results13, go_sem], ⟨_, rfl⟩, _, ⟨rfl, rfl⟩, _, h3⟩
  · cases h
section
variable {S:dr}
abbrev Ly (S:dr):iv S:=⟨16,[.ae false .bool,.ae false (.int .i64)],[],false,[],[],[],1000082,fun q=>dX q.1 q.2⟩
theorem Lx:db Tryd.prog (Ly S):=⟨Tryd.call16,fun q r h=>by
 obtain⟨b,e⟩:=q
 intro X μ w vs hX hst hl ha
 match vs,hl with
 | [u,v],_=>
  have h0:=ha 0 _ u rfl rfl
  have h1:=ha 1 _ v rfl rfl
  cases h0 with
  | aD h0=>
   cases h0
   cases h1 with
   | aD h1=>
    cases h1
    cases b with
    | true=>
     cases h
     refine Calls.mono (Rc e w) ?_
     rintro e' w' ⟨rfl,rfl⟩
     exact .inl ⟨_,.aT [],[],μ,rfl,⟨(),rfl,rfl,rfl⟩,hst,.aT [] [] rfl (fun j g v hg=>by simp at hg)⟩
    | false=>
     cases h
     refine Calls.mono (Rd e w) ?_
     rintro e' w' ⟨rfl,rfl⟩
     exact .inr ⟨_,_,μ,rfl,⟨_,rfl,rfl,rfl⟩,hst⟩⟩
abbrev DS (S:dr):l6 S:=⟨13,[.loc 1000 0],[.box 23 false [.ae false (.int .i64)]],false,[(1000,.box 23 false [.ae true (.int .i64)])],true,fun m q=>some (match m with | none=>q | some x=>x.1)⟩
theorem GB:oa Tryd.prog 1000082 (DS S):=⟨Tryd.call13,fun m q r h=>by
 cases h
 intro X μ w vs hX hst hl ha
 match vs,hl with
 | [u],_=>
  have h0:=ha 0 _ u rfl rfl
  refine CallsDIn.mono (RE (m:=m) (a0:=q) hX hst h0) ?_
  rintro e u' w' ⟨v,st',μ',e1,⟨e2,e3⟩,e4⟩
  refine⟨v,st',μ',e1,⟨e2,?_⟩,e4⟩
  rw[e3]
  cases m <;> rfl⟩
end
end Go.DN
