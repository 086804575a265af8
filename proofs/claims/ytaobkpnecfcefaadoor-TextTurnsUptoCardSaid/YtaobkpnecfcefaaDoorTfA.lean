/-
  Text: the functions that throw and catch.
-/
import Derived.Test.YtaobkpnecfcefaaDoorMgH
import Derived.Test.YtaobkpnecfcefaaDoorProg
import Derived.Tactics
import Derived.Tactics2
import Derived.Recover
import Derived.RecoverIn
import Derived.WalkLawsBesides
import Derived.KernelRfl
set_option maxRecDepth 20000
set_option linter.unusedVariables false
set_option linter.unusedSectionVars false
set_option linter.unusedSimpArgs false
namespace Go.AM
section
variable {P:Program}{s:St}{dst:Option Nat}{ty:TypeId}{pos:String}{after:Array Edge}{guard:Option (Nat×Bool)}
theorem PY.NW {t t':TypeId}{x:Operand}{b:Bool}{v:Value}{ms:_}(hx:ev s x=some (.val v)) (hb:Io v=some b) (ht:P.underlying t=some (.interface ms)):
  PY P s ⟨dst,.binOp .eql t x (.const .nilIface) t',ty,pos,after,guard⟩ (.val (.bool (!b))):=fun _ _ _ a _ hrel=>by
 refine⟨_,.aC (.val _),fun w'=>?_⟩
 have e1:=hrel.val hx
 have he:=FB (P:=P) hb ht w'
 have e2:(eqGuard .eql t x (.const .nilIface) v .nilIface).run P w'=.ok () w':=by
  cases v <;> cases hb <;> simp[eqGuard]
 have h1:binOp .eql t v .nilIface=(do pure (.bool (←Op.equal t v .nilIface)):Sem Value):=by cases v <;> cases hb <;> rfl
 have e3:(binOp .eql t v .nilIface).run P w'=.ok (.bool (!b)) w':=by
  simp only[h1,Sem.run_bind,he,Result.andThen_ok,Sem.run_pure]
 have e4:a.eval (.const .nilIface)=.nilIface:=rfl
 simp only[execOp,e1,e4,Sem.run_bind,e2,e3,Result.andThen_ok,Sem.run_pure]
theorem lI {F:Fence}{n:Nat}{Q:Exit→Act→List Frame→World→Prop}{a:Act}{cs:List Frame}{w:World}{id:Nat}{ops:Array Oper}{o:Oper}{l:List Nat}(hF0:F.round=none)
  (hl0:List.range ops.size=0::l) (ho:ops[0]?=some o) (hw:Region.wanted o (yielded ops a.tmps)=true) (hab:∀f,o.about P w a.eval=some f→F.fn f) (hr:(execOp a.eval o).run P w=.ok .recover w)
  (h:∃v cs',((recoverD cs=none∧v=.nilIface∧cs'=cs)∨recoverD cs=some (v,cs'))∧wpOpsIn F n P ops (fun e a' w'=>Q e a' cs' w') l (a.put o.dst v) w):(Code.region id ops false).wpSIn F n P Q a cs w:=by
 intro b k hb hro hF hroom
 obtain⟨v,cs',hv,h⟩:=h
 have h0:(lone (b.atR a (.inRegion ops (0::l)::k)) cs w).fenced P F:=fenced_oper hF hroom ho hab
 have hg:=stepGR_op (P:=P) (b:=b) (k:=k) (cs:=cs) (w:=w) (rest:=l) ho hw
 rw[hro,Oper.semAt_none] at hg
 have hfin:∀v,(b.atR a (.inRegion ops (0::l)::k)).finish v=b.atR (a.put o.dst v) (.inRegion ops l::k):=by
  intro v;rw[Frame.finish_atR,ho];rfl
 have hk:(b.atR a (.inRegion ops (0::l)::k)).kind=.deferred:=hb
 have htr:=tryRecover_deferred hk cs
 have hlen:cs'.length=cs.length:=by
  rcases hv with ⟨_,_,rfl⟩ | hv
  ·rfl
  ·exact recoverD_length hv
 obtain⟨e,a',w',hq,harr⟩:=wp_opsIn l (a.put o.dst v) w h b k cs' (hro.trans hF0.symm) hF (hlen▸hroom)
 refine⟨e,a',cs',w',hlen,hq,.of_steps (.one (fenced_calm hF hroom rfl) stepR_region) (.of_steps (.one (by rw[hl0];exact h0) (step_lone_go ?_)) harr)⟩
 rw[hl0,hg,←hfin]
 simp only[Frame.atR,hro] at htr⊢
 rcases hv with ⟨hrec,rfl,rfl⟩ | hrec
 ·simp[stepG.apply,hr,htr,hrec]
 ·simp[stepG.apply,hr,htr,hrec]
end
end Go.AM
namespace Go.DN
open Go.AM Go.Proofs
theorem UZ (a b:Int) (w:World):Calls Tryd.prog 56 #[.int .i64 a,.int .i64 b] w fun e w'=>e=.panicked (yZ 92 (a,b))∧w'=w:=by
 go_enter Tryd.func56,Tryd.ntmps56
 go_wp2
 exact⟨rfl,rfl,rfl⟩
theorem S5 {s:St}{x:Operand}{a b:Int}{dst:Option Nat}{ty:TypeId}{pos:String}{after:Array Edge}{guard:Option (Nat×Bool)}(hx:ev s x=some (.val (.iface 92 (.agg #[.int .i64 a,.int .i64 b])))):
  PY Tryd.prog s ⟨dst,.typeAssert x 20 92 true,ty,pos,after,guard⟩ (.aU [.val (.agg #[.int .i64 a,.int .i64 b]),.val (.bool true)]):=fun _ _ _ _ _ hrel=>by
 refine⟨.tuple #[.agg #[.int .i64 a,.int .i64 b],.bool true],?_,fun w'=>?_⟩
 ·refine .aU [_,_] [_,_] rfl ?_
  intro j g v hg hv
  match j with
  | 0=>cases hg;cases hv;exact .aC (.val _)
  | 1=>cases hg;cases hv;exact .aC (.val _)
  | j+2=>cases hg
 ·have h:(Instr.typeAssert (.iface 92 (.agg #[.int .i64 a,.int .i64 b])) 20 92 true).run Tryd.prog w'=.ok (.tuple #[.agg #[.int .i64 a,.int .i64 b],.bool true]) w':=by
   simp[Instr.typeAssert,go_sem]
  simp only[execOp,hrel.val hx,Sem.run_bind,h,Result.andThen_ok,Sem.run_pure]
def gP (a b:Int):List (Nat×ao):=[(1000,⟨29,false,false,false,0,[.val (.int .i64 a),.val (.int .i64 b)],none⟩)]
theorem wy (a b a0 b0:Int):GM Tryd.prog 30 [.val (.iface 92 (.agg #[.int .i64 a,.int .i64 b])),.loc 1000 0] (gP a0 b0) (fun g st=>g=.aU []∧st=gP a b):=by
 refine GM.of (N:=16) Tryd.func30 rfl rfl rfl (fun cx hro=>?_)
 change GW _ _ _ _ _ _
 refine GW.seq ?_
 refine GW.region ?_
 refine GL.py (PY.move rfl) rfl rfl ?_
 refine GL.nil ?_
 change GW _ _ _ _ _ _
 refine GW.block ?_
 refine GW.seq ?_
 refine GW.region ?_
 refine GL.py (PY.NW (b:=true) (ms:=#[]) rfl rfl (by kernel_rfl)) rfl rfl ?_
 refine GL.nil ?_
 change GW _ _ _ _ _ _
 refine GW.cond rfl (fun h=>by cases h) (fun _=>?_)
 refine GW.seq ?_
 refine GW.region ?_
 refine GL.py (S5 rfl) rfl rfl ?_
 refine GL.py (PY.extract rfl rfl) rfl rfl ?_
 refine GL.py (PY.extract rfl rfl) rfl rfl ?_
 refine GL.nil ?_
 change GW _ _ _ _ _ _
 refine GW.cond rfl (fun _=>?_) (fun h=>by cases h)
 refine GW.seq ?_
 refine GW.region ?_
 refine GL.e1 (W:=[]) (EF.alloc 5 (z:=.agg #[.int .i64 0,.int .i64 0]) (fun w=>by rfl) rfl) rfl rfl ?_
 refine GL.e0 (W:=[5]) (EF.za (sz:=2) rfl rfl rfl rfl rfl rfl rfl rfl (cU (by kernel_rfl)) (aq 2) rfl rfl) rfl ?_
 refine GL.nil ?_
 change GW _ _ _ _ _ _
 refine GW.region ?_
 refine GL.py (PY.move rfl) rfl rfl ?_
 refine GL.y (YL.Et (sz:=2) rfl rfl rfl (ff (by kernel_rfl)) (cU (by kernel_rfl)) (aq 2) rfl) rfl rfl ?_
 refine GL.py (PY.nilCheck rfl rfl) rfl rfl ?_
 refine GL.e0 (W:=[1000]) (EF.za (sz:=2) rfl rfl rfl rfl rfl rfl rfl rfl (cU (by kernel_rfl)) (aq 2) rfl rfl) rfl ?_
 refine GL.nil ?_
 exact sJ.mk (.inr rfl) [] (.aU []) (gP a b) trivial ⟨rfl,trivial⟩ rfl ⟨rfl,rfl⟩
theorem wz (a0 b0:Int):GM Tryd.prog 30 [.val .nilIface,.loc 1000 0] (gP a0 b0) (fun g st=>g=.aU []∧st=gP a0 b0):=by
 refine GM.of (N:=16) Tryd.func30 rfl rfl rfl (fun cx hro=>?_)
 change GW _ _ _ _ _ _
 refine GW.seq ?_
 refine GW.region ?_
 refine GL.py (PY.move rfl) rfl rfl ?_
 refine GL.nil ?_
 change GW _ _ _ _ _ _
 refine GW.block ?_
 refine GW.seq ?_
 refine GW.region ?_
 refine GL.py (PY.NW (b:=false) (ms:=#[]) rfl rfl (by kernel_rfl)) rfl rfl ?_
 refine GL.nil ?_
 change GW _ _ _ _ _ _
 refine GW.cond rfl (fun _=>?_) (fun h=>by cases h)
 refine GW.region ?_
 refine GL.py (PY.assign rfl) rfl rfl ?_
 refine GL.nil ?_
 exact sJ.mk (.inr rfl) [] (.aU []) (gP a0 b0) trivial ⟨rfl,trivial⟩ rfl ⟨rfl,rfl⟩
theorem VA {X : Nat → Prop} {μ : Mu} {w : World} {v0 : Value} {a0 b0 : Int} {m : Md} (hX : ∀ b, X b → b < w.heap.size) (hst : bP (dw X (gP a0 b0) μ w) μ (gP a0 b0) w)
  (hv : aM ((dw X (gP a0 b0) μ w).O (gP a0 b0) μ) w.heap.size w μ (.loc 1000 0) v0) :
  CallsDIn (FF none) 0 Tryd.prog 29 #[v0] (pK 92 m) w fun e u' w' => ∃ v st' μ', e = .returned v ∧ (settle u' = .returning ∧ st' = (match m with | none => gP a0 b0 | some x => gP x.1 x.2)) ∧ bP (dw X (gP a0 b0) μ w) μ' st' w' := by
 refine callsDIn_of_wpSIn Tryd.func29 rfl trivial fun c0 cs hu => ?_
 have args : ∀ u : Value, ∀ (j : Nat) (g : G) (v : Value), ([.val u, .loc 1000 0] : List G)[j]? = some g → [u, v0][j]? = some v → aM ((dw X (gP a0 b0) μ w).O (gP a0 b0) μ) w.heap.size w μ g v := fun u j g v hg hv' => by
  match j with
  | 0 => cases hg; cases hv'; exact .aC (.val _)
  | 1 => cases hg; cases hv'; exact hv
  | j + 2 => cases hg
 have put : ∀ u : Value, Act.put { tmps := #[v0] ++ Array.replicate (Tryd.f29.ntmps - #[v0].size) undef, defers := [] } (some 1) u = ⟨#[v0, u, undef], []⟩ := fun u => by
  rw [Tryd.ntmps29]; rfl
 cases m with
 | none =>
  refine lI rfl rfl rfl (by simp [Tryd.ntmps29, Region.wanted]) (fun f _ => trivial) (by simp [go_sem]) ⟨.nilIface, c0 :: cs, .inl ⟨by simp [recoverD, hu, pK], rfl, rfl⟩, ?_⟩
  have hc := j0 (ro := none) (n := 0) |>.2 (wz a0 b0 X μ w [.nilIface, v0] hX hst rfl (args _))
  change wpOpsIn _ _ _ _ _ _ (Act.put { tmps := #[v0] ++ Array.replicate (Tryd.f29.ntmps - #[v0].size) undef, defers := [] } (some 1) _) w
  rw [put]
  simp [wpOpsIn, Oper.wpIn, go_sem, Region.wanted, Tryd.call30]
  refine ⟨trivial, (fun h => by cases h), ?_⟩
  dsimp only
  simp [Act.eval]
  refine CallsIn.mono hc ?_
  rintro e w1 (⟨v, r, st', μ', rfl, ⟨rfl, rfl⟩, h3, h4⟩ | ⟨_, _, _, _, h, _⟩)
  · exact ⟨rfl, c0.mode, rfl, .tuple #[], by simp [results, Tryd.results29, go_sem], ⟨_, rfl⟩, _, ⟨by rw [hu]; rfl, rfl⟩, _, h3⟩
  · cases h
 | some x =>
  refine lI rfl rfl rfl (by simp [Tryd.ntmps29, Region.wanted]) (fun f _ => trivial) (by simp [go_sem]) ⟨.iface 92 (.agg #[.int .i64 x.1, .int .i64 x.2]), { c0 with mode := .panicking [{ v := .iface 92 (.agg #[.int .i64 x.1, .int .i64 x.2]), recovered := true }] } :: cs, .inr (by simp [recoverD, hu, pK, yZ]), ?_⟩
  have hc := j0 (ro := none) (n := 0) |>.2 (wy x.1 x.2 a0 b0 X μ w [.iface 92 (.agg #[.int .i64 x.1, .int .i64 x.2]), v0] hX hst rfl (args _))
  change wpOpsIn _ _ _ _ _ _ (Act.put { tmps := #[v0] ++ Array.replicate (Tryd.f29.ntmps - #[v0].size) undef, defers := [] } (some 1) _) w
  rw [put]
  simp [wpOpsIn, Oper.wpIn, go_sem, Region.wanted, Tryd.call30]
  refine ⟨trivial, (fun h => by cases h), ?_⟩
  dsimp only
  simp [Act.eval]
  refine CallsIn.mono hc ?_
  rintro e w1 (⟨v, r, st', μ', rfl, ⟨rfl, rfl⟩, h3, h4⟩ | ⟨_, _, _, _, h, _⟩)
  · exact ⟨rfl, _, rfl, .tuple #[], by simp [results, Tryd.results29, go_sem], ⟨_, rfl⟩, _, ⟨rfl, rfl⟩, _, h3⟩
  · cases h
section
variable {S:dx}
abbrev OD (S:dx):eW S:=⟨56,[.ab false (.int .i64),.ab false (.int .i64)],[],false,[],[],[],92,fun q=>some (.inr ((q.1,q.2),()))⟩
theorem OC:bH Tryd.prog (OD S):=⟨Tryd.call56,fun q r h=>by
 cases h
 intro X μ w vs hX hst hl ha
 match vs,hl with
 | [u,v],_=>
  have h0:=ha 0 _ u rfl rfl
  have h1:=ha 1 _ v rfl rfl
  cases h0 with
  | aC h0=>
   cases h0
   cases h1 with
   | aC h1=>
    cases h1
    refine Calls.mono (UZ q.1 q.2 w) ?_
    rintro e w' ⟨rfl,rfl⟩
    exact .inr ⟨_,_,μ,rfl,⟨_,rfl,rfl,rfl⟩,hst⟩⟩
abbrev IW (S:dx):kO S:=⟨29,[.loc 1000 0],[.box 29 false [.ab false (.int .i64),.ab false (.int .i64)]],false,[(1000,.box 29 false [.ab true (.int .i64),.ab true (.int .i64)])],true,fun m q=>some (match m with | none=>q | some x=>x)⟩
theorem Jo:ja Tryd.prog 92 (IW S):=⟨Tryd.call29,fun m q r h=>by
 cases h
 intro X μ w vs hX hst hl ha
 match vs,hl with
 | [u],_=>
  have h0:=ha 0 _ u rfl rfl
  refine CallsDIn.mono (VA (m:=m) (a0:=q.1) (b0:=q.2) hX hst h0) ?_
  rintro e u' w' ⟨v,st',μ',e1,⟨e2,e3⟩,e4⟩
  refine⟨v,st',μ',e1,⟨e2,?_⟩,e4⟩
  rw[e3]
  cases m <;> rfl⟩
end
end Go.DN
