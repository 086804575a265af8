/-
  Orders: the plain law of OrderRuns: what is wrong; the spots of all statements.
-/
import Derived.Test.YtfkigaldejbeiaaFvJ
set_option linter.unusedSectionVars false
set_option linter.unusedSimpArgs false
set_option linter.unusedVariables false
namespace Go.DN.So
open Go.AM Go.DN
def boxL (n:SNest) (k:Nat):Int:=match n.Stmts[k]? with | some s=>s.Over.Box.length | none=>0
def timeW (n:SNest) (q:List SRow×Nat):Int:=if q.1.length>8 then 2 else PL.firstW (fun r=>rowW r (boxL n q.2)) q.1
def oW (n:SNest) (times:List (List SRow)):Int:=if wN n≠0 then wN n else if times.length≠n.Stmts.length then 2 else PL.firstW (timeW n) times.zipIdx
theorem row_loop (fu:Nat){n:SNest}{k:Nat}{s:SStmt}(hs:n.Stmts[k]?=some s) (hb:s.Over.Box.length≤4){body:List SRow→Int→Option (Int⊕(Ex Unit (Int⊕(Ex Unit Int))))}(x5:List SRow) (h5:x5.length≤8) (hf:10<fu)
  (hbody:body x5=fun v6=>cond (decide (v6<(x5.length:Int))) ((idx x5 v6).bind fun x7=>(idx n.Stmts (k:Int)).bind fun x8=>(some (rowW x7 (x8.Over.Box.length:Int))).bind fun (r9:Int)=>
   cond (r9 !=0) (some (.inr (.ret (.inr (.ret r9))))) (some (.inl (IntKind.wrap .i64 (v6+1))))) (some (.inr (.brk ())))):
  loopF (body x5) fu 0=some (match PL.errI (PL.firstW (fun r=>rowW r (boxL n k)) x5) with | some r=>Ex.ret (Sum.inr (Ex.ret r)) | none=>Ex.brk ()):=by
 have hB:boxL n k=s.Over.Box.length:=by simp only[boxL,hs]
 have:=PL.loop_find (body:=body x5) x5 (fun k=>(k:Int)) (fun r=>(PL.errI (rowW r (boxL n k))).map fun v=>(Sum.inr (Ex.ret v):Int⊕Ex Unit Int))
  (fun j x hj=>by
   have hw:=wrap_succ (get_lt hj) (by omega)
   rw[hbody]
   simp only[dec_lt hj,cond_true,idx_nat hj,idx_nat hs,Option.bind_some,hw,hB]
   by_cases h0:rowW x (s.Over.Box.length:Int)=0
   ·simp only[PL.bne_false h0,cond_false,h0,PL.errI_zero];rfl
   ·simp only[PL.bne_true h0,cond_true,PL.errI_pos h0];rfl)
  (by rw[hbody];simp only[dec_end,cond_false]) fu (by omega)
 have e:∀l:List SRow,(l.findSome? fun r=>(PL.errI (rowW r (boxL n k))).map fun v=>(Sum.inr (Ex.ret v):Int⊕Ex Unit Int))=(PL.errI (PL.firstW (fun r=>rowW r (boxL n k)) l)).map fun v=>Sum.inr (Ex.ret v):=fun l=>by
  rw[←PL.firstW_find]
  induction l with
  | nil=>rfl
  | cons a l ih=>
   rw[List.findSome?_cons,List.findSome?_cons]
   cases PL.errI (rowW a (boxL n k)) with
   | none=>exact ih
   | some v=>rfl
 rw[e] at this
 have this:loopF (body x5) fu 0=_:=this
 rw[this]
 cases PL.errI (PL.firstW (fun r=>rowW r (boxL n k)) x5) <;> rfl
theorem oWrong_ok (fu : Nat) (n : SNest) (times : List (List SRow)) (hs : n.Sizes.length ≤ 1048576) (hf : 2000000 < fu) : F.order_Wrong fu n times = some (oW n times) ∧ F.adjointref11_Wrong fu n times = some (oW n times) := by
  unfold oW F.order_Wrong F.adjointref11_Wrong
  rw [nestWrong_ok fu n hs hf, refWrong10_ok fu n hs hf]
  simp only [Option.bind_some]
  by_cases h0 : wN n = 0
  · obtain ⟨hl, hz, hg⟩ := good_all h0
    rw [PL.bne_false h0, if_neg (by omega)]
    simp only [cond_false]
    by_cases h1 : times.length = n.Stmts.length
    · rw [PL.bne_false (by omega), if_neg (by omega)]
      simp only [cond_false]
      have key : ∀ (body : Int → Option (Int ⊕ (Ex Unit Int))), (∀ (k : Nat) (x : List SRow), times[k]? = some x → body (k : Int) = some (match PL.errI (timeW n (x, k)) with | some r => .inr (.ret r) | none => .inl (((k + 1 : Nat) : Int)))) → body (times.length : Int) = some (.inr (.brk ())) →
          (bindE (fun r => r) (loopF body fu 0 : Option (Ex Unit Int)) fun (_ : Unit) => some 0) = some (PL.firstW (timeW n) times.zipIdx) := fun body hb he => by
        have := PL.loop_find (body := body) times.zipIdx (fun k => (k : Int)) (fun q => PL.errI (timeW n q)) (fun k q hk => by
          obtain ⟨x, j⟩ := q
          obtain ⟨e1, e2⟩ := zip_get hk
          subst e2
          rw [hb j x e1]
          cases PL.errI (timeW n (x, j)) <;> rfl) (by rw [List.length_zipIdx]; exact he) fu (by rw [List.length_zipIdx]; omega)
        have this : loopF body fu 0 = _ := this
        rw [this, PL.firstW_find]
        by_cases h : PL.firstW (timeW n) times.zipIdx = 0
        · rw [h, PL.errI_zero]; rfl
        · rw [PL.errI_pos h]; rfl
      refine ⟨key _ (fun k x hk => ?_) (by simp only [F.order_Wrong_l2, dec_end, cond_false]), key _ (fun k x hk => ?_) (by simp only [F.adjointref11_Wrong_l2, dec_end, cond_false])⟩
      all_goals
        have hw := wrap_succ (get_lt hk) (by omega)
        have hsk : n.Stmts[k]? = some (n.Stmts[k]'(by have := get_lt hk; omega)) := List.getElem?_eq_getElem _
        have gB := (hg _ (List.mem_of_getElem? hsk)).over.len
        have bB : ∀ x8, idx n.Stmts (k : Int) = some x8 → x8.Over.Box.length ≤ 4 := fun x8 h8 => by rw [idx_nat hsk] at h8; cases h8; exact gB
        unfold timeW
        by_cases h8 : x.length > 8
        · simp only [F.order_Wrong_l2, F.adjointref11_Wrong_l2, dec_lt hk, cond_true, idx_nat hk, Option.bind_some, PL.dec_true (show (x.length : Int) > 8 by omega), if_pos h8]
          rfl
        · rw [if_neg h8]
          first
            | have hr := row_loop fu hsk gB (body := fun x => F.order_Wrong_l1 fu n (k : Int) x) x (by omega) (by omega) (by
                funext v; simp only [F.order_Wrong_l1]; congr 1; congr 1; funext x7; rw [idx_nat hsk]; simp only [Option.bind_some]; rw [row_ok fu x7 _ (by omega) (by omega), Option.bind_some])
              simp only [F.order_Wrong_l2, dec_lt hk, cond_true, idx_nat hk, Option.bind_some, PL.dec_false (show ¬ (x.length : Int) > 8 by omega), cond_false]
              rw [hr, hw]
              cases PL.errI (PL.firstW (fun r => rowW r (boxL n k)) x) <;> rfl
            | have hr := row_loop fu hsk gB (body := fun x => F.adjointref11_Wrong_l1 fu n (k : Int) x) x (by omega) (by omega) (by
                funext v; simp only [F.adjointref11_Wrong_l1]; congr 1; congr 1; funext x7; rw [idx_nat hsk]; simp only [Option.bind_some]; rw [refRow_ok fu x7 _ (by omega) (by omega), Option.bind_some])
              simp only [F.adjointref11_Wrong_l2, dec_lt hk, cond_true, idx_nat hk, Option.bind_some, PL.dec_false (show ¬ (x.length : Int) > 8 by omega), cond_false]
              rw [hr, hw]
              cases PL.errI (PL.firstW (fun r => rowW r (boxL n k)) x) <;> rfl
    · rw [PL.bne_true (by omega), if_pos h1]
      exact ⟨rfl, rfl⟩
  · rw [PL.bne_true h0, if_pos h0]
    exact ⟨rfl, rfl⟩
structure GoodO (n:SNest) (times:List (List SRow)):Prop where
 wn:wN n=0
 len:times.length=n.Stmts.length
 row:∀(k:Nat) (x:List SRow) (s:SStmt),times[k]?=some x→n.Stmts[k]?=some s→x.length≤8∧∀r∈x,rowW r s.Over.Box.length=0
theorem goodO {n:SNest}{times:List (List SRow)}(h:oW n times=0):GoodO n times:=by
 unfold oW at h
 by_cases h0:wN n=0
 ·rw[if_neg (by omega)] at h
  by_cases h1:times.length=n.Stmts.length
  ·rw[if_neg (by omega)] at h
   refine⟨h0,h1,fun k x s hk hs=>?_⟩
   have:=PL.firstW_zero h (x,k) (by
    refine List.mem_of_getElem? (i:=k) ?_
    rw[List.getElem?_zipIdx,hk];simp)
   unfold timeW at this
   simp only[boxL,hs] at this
   split at this
   ·cases this
   ·rename_i h8
    exact⟨by omega,PL.firstW_zero this⟩
  ·rw[if_pos h1] at h;cases h
 ·rw[if_pos h0] at h;exact absurd h h0
end Go.DN.So
