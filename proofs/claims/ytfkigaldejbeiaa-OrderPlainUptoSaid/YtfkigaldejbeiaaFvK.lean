/-
  Orders: the plain law of OrderRuns: what is wrong; the eD of all statements.
-/
import Derived.Test.YtfkigaldejbeiaaFvJ
set_option linter.unusedSimpArgs false
set_option linter.unusedVariables false
namespace Go.DN.So
open Go.AM Go.DN
def qs (n:aM) (k:Nat):Int:=match n.bC[k]? with | some s=>s.ba.aU.length | none=>0
def pE (n:aM) (q:List aO×Nat):Int:=if q.1.length>8 then 2 else PL.fj (fun r=>fN r (qs n q.2)) q.1
def oW (n:aM) (times:List (List aO)):Int:=if wN n≠0 then wN n else if times.length≠n.bC.length then 2 else PL.fj (pE n) times.zipIdx
theorem Ob (fu:Nat){n:aM}{k:Nat}{s:c9}(hs:n.bC[k]?=some s) (hb:s.ba.aU.length≤4){body:List aO→Int→Option (Int⊕(Ex Unit (Int⊕(Ex Unit Int))))}(x5:List aO) (h5:x5.length≤8) (hf:10<fu)
  (hbody:body x5=fun v6=>cond (decide (v6<(x5.length:Int))) ((idx x5 v6).bind fun x7=>(idx n.bC (k:Int)).bind fun x8=>(some (fN x7 (x8.ba.aU.length:Int))).bind fun (r9:Int)=>
   cond (r9 !=0) (some (.inr (.ret (.inr (.ret r9))))) (some (.inl (IntKind.wrap .i64 (v6+1))))) (some (.inr (.dW ())))):
  aB (body x5) fu 0=some (match PL.np (PL.fj (fun r=>fN r (qs n k)) x5) with | some r=>Ex.ret (Sum.inr (Ex.ret r)) | none=>Ex.dW ()):=by
 have hB:qs n k=s.ba.aU.length:=by simp only[qs,hs]
 have:=PL.E5 (body:=body x5) x5 (fun k=>(k:Int)) (fun r=>(PL.np (fN r (qs n k))).map fun v=>(Sum.inr (Ex.ret v):Int⊕Ex Unit Int))
  (fun j x hj=>by
   have hw:=dh (ep hj) (by omega)
   rw[hbody]
   simp only[dec_lt hj,cond_true,bM hj,bM hs,ae,hw,hB]
   by_cases h0:fN x (s.ba.aU.length:Int)=0
   ·simp only[PL.bne_false h0,cond_false,h0,PL.zu];rfl
   ·simp only[PL.bne_true h0,cond_true,PL.BR h0];rfl)
  (by rw[hbody];simp only[eF,cond_false]) fu (by omega)
 have e:∀l:List aO,(l.findSome? fun r=>(PL.np (fN r (qs n k))).map fun v=>(Sum.inr (Ex.ret v):Int⊕Ex Unit Int))=(PL.np (PL.fj (fun r=>fN r (qs n k)) l)).map fun v=>Sum.inr (Ex.ret v):=fun l=>by
  rw[←PL.AX]
  induction l with
  | nil=>rfl
  | cons a l ih=>
   rw[kT,kT]
   cases PL.np (fN a (qs n k)) with
   | none=>exact ih
   | some v=>rfl
 rw[e] at this
 have this:aB (body x5) fu 0=_:=this
 rw[this]
 cases PL.np (PL.fj (fun r=>fN r (qs n k)) x5) <;> rfl
theorem ES (fu : Nat) (n : aM) (times : List (List aO)) (hs : n.cC.length ≤ 1048576) (hf : 2000000 < fu) : F.oy fu n times = some (oW n times) := by
  unfold oW F.oy
  rw [za fu n hs hf]
  simp only [ae]
  by_cases h0 : wN n = 0
  · obtain ⟨hl, hz, hg⟩ := lU h0
    rw [PL.bne_false h0, if_neg (by omega)]
    simp only [cond_false]
    by_cases h1 : times.length = n.bC.length
    · rw [PL.bne_false (by omega), if_neg (by omega)]
      simp only [cond_false]
      have key : ∀ (body : Int → Option (Int ⊕ (Ex Unit Int))), (∀ (k : Nat) (x : List aO), times[k]? = some x → body (k : Int) = some (match PL.np (pE n (x, k)) with | some r => .inr (.ret r) | none => .inl (((k + 1 : Nat) : Int)))) → body (times.length : Int) = some (.inr (.dW ())) →
          (eU (fun r => r) (aB body fu 0 : Option (Ex Unit Int)) fun (_ : Unit) => some 0) = some (PL.fj (pE n) times.zipIdx) := fun body hb he => by
        have := PL.E5 (body := body) times.zipIdx (fun k => (k : Int)) (fun q => PL.np (pE n q)) (fun k q hk => by
          obtain ⟨x, j⟩ := q
          obtain ⟨e1, e2⟩ := tu hk
          subst e2
          rw [hb j x e1]
          cases PL.np (pE n (x, j)) <;> rfl) (by rw [List.length_zipIdx]; exact he) fu (by rw [List.length_zipIdx]; omega)
        have this : aB body fu 0 = _ := this
        rw [this, PL.AX]
        by_cases h : PL.fj (pE n) times.zipIdx = 0
        · rw [h, PL.zu]; rfl
        · rw [PL.BR h]; rfl
      refine key _ (fun k x hk => ?_) (by simp only [F.nI, eF, cond_false])
      all_goals
        have hw := dh (ep hk) (by omega)
        have hsk : n.bC[k]? = some (n.bC[k]'(by have := ep hk; omega)) := ag _
        have gB := (hg _ (ar hsk)).dm.len
        have bB : ∀ x8, idx n.bC (k : Int) = some x8 → x8.ba.aU.length ≤ 4 := fun x8 h8 => by rw [bM hsk] at h8; cases h8; exact gB
        unfold pE
        by_cases h8 : x.length > 8
        · simp only [F.nI, dec_lt hk, cond_true, bM hk, ae, PL.du (show (x.length : Int) > 8 by omega), if_pos h8]
          rfl
        · rw [if_neg h8]
          first
            | have hr := Ob fu hsk gB (body := fun x => F.qN fu n (k : Int) x) x (by omega) (by omega) (by
                funext v; simp only [F.qN]; congr 1; congr 1; funext x7; rw [bM hsk]; simp only [ae]; rw [GX fu x7 _ (by omega) (by omega), ae])
              simp only [F.nI, dec_lt hk, cond_true, bM hk, ae, PL.cA (show ¬ (x.length : Int) > 8 by omega), cond_false]
              rw [hr, hw]
              cases PL.np (PL.fj (fun r => fN r (qs n k)) x) <;> rfl
    · rw [PL.bne_true (by omega), if_pos h1]
      rfl
  · rw [PL.bne_true h0, if_pos h0]
    rfl
structure yh (n:aM) (times:List (List aO)):Prop where
 wn:wN n=0
 len:times.length=n.bC.length
 row:∀(k:Nat) (x:List aO) (s:c9),times[k]?=some x→n.bC[k]?=some s→x.length≤8∧∀r∈x,fN r s.ba.aU.length=0
theorem Lo {n:aM}{times:List (List aO)}(h:oW n times=0):yh n times:=by
 unfold oW at h
 by_cases h0:wN n=0
 ·rw[if_neg (by omega)] at h
  by_cases h1:times.length=n.bC.length
  ·rw[if_neg (by omega)] at h
   refine⟨h0,h1,fun k x s hk hs=>?_⟩
   have:=PL.mo h (x,k) (by
    refine ar (i:=k) ?_
    rw[List.getElem?_zipIdx,hk];simp)
   unfold pE at this
   simp only[qs,hs] at this
   split at this
   ·cases this
   ·rename_i h8
    exact⟨by omega,PL.mo this⟩
  ·rw[if_pos h1] at h;cases h
 ·rw[if_pos h0] at h;exact absurd h h0
end Go.DN.So
