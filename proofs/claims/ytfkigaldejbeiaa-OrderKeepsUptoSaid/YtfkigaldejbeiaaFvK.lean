/-
  Orders: the plain law of OrderRuns: what is wrong; the eQ of all statements.
-/
import Derived.Test.YtfkigaldejbeiaaFvJ
set_option linter.unusedSectionVars false
set_option linter.unusedSimpArgs false
set_option linter.unusedVariables false
namespace Go.DN.So
open Go.AM Go.DN
def p9 (n:aP) (k:Nat):Int:=match n.cd[k]? with | some s=>s.bI.ba.length | none=>0
def pg (n:aP) (q:List aS×Nat):Int:=if q.1.length>8 then 2 else PL.fc (fun r=>fK r (p9 n q.2)) q.1
def oW (n:aP) (times:List (List aS)):Int:=if wN n≠0 then wN n else if times.length≠n.cd.length then 2 else PL.fc (pg n) times.zipIdx
theorem Nh (fu:Nat){n:aP}{k:Nat}{s:dh}(hs:n.cd[k]?=some s) (hb:s.bI.ba.length≤4){body:List aS→Int→Option (Int⊕(Ex Unit (Int⊕(Ex Unit Int))))}(x5:List aS) (h5:x5.length≤8) (hf:10<fu)
  (hbody:body x5=fun v6=>cond (decide (v6<(x5.length:Int))) ((idx x5 v6).bind fun x7=>(idx n.cd (k:Int)).bind fun x8=>(some (fK x7 (x8.bI.ba.length:Int))).bind fun (r9:Int)=>
   cond (r9 !=0) (some (.inr (.ret (.inr (.ret r9))))) (some (.inl (IntKind.wrap .i64 (v6+1))))) (some (.inr (.dS ())))):
  aB (body x5) fu 0=some (match PL.nc (PL.fc (fun r=>fK r (p9 n k)) x5) with | some r=>Ex.ret (Sum.inr (Ex.ret r)) | none=>Ex.dS ()):=by
 have hB:p9 n k=s.bI.ba.length:=by simp only[p9,hs]
 have:=PL.Em (body:=body x5) x5 (fun k=>(k:Int)) (fun r=>(PL.nc (fK r (p9 n k))).map fun v=>(Sum.inr (Ex.ret v):Int⊕Ex Unit Int))
  (fun j x hj=>by
   have hw:=du (eT hj) (by omega)
   rw[hbody]
   simp only[dec_lt hj,cond_true,bJ hj,bJ hs,ab,hw,hB]
   by_cases h0:fK x (s.bI.ba.length:Int)=0
   ·simp only[PL.bne_false h0,cond_false,h0,PL.yH];rfl
   ·simp only[PL.bne_true h0,cond_true,PL.A6 h0];rfl)
  (by rw[hbody];simp only[ff,cond_false]) fu (by omega)
 have e:∀l:List aS,(l.findSome? fun r=>(PL.nc (fK r (p9 n k))).map fun v=>(Sum.inr (Ex.ret v):Int⊕Ex Unit Int))=(PL.nc (PL.fc (fun r=>fK r (p9 n k)) l)).map fun v=>Sum.inr (Ex.ret v):=fun l=>by
  rw[←PL.Ai]
  induction l with
  | nil=>rfl
  | cons a l ih=>
   rw[kO,kO]
   cases PL.nc (fK a (p9 n k)) with
   | none=>exact ih
   | some v=>rfl
 rw[e] at this
 have this:aB (body x5) fu 0=_:=this
 rw[this]
 cases PL.nc (PL.fc (fun r=>fK r (p9 n k)) x5) <;> rfl
theorem Ea (fu : Nat) (n : aP) (times : List (List aS)) (hs : n.cA.length ≤ 1048576) (hf : 2000000 < fu) : F.od fu n times = some (oW n times) := by
  unfold oW F.od
  rw [yn fu n hs hf]
  simp only [ab]
  by_cases h0 : wN n = 0
  · obtain ⟨hl, hz, hg⟩ := mZ h0
    rw [PL.bne_false h0, if_neg (by omega)]
    simp only [cond_false]
    by_cases h1 : times.length = n.cd.length
    · rw [PL.bne_false (by omega), if_neg (by omega)]
      simp only [cond_false]
      have key : ∀ (body : Int → Option (Int ⊕ (Ex Unit Int))), (∀ (k : Nat) (x : List aS), times[k]? = some x → body (k : Int) = some (match PL.nc (pg n (x, k)) with | some r => .inr (.ret r) | none => .inl (((k + 1 : Nat) : Int)))) → body (times.length : Int) = some (.inr (.dS ())) →
          (eR (fun r => r) (aB body fu 0 : Option (Ex Unit Int)) fun (_ : Unit) => some 0) = some (PL.fc (pg n) times.zipIdx) := fun body hb he => by
        have := PL.Em (body := body) times.zipIdx (fun k => (k : Int)) (fun q => PL.nc (pg n q)) (fun k q hk => by
          obtain ⟨x, j⟩ := q
          obtain ⟨e1, e2⟩ := CR hk
          subst e2
          rw [hb j x e1]
          cases PL.nc (pg n (x, j)) <;> rfl) (by rw [List.length_zipIdx]; exact he) fu (by rw [List.length_zipIdx]; omega)
        have this : aB body fu 0 = _ := this
        rw [this, PL.Ai]
        by_cases h : PL.fc (pg n) times.zipIdx = 0
        · rw [h, PL.yH]; rfl
        · rw [PL.A6 h]; rfl
      refine key _ (fun k x hk => ?_) (by simp only [F.nw, ff, cond_false])
      all_goals
        have hw := du (eT hk) (by omega)
        have hsk : n.cd[k]? = some (n.cd[k]'(by have := eT hk; omega)) := ag _
        have gB := (hg _ (ar hsk)).dz.len
        have bB : ∀ x8, idx n.cd (k : Int) = some x8 → x8.bI.ba.length ≤ 4 := fun x8 h8 => by rw [bJ hsk] at h8; cases h8; exact gB
        unfold pg
        by_cases h8 : x.length > 8
        · simp only [F.nw, dec_lt hk, cond_true, bJ hk, ab, PL.dl (show (x.length : Int) > 8 by omega), if_pos h8]
          rfl
        · rw [if_neg h8]
          first
            | have hr := Nh fu hsk gB (body := fun x => F.qx fu n (k : Int) x) x (by omega) (by omega) (by
                funext v; simp only [F.qx]; congr 1; congr 1; funext x7; rw [bJ hsk]; simp only [ab]; rw [F4 fu x7 _ (by omega) (by omega), ab])
              simp only [F.nw, dec_lt hk, cond_true, bJ hk, ab, PL.cw (show ¬ (x.length : Int) > 8 by omega), cond_false]
              rw [hr, hw]
              cases PL.nc (PL.fc (fun r => fK r (p9 n k)) x) <;> rfl
    · rw [PL.bne_true (by omega), if_pos h1]
      rfl
  · rw [PL.bne_true h0, if_pos h0]
    rfl
structure zK (n:aP) (times:List (List aS)):Prop where
 wn:wN n=0
 len:times.length=n.cd.length
 row:∀(k:Nat) (x:List aS) (s:dh),times[k]?=some x→n.cd[k]?=some s→x.length≤8∧∀r∈x,fK r s.bI.ba.length=0
theorem Kx {n:aP}{times:List (List aS)}(h:oW n times=0):zK n times:=by
 unfold oW at h
 by_cases h0:wN n=0
 ·rw[if_neg (by omega)] at h
  by_cases h1:times.length=n.cd.length
  ·rw[if_neg (by omega)] at h
   refine⟨h0,h1,fun k x s hk hs=>?_⟩
   have:=PL.l9 h (x,k) (by
    refine ar (i:=k) ?_
    rw[List.getElem?_zipIdx,hk];simp)
   unfold pg at this
   simp only[p9,hs] at this
   split at this
   ·cases this
   ·rename_i h8
    exact⟨by omega,PL.l9 this⟩
  ·rw[if_pos h1] at h;cases h
 ·rw[if_pos h0] at h;exact absurd h h0
end Go.DN.So
