/-
  Orders: the plain law of OrderRuns: what is wrong; the eJ of all statements.
-/
import Derived.Test.YtfkigaldejbeiaaFvJ
set_option linter.unusedSectionVars false
set_option linter.unusedSimpArgs false
set_option linter.unusedVariables false
namespace Go.DN.So
open Go.AM Go.DN
def qi (n:aO) (k:Nat):Int:=match n.cd[k]? with | some s=>s.bI.ba.length | none=>0
def px (n:aO) (q:List aT×Nat):Int:=if q.1.length>8 then 2 else PL.ff (fun r=>fL r (qi n q.2)) q.1
def oW (n:aO) (times:List (List aT)):Int:=if wN n≠0 then wN n else if times.length≠n.cd.length then 2 else PL.ff (px n) times.zipIdx
theorem NJ (fu:Nat){n:aO}{k:Nat}{s:dh}(hs:n.cd[k]?=some s) (hb:s.bI.ba.length≤4){body:List aT→Int→Option (Int⊕(Ex Unit (Int⊕(Ex Unit Int))))}(x5:List aT) (h5:x5.length≤8) (hf:10<fu)
  (hbody:body x5=fun v6=>cond (decide (v6<(x5.length:Int))) ((idx x5 v6).bind fun x7=>(idx n.cd (k:Int)).bind fun x8=>(some (fL x7 (x8.bI.ba.length:Int))).bind fun (r9:Int)=>
   cond (r9 !=0) (some (.inr (.ret (.inr (.ret r9))))) (some (.inl (IntKind.wrap .i64 (v6+1))))) (some (.inr (.dS ())))):
  aB (body x5) fu 0=some (match PL.ni (PL.ff (fun r=>fL r (qi n k)) x5) with | some r=>Ex.ret (Sum.inr (Ex.ret r)) | none=>Ex.dS ()):=by
 have hB:qi n k=s.bI.ba.length:=by simp only[qi,hs]
 have:=PL.EN (body:=body x5) x5 (fun k=>(k:Int)) (fun r=>(PL.ni (fL r (qi n k))).map fun v=>(Sum.inr (Ex.ret v):Int⊕Ex Unit Int))
  (fun j x hj=>by
   have hw:=du (eU hj) (by omega)
   rw[hbody]
   simp only[dec_lt hj,cond_true,bJ hj,bJ hs,ae,hw,hB]
   by_cases h0:fL x (s.bI.ba.length:Int)=0
   ·simp only[PL.bne_false h0,cond_false,h0,PL.y9];rfl
   ·simp only[PL.bne_true h0,cond_true,PL.Bo h0];rfl)
  (by rw[hbody];simp only[fg,cond_false]) fu (by omega)
 have e:∀l:List aT,(l.findSome? fun r=>(PL.ni (fL r (qi n k))).map fun v=>(Sum.inr (Ex.ret v):Int⊕Ex Unit Int))=(PL.ni (PL.ff (fun r=>fL r (qi n k)) l)).map fun v=>Sum.inr (Ex.ret v):=fun l=>by
  rw[←PL.AD]
  induction l with
  | nil=>rfl
  | cons a l ih=>
   rw[kQ,kQ]
   cases PL.ni (fL a (qi n k)) with
   | none=>exact ih
   | some v=>rfl
 rw[e] at this
 have this:aB (body x5) fu 0=_:=this
 rw[this]
 cases PL.ni (PL.ff (fun r=>fL r (qi n k)) x5) <;> rfl
theorem EA (fu : Nat) (n : aO) (times : List (List aT)) (hs : n.cz.length ≤ 1048576) (hf : 2000000 < fu) : F.om fu n times = some (oW n times) := by
  unfold oW F.om
  rw [yH fu n hs hf]
  simp only [ae]
  by_cases h0 : wN n = 0
  · obtain ⟨hl, hz, hg⟩ := nf h0
    rw [PL.bne_false h0, if_neg (by omega)]
    simp only [cond_false]
    by_cases h1 : times.length = n.cd.length
    · rw [PL.bne_false (by omega), if_neg (by omega)]
      simp only [cond_false]
      have key : ∀ (body : Int → Option (Int ⊕ (Ex Unit Int))), (∀ (k : Nat) (x : List aT), times[k]? = some x → body (k : Int) = some (match PL.ni (px n (x, k)) with | some r => .inr (.ret r) | none => .inl (((k + 1 : Nat) : Int)))) → body (times.length : Int) = some (.inr (.dS ())) →
          (eS (fun r => r) (aB body fu 0 : Option (Ex Unit Int)) fun (_ : Unit) => some 0) = some (PL.ff (px n) times.zipIdx) := fun body hb he => by
        have := PL.EN (body := body) times.zipIdx (fun k => (k : Int)) (fun q => PL.ni (px n q)) (fun k q hk => by
          obtain ⟨x, j⟩ := q
          obtain ⟨e1, e2⟩ := Di hk
          subst e2
          rw [hb j x e1]
          cases PL.ni (px n (x, j)) <;> rfl) (by rw [List.length_zipIdx]; exact he) fu (by rw [List.length_zipIdx]; omega)
        have this : aB body fu 0 = _ := this
        rw [this, PL.AD]
        by_cases h : PL.ff (px n) times.zipIdx = 0
        · rw [h, PL.y9]; rfl
        · rw [PL.Bo h]; rfl
      refine key _ (fun k x hk => ?_) (by simp only [F.nC, fg, cond_false])
      all_goals
        have hw := du (eU hk) (by omega)
        have hsk : n.cd[k]? = some (n.cd[k]'(by have := eU hk; omega)) := ag _
        have gB := (hg _ (ar hsk)).dz.len
        have bB : ∀ x8, idx n.cd (k : Int) = some x8 → x8.bI.ba.length ≤ 4 := fun x8 h8 => by rw [bJ hsk] at h8; cases h8; exact gB
        unfold px
        by_cases h8 : x.length > 8
        · simp only [F.nC, dec_lt hk, cond_true, bJ hk, ae, PL.dl (show (x.length : Int) > 8 by omega), if_pos h8]
          rfl
        · rw [if_neg h8]
          first
            | have hr := NJ fu hsk gB (body := fun x => F.qH fu n (k : Int) x) x (by omega) (by omega) (by
                funext v; simp only [F.qH]; congr 1; congr 1; funext x7; rw [bJ hsk]; simp only [ae]; rw [Gy fu x7 _ (by omega) (by omega), ae])
              simp only [F.nC, dec_lt hk, cond_true, bJ hk, ae, PL.cy (show ¬ (x.length : Int) > 8 by omega), cond_false]
              rw [hr, hw]
              cases PL.ni (PL.ff (fun r => fL r (qi n k)) x) <;> rfl
    · rw [PL.bne_true (by omega), if_pos h1]
      rfl
  · rw [PL.bne_true h0, if_pos h0]
    rfl
structure Ab (n:aO) (times:List (List aT)):Prop where
 wn:wN n=0
 len:times.length=n.cd.length
 row:∀(k:Nat) (x:List aT) (s:dh),times[k]?=some x→n.cd[k]?=some s→x.length≤8∧∀r∈x,fL r s.bI.ba.length=0
theorem KZ {n:aO}{times:List (List aT)}(h:oW n times=0):Ab n times:=by
 unfold oW at h
 by_cases h0:wN n=0
 ·rw[if_neg (by omega)] at h
  by_cases h1:times.length=n.cd.length
  ·rw[if_neg (by omega)] at h
   refine⟨h0,h1,fun k x s hk hs=>?_⟩
   have:=PL.mb h (x,k) (by
    refine ar (i:=k) ?_
    rw[List.getElem?_zipIdx,hk];simp)
   unfold px at this
   simp only[qi,hs] at this
   split at this
   ·cases this
   ·rename_i h8
    exact⟨by omega,PL.mb this⟩
  ·rw[if_pos h1] at h;cases h
 ·rw[if_pos h0] at h;exact absurd h h0
end Go.DN.So
