/-
  Orders: the plain law of OrderFinds: the document's answer.
-/
import Derived.Test.YtfkigaldejbeiaaFmE
set_option linter.unusedSectionVars false
set_option linter.unusedSimpArgs false
set_option linter.unusedVariables false
namespace Go.DN.So
open Go.AM Go.DN
def whr (n:SNest) (a:SAccess) (x:List Int):Int:=match plc n a x with | some q=>q.2 | none=>-1
theorem where2_ok (fu:Nat){n:SNest}{p:SPoints}(g:Good p){a:SAccess}(ga:GoodA n p a){x:List Int}(hx:Ran x) (hl:x.length=p.Box.length) (hf:10<fu):
  F.adjointref10_Where fu n a x=some (whr n a x):=by
 have e0:=refAt_ok fu (g.with ga.row) (r:=a.At) (by simp) hx hl hf
 unfold F.adjointref10_Where whr plc
 simp only[e0,Option.bind_some,sizes_idx ga]
 by_cases h0:atV a.At x<0
 ·rw[PL.dec_true h0,if_neg (fun h=>by omega)];rfl
 ·rw[PL.dec_false h0]
  simp only[cond_false,Option.bind_some]
  by_cases h1:atV a.At x<n.Sizes.getD a.Array.toNat 0
  ·rw[PL.dec_false (show ¬atV a.At x≥n.Sizes.getD a.Array.toNat 0 by omega),if_pos ⟨by omega,h1⟩];rfl
  ·rw[PL.dec_true (show atV a.At x≥n.Sizes.getD a.Array.toNat 0 by omega),if_neg (fun h=>h1 h.2)];rfl
theorem plc_pos {n:SNest}{a:SAccess}{x:List Int}{c:Int×Int}(h:plc n a x=some c):0≤c.2:=by
 unfold plc at h
 split at h
 ·rename_i h';cases h;exact h'.1
 ·cases h
theorem any_at {n:SNest}{gs:List SAccess}{x:List Int}{c:Int×Int}(hc:0≤c.2):(gs.any fun g=>(g.Array==c.1)&&(whr n g x==c.2))=decide (c∈gs.filterMap fun g=>plc n g x):=by
 induction gs with
 | nil=>rfl
 | cons g r ih=>
  rw[List.any_cons,ih,List.filterMap_cons]
  unfold whr
  cases hp:plc n g x with
  | none=>
   have:((-1:Int)==c.2)=false:=by simp;omega
   simp only[this,Bool.and_false,Bool.false_or]
  | some q=>
   have hq:=plc_some hp
   have:((g.Array==c.1)&&(q.2==c.2))=decide (q=c):=by
    rw[hq]
    obtain⟨c1,c2⟩:=c
    by_cases h1:g.Array=c1
    ·by_cases h2:atV g.At x=c2
     ·simp[h1,h2]
     ·simp[h1,h2]
    ·simp[h1]
   simp only[this,List.mem_cons]
   by_cases h1:q=c
   ·simp[h1]
   ·have h1':¬c=q:=fun e=>h1 e.symm
    simp[h1,h1']
theorem clash_loop (fu:Nat){n:SNest}{s:SStmt}(gs:GoodS n s){q:SSpot}(hx:Ran q.At) (hxl:q.At.length=s.Over.Box.length){c:Int×Int}(hc:0≤c.2) (hf:10<fu):
  loopF (F.adjointref11_Clash_l1 fu n q c.1 s.Get c.2) fu 0=some (if decide (c∈s.Get.filterMap fun g=>plc n g q.At) then .ret true else .brk ()):=by
 have hg3:=gs.le
 have:=PL.loop_find (body:=F.adjointref11_Clash_l1 fu n q c.1 s.Get c.2) s.Get (fun k=>(k:Int)) (fun g=>if ((g.Array==c.1)&&(whr n g q.At==c.2)) then some true else none)
  (fun k g hk=>by
   have hw:=wrap_succ (get_lt hk) (by omega)
   have e:=where2_ok fu gs.over (gs.get g (List.mem_of_getElem? hk)) hx hxl hf
   simp only[F.adjointref11_Clash_l1,dec_lt hk,cond_true,idx_nat hk,Option.bind_some,e,hw]
   cases (g.Array==c.1) with
   | false=>rfl
   | true=>
    simp only[cond_true,Option.bind_some,Bool.true_and]
    cases (whr n g q.At==c.2) <;> rfl)
  (by simp only[F.adjointref11_Clash_l1,dec_end,cond_false]) fu (by omega)
 rw[PL.findCst,any_at hc] at this
 have this:loopF (F.adjointref11_Clash_l1 fu n q c.1 s.Get c.2) fu 0=_:=this
 rw[this]
 cases decide (c∈s.Get.filterMap fun g=>plc n g q.At) <;> rfl
theorem clash_ok (fu:Nat){n:SNest}{times:List (List SRow)}{a b:SSpot}(ga:GoodQ n times a) (gb:GoodQ n times b) (hf:10<fu):F.adjointref11_Clash fu n a b=some (clashQ n a b):=by
 obtain⟨s,ra,s1,_,s3,s4,s5,_⟩:=ga.ex
 obtain⟨t,rb,t1,_,t3,t4,t5,_⟩:=gb.ex
 have ws:=where2_ok fu s3.over s3.put s4 s5 hf
 have wt:=where2_ok fu t3.over t3.put t4 t5 hf
 have hao:ownQ n a=plc n s.Put a.At:=by unfold ownQ stmtQ;rw[s1]
 have hbo:ownQ n b=plc n t.Put b.At:=by unfold ownQ stmtQ;rw[t1]
 have hag:getQ n a=s.Get.filterMap fun g=>plc n g a.At:=by unfold getQ stmtQ;rw[s1]
 have hbg:getQ n b=t.Get.filterMap fun g=>plc n g b.At:=by unfold getQ stmtQ;rw[t1]
 have ge:∀{u:SStmt},GoodS n u→decide (u.Do≥9)=(u.Do==9||u.Do==10):=fun {u} gu=>by
  rcases getsW_cases gu.gets with h | h | h | h | h | h | h | h | h | h <;> simp[h.1]
 have haa:addQ n a=decide (s.Do≥9):=by unfold addQ stmtQ;rw[s1,ge s3]
 have hba:addQ n b=decide (t.Do≥9):=by unfold addQ stmtQ;rw[t1,ge t3]
 have etas:(⟨s.Put.Array,⟨s.Put.At.Coef,s.Put.At.Const⟩⟩:SAccess)=s.Put:=rfl
 have etat:(⟨t.Put.Array,⟨t.Put.At.Coef,t.Put.At.Const⟩⟩:SAccess)=t.Put:=rfl
 have hadds:(cond (decide (s.Do≥9)) (some (decide (t.Do≥9))) (some false):Option Bool)=some (addQ n a&&addQ n b):=by
  rw[haa,hba]
  cases decide (s.Do≥9) <;> rfl
 unfold F.adjointref11_Clash
 simp only[idxT ga.pos s1,idxT gb.pos t1,Option.bind_some,amb2_self,etas,etat,ws,wt,hadds]
 unfold clashQ
 rw[hao,hbo]
 cases hp:plc n s.Put a.At with
 | none=>
  have:whr n s.Put a.At=-1:=by unfold whr;rw[hp]
  rw[this];rfl
 | some p=>
  have wp:whr n s.Put a.At=p.2:=by unfold whr;rw[hp]
  have pp:=plc_pos hp
  have pe:=plc_some hp
  rw[wp,PL.dec_false (show ¬p.2<0 by omega)]
  cases hr:plc n t.Put b.At with
  | none=>
   have:whr n t.Put b.At=-1:=by unfold whr;rw[hr]
   rw[this];rfl
  | some r=>
   have wr:whr n t.Put b.At=r.2:=by unfold whr;rw[hr]
   have rp:=plc_pos hr
   have re:=plc_some hr
   rw[wr,PL.dec_false (show ¬r.2<0 by omega)]
   have e1:s.Put.Array=p.1:=by rw[pe]
   have e2:t.Put.Array=r.1:=by rw[re]
   have l1:=clash_loop fu t3 t4 t5 (c:=p) pp hf
   have l2:loopF (F.adjointref11_Clash_l2 fu n a s.Get r.1 r.2) fu 0=_:=clash_loop fu s3 s4 s5 (c:=r) rp hf
   rw[←hbg] at l1
   rw[←hag] at l2
   have hcnd:(cond (p.1==r.1) (cond (p.2==r.2) (some (!(addQ n a&&addQ n b))) (some false)) (some false):Option Bool)=some (decide (p=r)&&!(addQ n a&&addQ n b)):=by
    obtain⟨p1,p2⟩:=p
    obtain⟨r1,r2⟩:=r
    by_cases h1:p1=r1
    ·by_cases h2:p2=r2
     ·simp[h1,h2]
     ·have b2:(p2==r2)=false:=beq_eq_false_iff_ne.2 h2
      simp[h1,h2,b2]
    ·have b1:(p1==r1)=false:=beq_eq_false_iff_ne.2 h1
     simp[h1,b1]
   simp only[cond_false,Option.bind_some,e1,e2,hcnd,l1,l2]
   cases (decide (p=r)&&!(addQ n a&&addQ n b)) with
   | true=>rfl
   | false=>
    simp only[cond_false,Bool.false_or]
    cases decide (p∈getQ n b) with
    | true=>rfl
    | false=>
     cases decide (r∈getQ n a) <;> rfl
theorem sameList_ok (fu:Nat) (a:List Int) (h:a.length≤1000) (hf:2000<fu):F.adjointref2_SameList fu a a=some true:=by
 have:=equal_loop a a rfl (by omega) fu (by omega)
 have this:loopF (F.adjointref2_SameList_l1 fu a a) fu 0=_:=this
 unfold F.adjointref2_SameList
 rw[PL.bne_false rfl,this]
 simp only[if_true];rfl
theorem sameSpot_ok (fu:Nat) (q:SSpot) (h:q.At.length≤1000) (hf:2000<fu):F.adjointlaw11_sameSpot fu q q=some true:=by
 unfold F.adjointlaw11_sameSpot
 have b:(q.Stmt==q.Stmt)=true:=by simp
 simp only[b,cond_true,sameList_ok fu q.At h hf,Option.bind_some]
theorem sameFound_ok (fu:Nat) (f:SFound) (h1:f.A.At.length≤1000) (h2:f.B.At.length≤1000) (hf:2000<fu):F.adjointlaw11_sameFound fu f f=some true:=by
 unfold F.adjointlaw11_sameFound
 have b:(f.Any==f.Any)=true:=by simp
 simp only[b,cond_true,sameSpot_ok fu _ h1 hf,sameSpot_ok fu _ h2 hf,Option.bind_some]
def badX (alike:Bool) (times:List (List SRow)) (a b:SSpot):Bool:=bif alike then decide (tmS 8 times a=tmS 8 times b) else ltL (tmS 8 times b) (tmS 8 times a)
theorem find_some_map {α β:Type}(p:α→Bool) (f:α→β) (l:List α):(l.findSome? fun x=>if p x then some (f x) else none)=(l.find? p).map f:=by
 induction l with
 | nil=>rfl
 | cons x r ih=>
  rw[List.findSome?_cons,List.find?_cons]
  cases p x with
  | true=>rfl
  | false=>simpa using ih
theorem find_in (fu:Nat) (hf:5000<fu){n:SNest}{times:List (List SRow)}(alike:Bool){l:List SSpot}(hl:l.length≤1024) (hg:∀q∈l,GoodQ n times q){j:Nat}(hj:j≤l.length){b:SSpot}(gb:GoodQ n times b) (m1:Bool) (m2:Int) (m3:List Int) (m4:Int) (m5:List Int):
  loopF (F.adjointref11_find_l1 fu n times alike l (j:Int) b) fu (0,m1,m2,m3,m4,m5)=some (match (l.take j).find? (fun a=>clashQ n a b&&badX alike times a b) with
   | some a=>.ret (.inr (.ret ((⟨true,a,b⟩:SFound),0)))
   | none=>.brk (m1,m2,m3,m4,m5)):=by
 have hlp:lpart l 0 (j:Int)=l.take j:=by
  unfold lpart
  simp
 have:=PL.loop_ends (body:=F.adjointref11_find_l1 fu n times alike l (j:Int) b) (l.take j) (fun k=>((k:Int),m1,m2,m3,m4,m5)) (fun a=>if (clashQ n a b&&badX alike times a b) then some (.ret (.inr (.ret ((⟨true,a,b⟩:SFound),0)))) else none) (.brk (m1,m2,m3,m4,m5))
  (fun k a hk=>by
   have hkl:=get_lt hk
   have hw:=wrap_succ hkl (by rw[List.length_take] at hkl⊢;omega)
   have ga:=hg a (List.mem_of_mem_take (List.mem_of_getElem? hk))
   obtain⟨ta,t1,t2⟩:=time_ok fu ga (by omega)
   obtain⟨tb,u1,u2⟩:=time_ok fu gb (by omega)
   have hE:eqI [ta.a0,ta.a1,ta.a2,ta.a3,ta.a4,ta.a5,ta.a6,ta.a7] [tb.a0,tb.a1,tb.a2,tb.a3,tb.a4,tb.a5,tb.a6,tb.a7]=decide (tmS 8 times a=tmS 8 times b):=by
    rw[←t2,←u2];exact eqI_ok _ _
   have hB:F.adjointref11_Before fu (⟨tb.a0,tb.a1,tb.a2,tb.a3,tb.a4,tb.a5,tb.a6,tb.a7⟩:SArr8) (⟨ta.a0,ta.a1,ta.a2,ta.a3,ta.a4,ta.a5,ta.a6,ta.a7⟩:SArr8)=some (ltL (tmS 8 times b) (tmS 8 times a)):=by
    have:=before_ok fu tb ta (by omega)
    rw[t2,u2] at this
    exact this
   have hC:=clash_ok fu ga gb (by omega)
   have eta:(⟨a.Stmt,a.At⟩:SSpot)=a:=rfl
   simp only[F.adjointref11_find_l1,hlp,dec_lt hk,cond_true,idx_nat hk,Option.bind_some,t1,u1,amb_self,amb2_self,hE,hB,hC,hw,eta]
   unfold badX
   cases alike with
   | true=>
    simp only[cond_true,Bool.not_true,cond_false]
    cases decide (tmS 8 times a=tmS 8 times b) with
    | true=>
     simp only[cond_true,Option.bind_some,Bool.and_true]
     cases clashQ n a b <;> rfl
    | false=>
     simp only[cond_false,Option.bind_some,Bool.and_false]
     rfl
   | false=>
    simp only[cond_false,Bool.not_false,cond_true]
    cases ltL (tmS 8 times b) (tmS 8 times a) with
    | true=>
     simp only[cond_true,Option.bind_some,Bool.and_true]
     cases clashQ n a b <;> rfl
    | false=>
     simp only[cond_false,Option.bind_some,Bool.and_false]
     rfl)
  (by simp only[F.adjointref11_find_l1,hlp,dec_end,cond_false]) fu (by rw[List.length_take];omega)
 rw[find_some_map] at this
 have this:loopF (F.adjointref11_find_l1 fu n times alike l (j:Int) b) fu (0,m1,m2,m3,m4,m5)=_:=this
 rw[this]
 cases (l.take j).find? (fun a=>clashQ n a b&&badX alike times a b) <;> rfl
theorem find_loop (fu:Nat) (hf:5000<fu){n:SNest}{times:List (List SRow)}(alike:Bool){l:List SSpot}(hl:l.length≤1024) (hg:∀q∈l,GoodQ n times q) (m1:Bool) (m2:Int) (m3:List Int) (m4:Int) (m5:List Int):
  ∀(todo done:List SSpot) (fuel:Nat),l=done++todo→todo.length<fuel→
   loopF (F.adjointref11_find_l2 fu n times alike l) fuel ((done.length:Int),m1,m2,m3,m4,m5)=some (match fndQ n (badX alike times) done todo with
    | some (a,b)=>.ret ((⟨true,a,b⟩:SFound),0)
    | none=>.brk (m1,m2,m3,m4,m5))
 | [],done,fuel,he,hm=>by
  obtain⟨g,rfl⟩:∃g,fuel=g+1:=⟨fuel-1,by omega⟩
  rw[List.append_nil] at he
  subst he
  simp only[loopF,F.adjointref11_find_l2,dec_end,cond_false]
  rfl
 | b::todo,done,fuel,he,hm=>by
  obtain⟨g,rfl⟩:∃g,fuel=g+1:=⟨fuel-1,by omega⟩
  have hb:l[done.length]?=some b:=by rw[he];simp
  have hdl:=get_lt hb
  have hw:=wrap_succ hdl (by omega)
  have ht:l.take done.length=done:=by rw[he];simp
  have hi:=find_in fu hf alike hl hg (j:=done.length) (by omega) (hg b (List.mem_of_getElem? hb)) m1 m2 m3 m4 m5
  rw[ht] at hi
  have ck:=chk_pos (p:=(0:Int)≤(done.length:Int)∧(done.length:Int)≤(l.length:Int)) (by omega)
  have IH:=find_loop fu hf alike hl hg m1 m2 m3 m4 m5 todo (done++[b]) g (by rw[he];simp) (by simp at hm;omega)
  rw[List.length_append,List.length_singleton] at IH
  simp only[loopF,F.adjointref11_find_l2,dec_lt hb,cond_true,idx_nat hb,Option.bind_some,ck,hi,hw,fndQ]
  cases done.find? (fun a=>clashQ n a b&&badX alike times a b) with
  | some a=>rfl
  | none=>exact IH
end Go.DN.So
