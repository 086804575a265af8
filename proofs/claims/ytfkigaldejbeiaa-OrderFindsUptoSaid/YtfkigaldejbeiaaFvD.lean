/-
  Nest: the plain law: one statement at one point.
-/
import Derived.Test.YtfkigaldejbeiaaFvC
set_option linter.unusedSectionVars false
set_option linter.unusedSimpArgs false
set_option linter.unusedVariables false
namespace Go.DN
open Go.AM
theorem rowW_zero {r:SRow}{v:Int}(h:rowW r v=0):(r.Coef.length:Int)=v∧(-1048576≤r.Const∧r.Const≤1048576)∧∀c∈r.Coef,-1048576≤c∧c≤1048576:=by
 unfold rowW at h
 split at h
 ·cases h
 ·rename_i hl
  split at h
  ·cases h
  ·rename_i hb
   simp only[Bool.or_eq_true,not_or,Bool.not_eq_true] at hb
   exact⟨by omega,badC_ran hb.1,fun c hc=>badC_ran (by have:=List.any_eq_false.1 hb.2 c hc;simpa using this)⟩
theorem Good.with {p:SPoints}(g:Good p){r:SRow}(h:rowW r p.Box.length=0):Good ⟨p.Box,[r]⟩:=by
 obtain⟨h1,h2,h3⟩:=rowW_zero h
 exact⟨g.len,g.box,g.prod,by simp,fun q hq=>by simp at hq;subst hq;exact⟨by simp only;omega,h2,h3⟩⟩
structure GoodA (n:SNest) (p:SPoints) (a:SAccess):Prop where
 lo:0≤a.Array
 hi:a.Array<n.Sizes.length
 row:rowW a.At p.Box.length=0
def Fits (n:SNest) (m:List (List Int)):Prop:=m.map (fun r=>(List.length r:Int))=n.Sizes
def rowM (m:List (List Int)) (a:SAccess):List Int:=m.getD a.Array.toNat []
def inM (m:List (List Int)) (a:SAccess) (x:List Int):Prop:=0≤atV a.At x∧atV a.At x<(rowM m a).length
instance (m:List (List Int)) (a:SAccess) (x:List Int):Decidable (inM m a x):=inferInstanceAs (Decidable (_∧_))
theorem Fits.len {n:SNest}{m:List (List Int)}(h:Fits n m):m.length=n.Sizes.length:=by
 have:=congrArg List.length h
 simpa using this
theorem Fits.get {n:SNest}{m:List (List Int)}(h:Fits n m){p:SPoints}{a:SAccess}(ga:GoodA n p a):m[a.Array.toNat]?=some (rowM m a)∧idx n.Sizes a.Array=some ((rowM m a).length:Int):=by
 have hl:=h.len
 have h0:=ga.lo
 have h1:=ga.hi
 have hlt:a.Array.toNat<m.length:=by omega
 have e1:m[a.Array.toNat]?=some (rowM m a):=by
  unfold rowM
  rw[List.getD_eq_getElem?_getD,List.getElem?_eq_getElem hlt];rfl
 refine⟨e1,?_⟩
 unfold idx
 rw[if_pos h0]
 have h:m.map (fun r=>(List.length r:Int))=n.Sizes:=h
 rw[←h,List.getElem?_map,e1];rfl
theorem setL_self {α:Type}{l:List α}{i:Nat}{x:α}(h:l[i]?=some x):l.set i x=l:=by
 apply List.ext_getElem?
 intro j
 rw[List.getElem?_set]
 split
 ·rename_i e
  subst e
  split
  ·exact h.symm
  ·rename_i hn
   rw[List.getElem?_eq_none (by omega)] at h;cases h
 ·rfl
theorem Fits.set {n:SNest}{m:List (List Int)}(h:Fits n m){p:SPoints}{a:SAccess}(ga:GoodA n p a) (j:Nat) (v:Int):Fits n (m.set a.Array.toNat ((rowM m a).set j v)):=by
 have h':m.map (fun r=>(List.length r:Int))=n.Sizes:=h
 show List.map _ _=_
 rw[List.map_set,List.length_set,h']
 obtain⟨_,h2⟩:=h.get ga
 unfold idx at h2
 rw[if_pos ga.lo] at h2
 exact setL_self h2
def getsW (d:Int):Int:=if d=1 then 0 else if d=2∨d=9 then 1 else if d=3∨d=4∨d=5∨d=6∨d=7∨d=10 then 2 else if d=8 then 3 else -1
structure GoodS (n:SNest) (s:SStmt):Prop where
 bad:wrongP s.Over=0
 over:Good s.Over
 gets:getsW s.Do=s.Get.length
 put:GoodA n s.Over s.Put
 get:∀a∈s.Get,GoodA n s.Over a
theorem getsW_cases {d:Int}{k:Nat}(h:getsW d=k):(d=1∧k=0)∨(d=2∧k=1)∨(d=9∧k=1)∨(d=3∧k=2)∨(d=4∧k=2)∨(d=5∧k=2)∨(d=6∧k=2)∨(d=7∧k=2)∨(d=10∧k=2)∨(d=8∧k=3):=by
 unfold getsW at h
 split at h
 ·omega
 ·split at h
  ·omega
  ·split at h
   ·omega
   ·split at h <;> omega
theorem GoodS.le {n:SNest}{s:SStmt}(g:GoodS n s):s.Get.length≤3:=by
 rcases getsW_cases g.gets with h | h | h | h | h | h | h | h | h | h <;> omega
end Go.DN
