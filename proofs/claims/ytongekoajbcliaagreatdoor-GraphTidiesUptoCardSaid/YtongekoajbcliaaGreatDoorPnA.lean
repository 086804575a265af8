/-
  Arrays: what is plain of an operation is the same in both.
-/
import Derived.Test.YtongekoajbcliaaGreatDoorGdB
set_option linter.unusedSimpArgs false
set_option linter.unusedVariables false
set_option maxRecDepth 20000
namespace Go.DN.Pl
open Go.AM Go.PL
def GX (k:Int):Bool:=k==1||(k==2||(k==9||(k==12||k==19)))
def Tz (k:Int):Bool:=k==1||(k==9||(k==10||(k==11||(k==15||(k==17||k==16)))))
def Ay (k:Int):Bool:=k==13||(k==14||k==16)
def sn (l:List Int) (b:Bool):List Int:=if b then l else[]
def dP (op:cy):cy:=⟨op.Kind,sn op.au (GX op.Kind),sn op.At (Tz op.Kind),sn op.Lo (Ay op.Kind),sn op.Hi (Ay op.Kind),sn op.Step (Ay op.Kind),if op.Kind==2 then op.Value else 0⟩
theorem S5 (fu:Nat) (k:Int):F.qe fu k=some ⟨GX k,Tz k,Ay k,Ay k,Ay k,k==2⟩:=by
 unfold F.qe
 by_cases h1:k=1
 ·subst h1;rfl
 by_cases h2:k=2
 ·subst h2;rfl
 by_cases h9:k=9
 ·subst h9;rfl
 by_cases h10:k=10
 ·subst h10;rfl
 by_cases h11:k=11
 ·subst h11;rfl
 by_cases h12:k=12
 ·subst h12;rfl
 by_cases h13:k=13
 ·subst h13;rfl
 by_cases h14:k=14
 ·subst h14;rfl
 by_cases h15:k=15
 ·subst h15;rfl
 by_cases h16:k=16
 ·subst h16;rfl
 by_cases h17:k=17
 ·subst h17;rfl
 by_cases h19:k=19
 ·subst h19;rfl
 have e:∀c:Int,k≠c→(k==c)=false:=fun c h=>by simp[h]
 simp only[GX,Tz,Ay,e 1 h1,e 2 h2,e 9 h9,e 10 h10,e 11 h11,e 12 h12,e 13 h13,e 14 h14,e 15 h15,e 16 h16,e 17 h17,e 19 h19,cond_false,aa,cF]
theorem yO (fu:Nat) (l:List Int) (b:Bool) (hl:l.length≤1048576):F.cN fu l b=some (sn l b):=by
 unfold F.cN;cases b with
 | false=>rfl
 | true=>simp only[fj,cond_false,kP fu l (by omega),aa];rfl
theorem LK (fu:Nat) (op:cy) (ho:vZ op):F.qH fu op=some (dP op):=by
 obtain⟨o1,o2,o3,o4,o5⟩:=ho;unfold F.qH;simp only[S5,aa,yO fu _ _ o1,yO fu _ _ o2,yO fu _ _ o3,yO fu _ _ o4,yO fu _ _ o5,dG,dK];unfold dP;cases op.Kind==2 <;> rfl
theorem R5 (fu:Nat) (op:cy):F.nr fu op=some (dP op):=by
 unfold F.nr
 simp only[cc,aa]
 rw[show(op.Kind==1||(op.Kind==2||(op.Kind==9||(op.Kind==12||op.Kind==19))))=GX op.Kind from rfl,
  show(op.Kind==1||(op.Kind==9||(op.Kind==10||(op.Kind==11||(op.Kind==15||(op.Kind==17||op.Kind==16))))))=Tz op.Kind from rfl,
  show(op.Kind==13||(op.Kind==14||op.Kind==16))=Ay op.Kind from rfl]
 unfold dP sn
 cases GX op.Kind <;> cases Tz op.Kind <;> cases Ay op.Kind <;> cases op.Kind==2 <;> rfl
def zK (op:cy):Prop:=op.au.length≤4000000∧op.At.length≤4000000∧op.Lo.length≤4000000∧op.Hi.length≤4000000∧op.Step.length≤4000000
theorem ur (l:List Int) (b:Bool):(sn l b).length≤l.length:=by unfold sn;split <;> simp
theorem Jj {op:cy}(ho:vZ op):zK (dP op):=by
 obtain⟨o1,o2,o3,o4,o5⟩:=ho;exact⟨cK (ur _ _) (by omega),cK (ur _ _) (by omega),cK (ur _ _) (by omega),cK (ur _ _) (by omega),cK (ur _ _) (by omega)⟩
def FP (a b:cy):Bool:=a.Kind==b.Kind&&(a.Value==b.Value&&(decide (a.au=b.au)&&(decide (a.At=b.At)&&(decide (a.Lo=b.Lo)&&(decide (a.Hi=b.Hi)&&decide (a.Step=b.Step))))))
theorem PJ (a:cy):FP a a=true:=by simp[FP]
theorem Tc (fu:Nat) (a b:cy) (ha:zK a) (hf:4000000<fu):F.nt fu a b=some (FP a b):=by
 obtain⟨o1,o2,o3,o4,o5⟩:=ha;unfold F.nt;simp only[iI fu _ _ o1 hf,iI fu _ _ o2 hf,iI fu _ _ o3 hf,iI fu _ _ o4 hf,iI fu _ _ o5 hf,aa,M9];rfl
end Go.DN.Pl
