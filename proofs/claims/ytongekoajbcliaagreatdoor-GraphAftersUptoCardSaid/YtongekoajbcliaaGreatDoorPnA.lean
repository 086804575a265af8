/-
  Arrays: what is plain of an operation is the same in both.
-/
import Derived.Test.YtongekoajbcliaaGreatDoorGdB
set_option linter.all false
set_option maxRecDepth 20000
namespace Go.DN.Pl
open Go.AM Go.PL
def Hu(k:Int):Bool:=k==1||(k==2||(k==9||(k==12||k==19)))
def Ug(k:Int):Bool:=k==1||(k==9||(k==10||(k==11||(k==15||(k==17||k==16)))))
def A1(k:Int):Bool:=k==13||(k==14||k==16)
def sH(l:List Int)(b:Bool):List Int:=if b then l else[]
def dS(op:cq):cq:=⟨op.Kind,sH op.av (Hu op.Kind),sH op.At (Ug op.Kind),sH op.Lo (A1 op.Kind),sH op.Hi (A1 op.Kind),sH op.Step (A1 op.Kind),if op.Kind==2 then op.Value else 0⟩
def TM(fu:Nat)(k:Int):F.qv fu k=some ⟨Hu k,Ug k,A1 k,A1 k,A1 k,k==2⟩:=by
 unfold F.qv;by_cases h1:k=1;subst h1;rfl;by_cases h2:k=2;subst h2;rfl;by_cases h9:k=9;subst h9;rfl;by_cases h10:k=10;subst h10;rfl;by_cases h11:k=11;subst h11;rfl;by_cases h12:k=12;subst h12;rfl;by_cases h13:k=13;subst h13;rfl;by_cases h14:k=14;subst h14;rfl;by_cases h15:k=15;subst h15;rfl;by_cases h16:k=16;subst h16;rfl;by_cases h17:k=17;subst h17;rfl;by_cases h19:k=19;subst h19;rfl;have e:∀c:Int,k≠c->(k==c)=false:=fun c h=>by simp[h]
 simp only[Hu,Ug,A1,e 1 h1,e 2 h2,e 9 h9,e 10 h10,e 11 h11,e 12 h12,e 13 h13,e 14 h14,e 15 h15,e 16 h16,e 17 h17,e 19 h19,cond_false,aa,cJ]
def zl(fu:Nat)(l:List Int)(b:Bool)(a:l.length<=1048576):F.cU fu l b=some (sH l b):=by unfold F.cU;cases b with|false=>rfl|true=>simp only[eO,cond_false,j6 fu l (by omega),aa];rfl
def Mh(fu:Nat)(op:cq)(ho:wB op):F.qX fu op=some (dS op):=by obtain⟨b,c,d,e,a⟩:=ho;unfold F.qX;simp only[TM,aa,zl fu _ _ b,zl fu _ _ c,zl fu _ _ d,zl fu _ _ e,zl fu _ _ a,dK,dx];unfold dS;cases op.Kind==2 <;> rfl
def SL(fu:Nat)(op:cq):F.nF fu op=some (dS op):=by unfold F.nF;simp only[cc,aa];rw[show(op.Kind==1||(op.Kind==2||(op.Kind==9||(op.Kind==12||op.Kind==19))))=Hu op.Kind from rfl,show(op.Kind==1||(op.Kind==9||(op.Kind==10||(op.Kind==11||(op.Kind==15||(op.Kind==17||op.Kind==16))))))=Ug op.Kind from rfl,show(op.Kind==13||(op.Kind==14||op.Kind==16))=A1 op.Kind from rfl];unfold dS sH;cases Hu op.Kind <;> cases Ug op.Kind <;> cases A1 op.Kind <;> cases op.Kind==2 <;> rfl
def Ah(op:cq):Prop:=op.av.length<=4000000/\op.At.length<=4000000/\op.Lo.length<=4000000/\op.Hi.length<=4000000/\op.Step.length<=4000000
def uK(l:List Int)(b:Bool):(sH l b).length<=l.length:=by unfold sH;split <;> simp
def JR{op:cq}(ho:wB op):Ah (dS op):=by obtain⟨b,c,d,e,a⟩:=ho;exact⟨cL (uK _ _) (by omega),cL (uK _ _) (by omega),cL (uK _ _) (by omega),cL (uK _ _) (by omega),cL (uK _ _) (by omega)⟩
def Gj(a b:cq):Bool:=a.Kind==b.Kind&&(a.Value==b.Value&&(decide (a.av=b.av)&&(decide (a.At=b.At)&&(decide (a.Lo=b.Lo)&&(decide (a.Hi=b.Hi)&&decide (a.Step=b.Step))))))
def Qq(a:cq):Gj a a=true:=by simp[Gj]
def TT(fu:Nat)(a b:cq)(d:Ah a)(hf:4000000<fu):F.nG fu a b=some (Gj a b):=by obtain⟨e,f,g,h,c⟩:=d;unfold F.nG;simp only[iB fu _ _ e hf,iB fu _ _ f hf,iB fu _ _ g hf,iB fu _ _ h hf,iB fu _ _ c hf,aa,NL];rfl
end Go.DN.Pl
