/-
  The structs of the program, as data.
-/
import Derived.Test.YtmhbeopldeccmaaDoorMgH
import Derived.Test.YtmhbeopldeccmaaDoorTgB
import Derived.Test.YtmhbeopldeccmaaDoorTgF
import Derived.Test.YtmhbeopldeccmaaDoorSgA
set_option maxRecDepth 20000
set_option linter.unusedVariables false
set_option linter.unusedSimpArgs false
namespace Go.DN
open Go.AM
noncomputable section
structure iu where
 Name:ByteArray
 iW:Int
structure eT where
 Name:ByteArray
 cV:List iu
structure ai where
 Kind:Int
 Name:ByteArray
 Number:Int
 Shaped:Bool
 Shape:List iu
 aE:List (List Int)
 Kids:List ai
structure bB where
 Name:ByteArray
 aB:List eT
 Body:ai
structure l4 where
 OA:Int
 At:Int
structure jJ where
 Key:ByteArray
 Ox:Int
structure ap where
 Es:List jJ
structure dN where
 kind:Int
 shaped:Bool
 lists:List Int
 args:Int
structure cM where
 name:ByteArray
 value:Int
 next:Option cM
structure gU where
 Kind:Int
 Shaped:Bool
 aE:Int
 l5:Int
 kT:Int
def ik (l:List jJ) (k:ByteArray):Int:=match List.find? (fun a=>decide (a.Key=k)) l with | some a=>a.Ox | none=>0
def du (l:List jJ) (k:ByteArray):Bool:=(List.find? (fun a=>decide (a.Key=k)) l).isSome
def jR (l:List jJ) (k:ByteArray) (v:Int):List jJ:=bif List.any l (fun b=>decide (b.Key=k)) then List.map (fun b=>bif decide (b.Key=k) then(⟨k,v⟩:jJ) else b) l else l++[⟨k,v⟩]
def Jw (a:iu):List G:=[.val (.string a.Name),.val (.int .i64 a.iW)]
def QG (a:eT):List G:=[.val (.string a.Name),.sl (List.length a.cV) (List.flatMap (fun x=>Jw x) a.cV)]
mutual
def zX:ai→List G
 | ⟨y0,y1,y2,y3,y4,y5,y6⟩=>[.val (.int .i64 y0)]++[.val (.string y1)]++[.val (.int .i64 y2)]++[.val (.bool y3)]++[.sl (List.length y4) (List.flatMap (fun x=>Jw x) y4)]++[.sl (List.length y5) (List.flatMap (fun x=>[.sl (List.length x) (List.flatMap (fun x=>[.val (.int .i64 x)]) x)]) y5)]++[.sl (List.length y6) (Er y6)]
def Er:List ai→List G
 | []=>[]
 | x::r=>zX x++Er r
end
theorem zW:∀l:List ai,Er l=List.flatMap zX l
 | []=>rfl
 | x::r=>by simp only[Er,cP,zW r]
def RX (a:bB):List G:=[.val (.string a.Name),.sl (List.length a.aB) (List.flatMap (fun x=>QG x) a.aB),.val (.int .i64 a.Body.Kind),.val (.string a.Body.Name),.val (.int .i64 a.Body.Number),.val (.bool a.Body.Shaped),.sl (List.length a.Body.Shape) (List.flatMap (fun x=>Jw x) a.Body.Shape),.sl (List.length a.Body.aE) (List.flatMap (fun x=>[.sl (List.length x) (List.flatMap (fun x=>[.val (.int .i64 x)]) x)]) a.Body.aE),.sl (List.length a.Body.Kids) (List.flatMap (fun x=>zX x) a.Body.Kids)]
def RV (a:l4):List G:=[.val (.int .i64 a.OA),.val (.int .i64 a.At)]
def QF (a:jJ):List G:=[.val (.string a.Key),.val (.int .i64 a.Ox)]
def RU (a:ap):List G:=[.sl (List.length a.Es) (List.flatMap (fun x=>QF x) a.Es)]
def RT (a:dN):List G:=[.val (.int .i64 a.kind),.val (.bool a.shaped),.sl (List.length a.lists) (List.flatMap (fun x=>[.val (.int .i64 x)]) a.lists),.val (.int .i64 a.args)]
mutual
def Jv:cM→List G
 | ⟨y0,y1,y2⟩=>[.val (.string y0)]++[.val (.int .i64 y1)]++Ju y2
def Ju:Option cM→List G
 | none=>[.val (.pointer none)]
 | some x=>[.ptr (Jv x)]
end
theorem Nl (o:Option cM):Ju o=[match o with | none=>G.val (.pointer none) | some x=>.ptr (Jv x)]:=by cases o <;> simp only[Ju]
def RR (a:gU):List G:=[.val (.int .i64 a.Kind),.val (.bool a.Shaped),.val (.int .i64 a.aE),.val (.int .i64 a.l5),.val (.int .i64 a.kT)]
abbrev Rs:Nat→Type
 | 0=>iu
 | 1=>eT
 | 2=>ai
 | 3=>bB
 | 4=>l4
 | 5=>jJ
 | 6=>ap
 | 7=>dN
 | 8=>cM
 | 9=>gU
 | _=>Unit
noncomputable def S0:dr where
 α:=Rs
 cg:=fun n=>match n with
  | 0=>[.str,(.int .i64)]
  | 1=>[.str,(.list (.st 0))]
  | 2=>[(.int .i64),.str,(.int .i64),.bool,(.list (.st 0)),(.list (.list (.int .i64))),(.list (.st 2))]
  | 3=>[.str,(.list (.st 1)),(.int .i64),.str,(.int .i64),.bool,(.list (.st 0)),(.list (.list (.int .i64))),(.list (.st 2))]
  | 4=>[(.int .i64),(.int .i64)]
  | 5=>[.str,(.int .i64)]
  | 6=>[(.list (.st 5))]
  | 7=>[(.int .i64),.bool,(.list (.int .i64)),(.int .i64)]
  | 8=>[.str,(.int .i64),(.pt 8)]
  | 9=>[(.int .i64),.bool,(.int .i64),(.int .i64),(.int .i64)]
  | _=>[.bool]
 cells:=fun n=>match n with
  | 0=>fun (a:iu)=>[⟨.str,a.Name⟩,⟨(.int .i64),a.iW⟩]
  | 1=>fun (a:eT)=>[⟨.str,a.Name⟩,⟨(.list (.st 0)),a.cV⟩]
  | 2=>fun (a:ai)=>[⟨(.int .i64),a.Kind⟩,⟨.str,a.Name⟩,⟨(.int .i64),a.Number⟩,⟨.bool,a.Shaped⟩,⟨(.list (.st 0)),a.Shape⟩,⟨(.list (.list (.int .i64))),a.aE⟩,⟨(.list (.st 2)),a.Kids⟩]
  | 3=>fun (a:bB)=>[⟨.str,a.Name⟩,⟨(.list (.st 1)),a.aB⟩,⟨(.int .i64),a.Body.Kind⟩,⟨.str,a.Body.Name⟩,⟨(.int .i64),a.Body.Number⟩,⟨.bool,a.Body.Shaped⟩,⟨(.list (.st 0)),a.Body.Shape⟩,⟨(.list (.list (.int .i64))),a.Body.aE⟩,⟨(.list (.st 2)),a.Body.Kids⟩]
  | 4=>fun (a:l4)=>[⟨(.int .i64),a.OA⟩,⟨(.int .i64),a.At⟩]
  | 5=>fun (a:jJ)=>[⟨.str,a.Key⟩,⟨(.int .i64),a.Ox⟩]
  | 6=>fun (a:ap)=>[⟨(.list (.st 5)),a.Es⟩]
  | 7=>fun (a:dN)=>[⟨(.int .i64),a.kind⟩,⟨.bool,a.shaped⟩,⟨(.list (.int .i64)),a.lists⟩,⟨(.int .i64),a.args⟩]
  | 8=>fun (a:cM)=>[⟨.str,a.name⟩,⟨(.int .i64),a.value⟩,⟨(.pt 8),a.next⟩]
  | 9=>fun (a:gU)=>[⟨(.int .i64),a.Kind⟩,⟨.bool,a.Shaped⟩,⟨(.int .i64),a.aE⟩,⟨(.int .i64),a.l5⟩,⟨(.int .i64),a.kT⟩]
  | _+10=>fun _=>[⟨.bool,false⟩]
 put:=fun n=>match n with
  | 0=>fun l=>(match l with | [⟨.str,y0⟩,⟨(.int .i64),y1⟩]=>some (⟨y0,y1⟩:iu) | _=>none)
  | 1=>fun l=>(match l with | [⟨.str,y0⟩,⟨(.list (.st 0)),y1⟩]=>some (⟨y0,y1⟩:eT) | _=>none)
  | 2=>fun l=>(match l with | [⟨(.int .i64),y0⟩,⟨.str,y1⟩,⟨(.int .i64),y2⟩,⟨.bool,y3⟩,⟨(.list (.st 0)),y4⟩,⟨(.list (.list (.int .i64))),y5⟩,⟨(.list (.st 2)),y6⟩]=>some (⟨y0,y1,y2,y3,y4,y5,y6⟩:ai) | _=>none)
  | 3=>fun l=>(match l with | [⟨.str,y0⟩,⟨(.list (.st 1)),y1⟩,⟨(.int .i64),y2⟩,⟨.str,y3⟩,⟨(.int .i64),y4⟩,⟨.bool,y5⟩,⟨(.list (.st 0)),y6⟩,⟨(.list (.list (.int .i64))),y7⟩,⟨(.list (.st 2)),y8⟩]=>some (⟨y0,y1,⟨y2,y3,y4,y5,y6,y7,y8⟩⟩:bB) | _=>none)
  | 4=>fun l=>(match l with | [⟨(.int .i64),y0⟩,⟨(.int .i64),y1⟩]=>some (⟨y0,y1⟩:l4) | _=>none)
  | 5=>fun l=>(match l with | [⟨.str,y0⟩,⟨(.int .i64),y1⟩]=>some (⟨y0,y1⟩:jJ) | _=>none)
  | 6=>fun l=>(match l with | [⟨(.list (.st 5)),y0⟩]=>some (⟨y0⟩:ap) | _=>none)
  | 7=>fun l=>(match l with | [⟨(.int .i64),y0⟩,⟨.bool,y1⟩,⟨(.list (.int .i64)),y2⟩,⟨(.int .i64),y3⟩]=>some (⟨y0,y1,y2,y3⟩:dN) | _=>none)
  | 8=>fun l=>(match l with | [⟨.str,y0⟩,⟨(.int .i64),y1⟩,⟨(.pt 8),y2⟩]=>some (⟨y0,y1,y2⟩:cM) | _=>none)
  | 9=>fun l=>(match l with | [⟨(.int .i64),y0⟩,⟨.bool,y1⟩,⟨(.int .i64),y2⟩,⟨(.int .i64),y3⟩,⟨(.int .i64),y4⟩]=>some (⟨y0,y1,y2,y3,y4⟩:gU) | _=>none)
  | _+10=>fun _=>none
 ft:=fun n=>match n with
  | 0=>fun (a:iu)=>Jw a
  | 1=>fun (a:eT)=>QG a
  | 2=>fun (a:ai)=>zX a
  | 3=>fun (a:bB)=>RX a
  | 4=>fun (a:l4)=>RV a
  | 5=>fun (a:jJ)=>QF a
  | 6=>fun (a:ap)=>RU a
  | 7=>fun (a:dN)=>RT a
  | 8=>fun (a:cM)=>Jv a
  | 9=>fun (a:gU)=>RR a
  | _+10=>fun _=>[.val (.bool false)]
 ty:=fun t=>match t with
  | 84=>some 8
  | 49=>some 6
  | _=>none
 N2:=fun t=>match t with
  | 3=>some (.int .i64)
  | 5=>some (.int .u8)
  | 9=>some .str
  | _=>none
 l7:=by intro n a;match n with
  | 0=>rfl
  | 1=>rfl
  | 2=>rfl
  | 3=>rfl
  | 4=>rfl
  | 5=>rfl
  | 6=>rfl
  | 7=>rfl
  | 8=>rfl
  | 9=>rfl
  | _+10=>rfl
 one:=by
  intro n t h
  match n with
  | 0=>have:=cu.1 (show([.str,(.int .i64)]:List Ty).all (fun t=>!t.fq)=true from rfl) t h;simpa using this
  | 1=>have:=cu.1 (show([.str,(.list (.st 0))]:List Ty).all (fun t=>!t.fq)=true from rfl) t h;simpa using this
  | 2=>have:=cu.1 (show([(.int .i64),.str,(.int .i64),.bool,(.list (.st 0)),(.list (.list (.int .i64))),(.list (.st 2))]:List Ty).all (fun t=>!t.fq)=true from rfl) t h;simpa using this
  | 3=>have:=cu.1 (show([.str,(.list (.st 1)),(.int .i64),.str,(.int .i64),.bool,(.list (.st 0)),(.list (.list (.int .i64))),(.list (.st 2))]:List Ty).all (fun t=>!t.fq)=true from rfl) t h;simpa using this
  | 4=>have:=cu.1 (show([(.int .i64),(.int .i64)]:List Ty).all (fun t=>!t.fq)=true from rfl) t h;simpa using this
  | 5=>have:=cu.1 (show([.str,(.int .i64)]:List Ty).all (fun t=>!t.fq)=true from rfl) t h;simpa using this
  | 6=>have:=cu.1 (show([(.list (.st 5))]:List Ty).all (fun t=>!t.fq)=true from rfl) t h;simpa using this
  | 7=>have:=cu.1 (show([(.int .i64),.bool,(.list (.int .i64)),(.int .i64)]:List Ty).all (fun t=>!t.fq)=true from rfl) t h;simpa using this
  | 8=>have:=cu.1 (show([.str,(.int .i64),(.pt 8)]:List Ty).all (fun t=>!t.fq)=true from rfl) t h;simpa using this
  | 9=>have:=cu.1 (show([(.int .i64),.bool,(.int .i64),(.int .i64),(.int .i64)]:List Ty).all (fun t=>!t.fq)=true from rfl) t h;simpa using this
  | _+10=>simp at h;subst h;rfl
 pos:=by intro n;match n with
  | 0=>simp
  | 1=>simp
  | 2=>simp
  | 3=>simp
  | 4=>simp
  | 5=>simp
  | 6=>simp
  | 7=>simp
  | 8=>simp
  | 9=>simp
  | _+10=>simp
 hU:=by
  intro n l a h
  match n with
  | 0=>dsimp only at h;split at h <;> cases h;rfl
  | 1=>dsimp only at h;split at h <;> cases h;rfl
  | 2=>dsimp only at h;split at h <;> cases h;rfl
  | 3=>dsimp only at h;split at h <;> cases h;rfl
  | 4=>dsimp only at h;split at h <;> cases h;rfl
  | 5=>dsimp only at h;split at h <;> cases h;rfl
  | 6=>dsimp only at h;split at h <;> cases h;rfl
  | 7=>dsimp only at h;split at h <;> cases h;rfl
  | 8=>dsimp only at h;split at h <;> cases h;rfl
  | 9=>dsimp only at h;split at h <;> cases h;rfl
  | _+10=>cases h
 uJ:=by intro n a;match n with
  | 0=>rfl
  | 1=>rfl
  | 2=>cases a;simp only[zX,zW];rfl
  | 3=>rfl
  | 4=>rfl
  | 5=>rfl
  | 6=>rfl
  | 7=>rfl
  | 8=>obtain⟨y0,y1,y2⟩:=a;simp only[Jv,Nl];cases y2 <;> rfl
  | 9=>rfl
  | _+10=>rfl
end
end Go.DN
