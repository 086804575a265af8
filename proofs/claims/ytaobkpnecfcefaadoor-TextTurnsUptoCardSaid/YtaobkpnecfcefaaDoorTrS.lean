import Derived.Test.YtaobkpnecfcefaaDoorMgH
import Derived.Test.YtaobkpnecfcefaaDoorTfC
import Derived.Test.YtaobkpnecfcefaaDoorTgB
/-
  The structs of the program, as data.
-/
set_option maxRecDepth 20000
set_option linter.unusedVariables false
set_option linter.unusedSimpArgs false
namespace Go.DN
open Go.AM
noncomputable section
structure bh where
 Name:ByteArray
 lG:Int
structure cJ where
 Name:ByteArray
 nz:List bh
structure ai where
 Kind:Int
 Name:ByteArray
 Number:Int
 Shaped:Bool
 Shape:List bh
 bC:List (List Int)
 Kids:List ai
structure br where
 Name:ByteArray
 cy:List cJ
 Body:ai
structure zZ where
 s:ByteArray
 at_:Int
structure ah where
 Text:ByteArray
 At:Int
structure dQ where
 A8:Int
 At:Int
structure dR where
 list:List ah
 end_:Int
 deep:Int
def Mc (a:bh):List G:=[.val (.string a.Name),.val (.int .i64 a.lG)]
def Ui (a:cJ):List G:=[.val (.string a.Name),.sl (List.length a.nz) (List.flatMap (fun x=>Mc x) a.nz)]
mutual
def B0:ai→List G
 | ⟨y0,y1,y2,y3,y4,y5,y6⟩=>[.val (.int .i64 y0)]++[.val (.string y1)]++[.val (.int .i64 y2)]++[.val (.bool y3)]++[.sl (List.length y4) (List.flatMap (fun x=>Mc x) y4)]++[.sl (List.length y5) (List.flatMap (fun x=>[.sl (List.length x) (List.flatMap (fun x=>[.val (.int .i64 x)]) x)]) y5)]++[.sl (List.length y6) (Gx y6)]
def Gx:List ai→List G
 | []=>[]
 | x::r=>B0 x++Gx r
end
theorem BZ:∀l:List ai,Gx l=List.flatMap B0 l
 | []=>rfl
 | x::r=>by simp only[Gx,cj,BZ r]
def VO (a:br):List G:=[.val (.string a.Name),.sl (List.length a.cy) (List.flatMap (fun x=>Ui x) a.cy),.val (.int .i64 a.Body.Kind),.val (.string a.Body.Name),.val (.int .i64 a.Body.Number),.val (.bool a.Body.Shaped),.sl (List.length a.Body.Shape) (List.flatMap (fun x=>Mc x) a.Body.Shape),.sl (List.length a.Body.bC) (List.flatMap (fun x=>[.sl (List.length x) (List.flatMap (fun x=>[.val (.int .i64 x)]) x)]) a.Body.bC),.sl (List.length a.Body.Kids) (List.flatMap (fun x=>B0 x) a.Body.Kids)]
def VN (a:zZ):List G:=[.val (.string a.s),.val (.int .i64 a.at_)]
def Uh (a:ah):List G:=[.val (.string a.Text),.val (.int .i64 a.At)]
def VM (a:dQ):List G:=[.val (.int .i64 a.A8),.val (.int .i64 a.At)]
def VL (a:dR):List G:=[.sl (List.length a.list) (List.flatMap (fun x=>Uh x) a.list),.val (.int .i64 a.end_),.val (.int .i64 a.deep)]
abbrev Vc:Nat→Type
 | 0=>bh
 | 1=>cJ
 | 2=>ai
 | 3=>br
 | 4=>zZ
 | 5=>ah
 | 6=>dQ
 | 7=>dR
 | _=>Unit
noncomputable def S0:dx where
 α:=Vc
 cn:=fun n=>match n with
  | 0=>[.str,(.int .i64)]
  | 1=>[.str,(.list (.st 0))]
  | 2=>[(.int .i64),.str,(.int .i64),.bool,(.list (.st 0)),(.list (.list (.int .i64))),(.list (.st 2))]
  | 3=>[.str,(.list (.st 1)),(.int .i64),.str,(.int .i64),.bool,(.list (.st 0)),(.list (.list (.int .i64))),(.list (.st 2))]
  | 4=>[.str,(.int .i64)]
  | 5=>[.str,(.int .i64)]
  | 6=>[(.int .i64),(.int .i64)]
  | 7=>[(.list (.st 5)),(.int .i64),(.int .i64)]
  | _=>[.bool]
 cells:=fun n=>match n with
  | 0=>fun (a:bh)=>[⟨.str,a.Name⟩,⟨(.int .i64),a.lG⟩]
  | 1=>fun (a:cJ)=>[⟨.str,a.Name⟩,⟨(.list (.st 0)),a.nz⟩]
  | 2=>fun (a:ai)=>[⟨(.int .i64),a.Kind⟩,⟨.str,a.Name⟩,⟨(.int .i64),a.Number⟩,⟨.bool,a.Shaped⟩,⟨(.list (.st 0)),a.Shape⟩,⟨(.list (.list (.int .i64))),a.bC⟩,⟨(.list (.st 2)),a.Kids⟩]
  | 3=>fun (a:br)=>[⟨.str,a.Name⟩,⟨(.list (.st 1)),a.cy⟩,⟨(.int .i64),a.Body.Kind⟩,⟨.str,a.Body.Name⟩,⟨(.int .i64),a.Body.Number⟩,⟨.bool,a.Body.Shaped⟩,⟨(.list (.st 0)),a.Body.Shape⟩,⟨(.list (.list (.int .i64))),a.Body.bC⟩,⟨(.list (.st 2)),a.Body.Kids⟩]
  | 4=>fun (a:zZ)=>[⟨.str,a.s⟩,⟨(.int .i64),a.at_⟩]
  | 5=>fun (a:ah)=>[⟨.str,a.Text⟩,⟨(.int .i64),a.At⟩]
  | 6=>fun (a:dQ)=>[⟨(.int .i64),a.A8⟩,⟨(.int .i64),a.At⟩]
  | 7=>fun (a:dR)=>[⟨(.list (.st 5)),a.list⟩,⟨(.int .i64),a.end_⟩,⟨(.int .i64),a.deep⟩]
  | _+8=>fun _=>[⟨.bool,false⟩]
 put:=fun n=>match n with
  | 0=>fun l=>(match l with | [⟨.str,y0⟩,⟨(.int .i64),y1⟩]=>some (⟨y0,y1⟩:bh) | _=>none)
  | 1=>fun l=>(match l with | [⟨.str,y0⟩,⟨(.list (.st 0)),y1⟩]=>some (⟨y0,y1⟩:cJ) | _=>none)
  | 2=>fun l=>(match l with | [⟨(.int .i64),y0⟩,⟨.str,y1⟩,⟨(.int .i64),y2⟩,⟨.bool,y3⟩,⟨(.list (.st 0)),y4⟩,⟨(.list (.list (.int .i64))),y5⟩,⟨(.list (.st 2)),y6⟩]=>some (⟨y0,y1,y2,y3,y4,y5,y6⟩:ai) | _=>none)
  | 3=>fun l=>(match l with | [⟨.str,y0⟩,⟨(.list (.st 1)),y1⟩,⟨(.int .i64),y2⟩,⟨.str,y3⟩,⟨(.int .i64),y4⟩,⟨.bool,y5⟩,⟨(.list (.st 0)),y6⟩,⟨(.list (.list (.int .i64))),y7⟩,⟨(.list (.st 2)),y8⟩]=>some (⟨y0,y1,⟨y2,y3,y4,y5,y6,y7,y8⟩⟩:br) | _=>none)
  | 4=>fun l=>(match l with | [⟨.str,y0⟩,⟨(.int .i64),y1⟩]=>some (⟨y0,y1⟩:zZ) | _=>none)
  | 5=>fun l=>(match l with | [⟨.str,y0⟩,⟨(.int .i64),y1⟩]=>some (⟨y0,y1⟩:ah) | _=>none)
  | 6=>fun l=>(match l with | [⟨(.int .i64),y0⟩,⟨(.int .i64),y1⟩]=>some (⟨y0,y1⟩:dQ) | _=>none)
  | 7=>fun l=>(match l with | [⟨(.list (.st 5)),y0⟩,⟨(.int .i64),y1⟩,⟨(.int .i64),y2⟩]=>some (⟨y0,y1,y2⟩:dR) | _=>none)
  | _+8=>fun _=>none
 fw:=fun n=>match n with
  | 0=>fun (a:bh)=>Mc a
  | 1=>fun (a:cJ)=>Ui a
  | 2=>fun (a:ai)=>B0 a
  | 3=>fun (a:br)=>VO a
  | 4=>fun (a:zZ)=>VN a
  | 5=>fun (a:ah)=>Uh a
  | 6=>fun (a:dQ)=>VM a
  | 7=>fun (a:dR)=>VL a
  | _+8=>fun _=>[.val (.bool false)]
 ty:=fun t=>match t with
  | 56=>some 2
  | _=>none
 Q6:=fun t=>match t with
  | 3=>some (.int .i64)
  | 9=>some .str
  | 40=>some (.st 5)
  | 56=>some (.st 2)
  | 58=>some (.st 3)
  | 61=>some (.st 1)
  | 87=>some (.list (.int .i64))
  | 89=>some (.st 0)
  | _=>none
 oy:=by intro n a;match n with
  | 0=>rfl
  | 1=>rfl
  | 2=>rfl
  | 3=>rfl
  | 4=>rfl
  | 5=>rfl
  | 6=>rfl
  | 7=>rfl
  | _+8=>rfl
 one:=by
  intro n t h
  match n with
  | 0=>have:=cz.1 (show([.str,(.int .i64)]:List Ty).all (fun t=>!t.fU)=true from rfl) t h;simpa using this
  | 1=>have:=cz.1 (show([.str,(.list (.st 0))]:List Ty).all (fun t=>!t.fU)=true from rfl) t h;simpa using this
  | 2=>have:=cz.1 (show([(.int .i64),.str,(.int .i64),.bool,(.list (.st 0)),(.list (.list (.int .i64))),(.list (.st 2))]:List Ty).all (fun t=>!t.fU)=true from rfl) t h;simpa using this
  | 3=>have:=cz.1 (show([.str,(.list (.st 1)),(.int .i64),.str,(.int .i64),.bool,(.list (.st 0)),(.list (.list (.int .i64))),(.list (.st 2))]:List Ty).all (fun t=>!t.fU)=true from rfl) t h;simpa using this
  | 4=>have:=cz.1 (show([.str,(.int .i64)]:List Ty).all (fun t=>!t.fU)=true from rfl) t h;simpa using this
  | 5=>have:=cz.1 (show([.str,(.int .i64)]:List Ty).all (fun t=>!t.fU)=true from rfl) t h;simpa using this
  | 6=>have:=cz.1 (show([(.int .i64),(.int .i64)]:List Ty).all (fun t=>!t.fU)=true from rfl) t h;simpa using this
  | 7=>have:=cz.1 (show([(.list (.st 5)),(.int .i64),(.int .i64)]:List Ty).all (fun t=>!t.fU)=true from rfl) t h;simpa using this
  | _+8=>simp at h;subst h;rfl
 pos:=by intro n;match n with
  | 0=>simp
  | 1=>simp
  | 2=>simp
  | 3=>simp
  | 4=>simp
  | 5=>simp
  | 6=>simp
  | 7=>simp
  | _+8=>simp
 lY:=by
  intro n l a h
  match n with
  | 0=>dsimp only at h;split at h <;> cases h;rfl
  | 1=>dsimp only at h;split at h <;> cases h;rfl
  | 2=>dsimp only at h;split at h <;> cases h;rfl
  | 3=>dsimp only at h;split at h <;> cases h;rfl
  | 4=>dsimp only at h;split at h <;> cases h;rfl
  | 5=>dsimp only at h;split at h <;> cases h;rfl
  | 6=>dsimp only at h;split at h <;> cases h;rfl
  | 7=>dsimp only at h;split at h <;> cases h;rfl
  | _+8=>cases h
 vU:=by intro n a;match n with
  | 0=>rfl
  | 1=>rfl
  | 2=>cases a;simp only[B0,BZ];rfl
  | 3=>rfl
  | 4=>rfl
  | 5=>rfl
  | 6=>rfl
  | 7=>rfl
  | _+8=>rfl
end
end Go.DN
