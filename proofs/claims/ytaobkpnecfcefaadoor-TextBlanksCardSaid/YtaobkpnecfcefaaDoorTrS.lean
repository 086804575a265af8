/-
  The structs of the program, as data.
-/
import Derived.Test.YtaobkpnecfcefaaDoorMgH
import Derived.Test.YtaobkpnecfcefaaDoorTfC
set_option maxRecDepth 20000
set_option linter.unusedVariables false
set_option linter.unusedSimpArgs false
namespace Go.DN
open Go.AM
noncomputable section
structure Slexer where
 s:ByteArray
 at_:Int
structure SToken where
 Text:ByteArray
 At:Int
structure SFault where
 Err:Int
 At:Int
structure SDim where
 Name:ByteArray
 Size:Int
structure SGiven where
 Name:ByteArray
 Dims:List SDim
structure STree where
 Kind:Int
 Name:ByteArray
 Number:Int
 Shaped:Bool
 Shape:List SDim
 Lists:List (List Int)
 Kids:List STree
structure SFunc where
 Name:ByteArray
 Given:List SGiven
 Body:STree
structure Sreader where
 list:List SToken
 end_:Int
 deep:Int
structure Slist where
 l:List SToken
 end_:Int
def enc0 (a:Slexer):List G:=[.val (.string a.s),.val (.int .i64 a.at_)]
def enc1 (a:SToken):List G:=[.val (.string a.Text),.val (.int .i64 a.At)]
def enc2 (a:SFault):List G:=[.val (.int .i64 a.Err),.val (.int .i64 a.At)]
def enc3 (a:SDim):List G:=[.val (.string a.Name),.val (.int .i64 a.Size)]
def enc4 (a:SGiven):List G:=[.val (.string a.Name),.sl (List.length a.Dims) (List.flatMap (fun x=>enc3 x) a.Dims)]
mutual
def enc5:STree→List G
 | ⟨y0,y1,y2,y3,y4,y5,y6⟩=>[.val (.int .i64 y0)]++[.val (.string y1)]++[.val (.int .i64 y2)]++[.val (.bool y3)]++[.sl (List.length y4) (List.flatMap (fun x=>enc3 x) y4)]++[.sl (List.length y5) (List.flatMap (fun x=>[.sl (List.length x) (List.flatMap (fun x=>[.val (.int .i64 x)]) x)]) y5)]++[.sl (List.length y6) (enc5L y6)]
def enc5L:List STree→List G
 | []=>[]
 | x::r=>enc5 x++enc5L r
end
theorem enc5L_eq:∀l:List STree,enc5L l=List.flatMap enc5 l
 | []=>rfl
 | x::r=>by simp only[enc5L,List.flatMap_cons,enc5L_eq r]
def enc6 (a:SFunc):List G:=[.val (.string a.Name),.sl (List.length a.Given) (List.flatMap (fun x=>enc4 x) a.Given),.val (.int .i64 a.Body.Kind),.val (.string a.Body.Name),.val (.int .i64 a.Body.Number),.val (.bool a.Body.Shaped),.sl (List.length a.Body.Shape) (List.flatMap (fun x=>enc3 x) a.Body.Shape),.sl (List.length a.Body.Lists) (List.flatMap (fun x=>[.sl (List.length x) (List.flatMap (fun x=>[.val (.int .i64 x)]) x)]) a.Body.Lists),.sl (List.length a.Body.Kids) (List.flatMap (fun x=>enc5 x) a.Body.Kids)]
def enc7 (a:Sreader):List G:=[.sl (List.length a.list) (List.flatMap (fun x=>enc1 x) a.list),.val (.int .i64 a.end_),.val (.int .i64 a.deep)]
def enc8 (a:Slist):List G:=[.sl (List.length a.l) (List.flatMap (fun x=>enc1 x) a.l),.val (.int .i64 a.end_)]
abbrev alpha:Nat→Type
 | 0=>Slexer
 | 1=>SToken
 | 2=>SFault
 | 3=>SDim
 | 4=>SGiven
 | 5=>STree
 | 6=>SFunc
 | 7=>Sreader
 | 8=>Slist
 | _=>Unit
noncomputable def S0:Sig where
 α:=alpha
 tys:=fun n=>match n with
  | 0=>[.str,(.int .i64)]
  | 1=>[.str,(.int .i64)]
  | 2=>[(.int .i64),(.int .i64)]
  | 3=>[.str,(.int .i64)]
  | 4=>[.str,(.list (.st 3))]
  | 5=>[(.int .i64),.str,(.int .i64),.bool,(.list (.st 3)),(.list (.list (.int .i64))),(.list (.st 5))]
  | 6=>[.str,(.list (.st 4)),(.int .i64),.str,(.int .i64),.bool,(.list (.st 3)),(.list (.list (.int .i64))),(.list (.st 5))]
  | 7=>[(.list (.st 1)),(.int .i64),(.int .i64)]
  | 8=>[(.list (.st 1)),(.int .i64)]
  | _=>[.bool]
 cells:=fun n=>match n with
  | 0=>fun (a:Slexer)=>[⟨.str,a.s⟩,⟨(.int .i64),a.at_⟩]
  | 1=>fun (a:SToken)=>[⟨.str,a.Text⟩,⟨(.int .i64),a.At⟩]
  | 2=>fun (a:SFault)=>[⟨(.int .i64),a.Err⟩,⟨(.int .i64),a.At⟩]
  | 3=>fun (a:SDim)=>[⟨.str,a.Name⟩,⟨(.int .i64),a.Size⟩]
  | 4=>fun (a:SGiven)=>[⟨.str,a.Name⟩,⟨(.list (.st 3)),a.Dims⟩]
  | 5=>fun (a:STree)=>[⟨(.int .i64),a.Kind⟩,⟨.str,a.Name⟩,⟨(.int .i64),a.Number⟩,⟨.bool,a.Shaped⟩,⟨(.list (.st 3)),a.Shape⟩,⟨(.list (.list (.int .i64))),a.Lists⟩,⟨(.list (.st 5)),a.Kids⟩]
  | 6=>fun (a:SFunc)=>[⟨.str,a.Name⟩,⟨(.list (.st 4)),a.Given⟩,⟨(.int .i64),a.Body.Kind⟩,⟨.str,a.Body.Name⟩,⟨(.int .i64),a.Body.Number⟩,⟨.bool,a.Body.Shaped⟩,⟨(.list (.st 3)),a.Body.Shape⟩,⟨(.list (.list (.int .i64))),a.Body.Lists⟩,⟨(.list (.st 5)),a.Body.Kids⟩]
  | 7=>fun (a:Sreader)=>[⟨(.list (.st 1)),a.list⟩,⟨(.int .i64),a.end_⟩,⟨(.int .i64),a.deep⟩]
  | 8=>fun (a:Slist)=>[⟨(.list (.st 1)),a.l⟩,⟨(.int .i64),a.end_⟩]
  | _+9=>fun _=>[⟨.bool,false⟩]
 put:=fun n=>match n with
  | 0=>fun l=>(match l with | [⟨.str,y0⟩,⟨(.int .i64),y1⟩]=>some (⟨y0,y1⟩:Slexer) | _=>none)
  | 1=>fun l=>(match l with | [⟨.str,y0⟩,⟨(.int .i64),y1⟩]=>some (⟨y0,y1⟩:SToken) | _=>none)
  | 2=>fun l=>(match l with | [⟨(.int .i64),y0⟩,⟨(.int .i64),y1⟩]=>some (⟨y0,y1⟩:SFault) | _=>none)
  | 3=>fun l=>(match l with | [⟨.str,y0⟩,⟨(.int .i64),y1⟩]=>some (⟨y0,y1⟩:SDim) | _=>none)
  | 4=>fun l=>(match l with | [⟨.str,y0⟩,⟨(.list (.st 3)),y1⟩]=>some (⟨y0,y1⟩:SGiven) | _=>none)
  | 5=>fun l=>(match l with | [⟨(.int .i64),y0⟩,⟨.str,y1⟩,⟨(.int .i64),y2⟩,⟨.bool,y3⟩,⟨(.list (.st 3)),y4⟩,⟨(.list (.list (.int .i64))),y5⟩,⟨(.list (.st 5)),y6⟩]=>some (⟨y0,y1,y2,y3,y4,y5,y6⟩:STree) | _=>none)
  | 6=>fun l=>(match l with | [⟨.str,y0⟩,⟨(.list (.st 4)),y1⟩,⟨(.int .i64),y2⟩,⟨.str,y3⟩,⟨(.int .i64),y4⟩,⟨.bool,y5⟩,⟨(.list (.st 3)),y6⟩,⟨(.list (.list (.int .i64))),y7⟩,⟨(.list (.st 5)),y8⟩]=>some (⟨y0,y1,⟨y2,y3,y4,y5,y6,y7,y8⟩⟩:SFunc) | _=>none)
  | 7=>fun l=>(match l with | [⟨(.list (.st 1)),y0⟩,⟨(.int .i64),y1⟩,⟨(.int .i64),y2⟩]=>some (⟨y0,y1,y2⟩:Sreader) | _=>none)
  | 8=>fun l=>(match l with | [⟨(.list (.st 1)),y0⟩,⟨(.int .i64),y1⟩]=>some (⟨y0,y1⟩:Slist) | _=>none)
  | _+9=>fun _=>none
 enc:=fun n=>match n with
  | 0=>fun (a:Slexer)=>enc0 a
  | 1=>fun (a:SToken)=>enc1 a
  | 2=>fun (a:SFault)=>enc2 a
  | 3=>fun (a:SDim)=>enc3 a
  | 4=>fun (a:SGiven)=>enc4 a
  | 5=>fun (a:STree)=>enc5 a
  | 6=>fun (a:SFunc)=>enc6 a
  | 7=>fun (a:Sreader)=>enc7 a
  | 8=>fun (a:Slist)=>enc8 a
  | _+9=>fun _=>[.val (.bool false)]
 ty:=fun t=>match t with
  | 56=>some 5
  | _=>none
 tyS:=fun t=>match t with
  | 3=>some (.int .i64)
  | 9=>some .str
  | 40=>some (.st 1)
  | 56=>some (.st 5)
  | 58=>some (.st 6)
  | 61=>some (.st 4)
  | 87=>some (.list (.int .i64))
  | 89=>some (.st 3)
  | _=>none
 tys_cells:=by intro n a;match n with
  | 0=>rfl
  | 1=>rfl
  | 2=>rfl
  | 3=>rfl
  | 4=>rfl
  | 5=>rfl
  | 6=>rfl
  | 7=>rfl
  | 8=>rfl
  | _+9=>rfl
 one:=by
  intro n t h
  match n with
  | 0=>have:=List.all_eq_true.1 (show([.str,(.int .i64)]:List Ty).all (fun t=>!t.isSt)=true from rfl) t h;simpa using this
  | 1=>have:=List.all_eq_true.1 (show([.str,(.int .i64)]:List Ty).all (fun t=>!t.isSt)=true from rfl) t h;simpa using this
  | 2=>have:=List.all_eq_true.1 (show([(.int .i64),(.int .i64)]:List Ty).all (fun t=>!t.isSt)=true from rfl) t h;simpa using this
  | 3=>have:=List.all_eq_true.1 (show([.str,(.int .i64)]:List Ty).all (fun t=>!t.isSt)=true from rfl) t h;simpa using this
  | 4=>have:=List.all_eq_true.1 (show([.str,(.list (.st 3))]:List Ty).all (fun t=>!t.isSt)=true from rfl) t h;simpa using this
  | 5=>have:=List.all_eq_true.1 (show([(.int .i64),.str,(.int .i64),.bool,(.list (.st 3)),(.list (.list (.int .i64))),(.list (.st 5))]:List Ty).all (fun t=>!t.isSt)=true from rfl) t h;simpa using this
  | 6=>have:=List.all_eq_true.1 (show([.str,(.list (.st 4)),(.int .i64),.str,(.int .i64),.bool,(.list (.st 3)),(.list (.list (.int .i64))),(.list (.st 5))]:List Ty).all (fun t=>!t.isSt)=true from rfl) t h;simpa using this
  | 7=>have:=List.all_eq_true.1 (show([(.list (.st 1)),(.int .i64),(.int .i64)]:List Ty).all (fun t=>!t.isSt)=true from rfl) t h;simpa using this
  | 8=>have:=List.all_eq_true.1 (show([(.list (.st 1)),(.int .i64)]:List Ty).all (fun t=>!t.isSt)=true from rfl) t h;simpa using this
  | _+9=>simp at h;subst h;rfl
 pos:=by intro n;match n with
  | 0=>simp
  | 1=>simp
  | 2=>simp
  | 3=>simp
  | 4=>simp
  | 5=>simp
  | 6=>simp
  | 7=>simp
  | 8=>simp
  | _+9=>simp
 put_cells:=by
  intro n l a h
  match n with
  | 0=>dsimp only at h;split at h <;> cases h;rfl
  | 1=>dsimp only at h;split at h <;> cases h;rfl
  | 2=>dsimp only at h;split at h <;> cases h;rfl
  | 3=>dsimp only at h;split at h <;> cases h;rfl
  | 4=>dsimp only at h;split at h <;> cases h;rfl
  | 5=>dsimp only at h;split at h <;> cases h;rfl
  | 6=>dsimp only at h;split at h <;> cases h;rfl
  | 7=>dsimp only at h;split at h <;> cases h;rfl
  | 8=>dsimp only at h;split at h <;> cases h;rfl
  | _+9=>cases h
 enc_cells:=by intro n a;match n with
  | 0=>rfl
  | 1=>rfl
  | 2=>rfl
  | 3=>rfl
  | 4=>rfl
  | 5=>cases a;simp only[enc5,enc5L_eq];rfl
  | 6=>rfl
  | 7=>rfl
  | 8=>rfl
  | _+9=>rfl
end
end Go.DN
