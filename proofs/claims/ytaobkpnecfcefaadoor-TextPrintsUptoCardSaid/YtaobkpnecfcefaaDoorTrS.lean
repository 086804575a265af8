/-
  The structs of the program, as data.
-/
import Derived.Test.YtaobkpnecfcefaaDoorMgH
import Derived.Test.YtaobkpnecfcefaaDoorTgB
import Derived.Test.YtaobkpnecfcefaaDoorTgF
set_option maxRecDepth 20000
set_option linter.unusedVariables false
set_option linter.unusedSimpArgs false
namespace Go.DN
open Go.AM
noncomputable section
structure SDim where
 Name:ByteArray
 Size:Int
structure SGiven where
 Name:ByteArray
 Dims:List SDim
structure STree where
 Kind:Int
 Name:ByteArray
 Number:Int
 Shaped:Bool
 Shape:List SDim
 Lists:List (List Int)
 Kids:List STree
structure SFunc where
 Name:ByteArray
 Given:List SGiven
 Body:STree
structure SFault where
 Err:Int
 At:Int
def enc0 (a:SDim):List G:=[.val (.string a.Name),.val (.int .i64 a.Size)]
def enc1 (a:SGiven):List G:=[.val (.string a.Name),.sl (List.length a.Dims) (List.flatMap (fun x=>enc0 x) a.Dims)]
mutual
def enc2:STree→List G
 | ⟨y0,y1,y2,y3,y4,y5,y6⟩=>[.val (.int .i64 y0)]++[.val (.string y1)]++[.val (.int .i64 y2)]++[.val (.bool y3)]++[.sl (List.length y4) (List.flatMap (fun x=>enc0 x) y4)]++[.sl (List.length y5) (List.flatMap (fun x=>[.sl (List.length x) (List.flatMap (fun x=>[.val (.int .i64 x)]) x)]) y5)]++[.sl (List.length y6) (enc2L y6)]
def enc2L:List STree→List G
 | []=>[]
 | x::r=>enc2 x++enc2L r
end
theorem enc2L_eq:∀l:List STree,enc2L l=List.flatMap enc2 l
 | []=>rfl
 | x::r=>by simp only[enc2L,List.flatMap_cons,enc2L_eq r]
def enc3 (a:SFunc):List G:=[.val (.string a.Name),.sl (List.length a.Given) (List.flatMap (fun x=>enc1 x) a.Given),.val (.int .i64 a.Body.Kind),.val (.string a.Body.Name),.val (.int .i64 a.Body.Number),.val (.bool a.Body.Shaped),.sl (List.length a.Body.Shape) (List.flatMap (fun x=>enc0 x) a.Body.Shape),.sl (List.length a.Body.Lists) (List.flatMap (fun x=>[.sl (List.length x) (List.flatMap (fun x=>[.val (.int .i64 x)]) x)]) a.Body.Lists),.sl (List.length a.Body.Kids) (List.flatMap (fun x=>enc2 x) a.Body.Kids)]
def enc4 (a:SFault):List G:=[.val (.int .i64 a.Err),.val (.int .i64 a.At)]
abbrev alpha:Nat→Type
 | 0=>SDim
 | 1=>SGiven
 | 2=>STree
 | 3=>SFunc
 | 4=>SFault
 | _=>Unit
noncomputable def S0:Sig where
 α:=alpha
 tys:=fun n=>match n with
  | 0=>[.str,(.int .i64)]
  | 1=>[.str,(.list (.st 0))]
  | 2=>[(.int .i64),.str,(.int .i64),.bool,(.list (.st 0)),(.list (.list (.int .i64))),(.list (.st 2))]
  | 3=>[.str,(.list (.st 1)),(.int .i64),.str,(.int .i64),.bool,(.list (.st 0)),(.list (.list (.int .i64))),(.list (.st 2))]
  | 4=>[(.int .i64),(.int .i64)]
  | _=>[.bool]
 cells:=fun n=>match n with
  | 0=>fun (a:SDim)=>[⟨.str,a.Name⟩,⟨(.int .i64),a.Size⟩]
  | 1=>fun (a:SGiven)=>[⟨.str,a.Name⟩,⟨(.list (.st 0)),a.Dims⟩]
  | 2=>fun (a:STree)=>[⟨(.int .i64),a.Kind⟩,⟨.str,a.Name⟩,⟨(.int .i64),a.Number⟩,⟨.bool,a.Shaped⟩,⟨(.list (.st 0)),a.Shape⟩,⟨(.list (.list (.int .i64))),a.Lists⟩,⟨(.list (.st 2)),a.Kids⟩]
  | 3=>fun (a:SFunc)=>[⟨.str,a.Name⟩,⟨(.list (.st 1)),a.Given⟩,⟨(.int .i64),a.Body.Kind⟩,⟨.str,a.Body.Name⟩,⟨(.int .i64),a.Body.Number⟩,⟨.bool,a.Body.Shaped⟩,⟨(.list (.st 0)),a.Body.Shape⟩,⟨(.list (.list (.int .i64))),a.Body.Lists⟩,⟨(.list (.st 2)),a.Body.Kids⟩]
  | 4=>fun (a:SFault)=>[⟨(.int .i64),a.Err⟩,⟨(.int .i64),a.At⟩]
  | _+5=>fun _=>[⟨.bool,false⟩]
 put:=fun n=>match n with
  | 0=>fun l=>(match l with | [⟨.str,y0⟩,⟨(.int .i64),y1⟩]=>some (⟨y0,y1⟩:SDim) | _=>none)
  | 1=>fun l=>(match l with | [⟨.str,y0⟩,⟨(.list (.st 0)),y1⟩]=>some (⟨y0,y1⟩:SGiven) | _=>none)
  | 2=>fun l=>(match l with | [⟨(.int .i64),y0⟩,⟨.str,y1⟩,⟨(.int .i64),y2⟩,⟨.bool,y3⟩,⟨(.list (.st 0)),y4⟩,⟨(.list (.list (.int .i64))),y5⟩,⟨(.list (.st 2)),y6⟩]=>some (⟨y0,y1,y2,y3,y4,y5,y6⟩:STree) | _=>none)
  | 3=>fun l=>(match l with | [⟨.str,y0⟩,⟨(.list (.st 1)),y1⟩,⟨(.int .i64),y2⟩,⟨.str,y3⟩,⟨(.int .i64),y4⟩,⟨.bool,y5⟩,⟨(.list (.st 0)),y6⟩,⟨(.list (.list (.int .i64))),y7⟩,⟨(.list (.st 2)),y8⟩]=>some (⟨y0,y1,⟨y2,y3,y4,y5,y6,y7,y8⟩⟩:SFunc) | _=>none)
  | 4=>fun l=>(match l with | [⟨(.int .i64),y0⟩,⟨(.int .i64),y1⟩]=>some (⟨y0,y1⟩:SFault) | _=>none)
  | _+5=>fun _=>none
 enc:=fun n=>match n with
  | 0=>fun (a:SDim)=>enc0 a
  | 1=>fun (a:SGiven)=>enc1 a
  | 2=>fun (a:STree)=>enc2 a
  | 3=>fun (a:SFunc)=>enc3 a
  | 4=>fun (a:SFault)=>enc4 a
  | _+5=>fun _=>[.val (.bool false)]
 ty:=fun t=>match t with
  | _=>none
 tyS:=fun t=>match t with
  | 5=>some (.int .u8)
  | 9=>some .str
  | _=>none
 tys_cells:=by intro n a;match n with
  | 0=>rfl
  | 1=>rfl
  | 2=>rfl
  | 3=>rfl
  | 4=>rfl
  | _+5=>rfl
 one:=by
  intro n t h
  match n with
  | 0=>have:=List.all_eq_true.1 (show([.str,(.int .i64)]:List Ty).all (fun t=>!t.isSt)=true from rfl) t h;simpa using this
  | 1=>have:=List.all_eq_true.1 (show([.str,(.list (.st 0))]:List Ty).all (fun t=>!t.isSt)=true from rfl) t h;simpa using this
  | 2=>have:=List.all_eq_true.1 (show([(.int .i64),.str,(.int .i64),.bool,(.list (.st 0)),(.list (.list (.int .i64))),(.list (.st 2))]:List Ty).all (fun t=>!t.isSt)=true from rfl) t h;simpa using this
  | 3=>have:=List.all_eq_true.1 (show([.str,(.list (.st 1)),(.int .i64),.str,(.int .i64),.bool,(.list (.st 0)),(.list (.list (.int .i64))),(.list (.st 2))]:List Ty).all (fun t=>!t.isSt)=true from rfl) t h;simpa using this
  | 4=>have:=List.all_eq_true.1 (show([(.int .i64),(.int .i64)]:List Ty).all (fun t=>!t.isSt)=true from rfl) t h;simpa using this
  | _+5=>simp at h;subst h;rfl
 pos:=by intro n;match n with
  | 0=>simp
  | 1=>simp
  | 2=>simp
  | 3=>simp
  | 4=>simp
  | _+5=>simp
 put_cells:=by
  intro n l a h
  match n with
  | 0=>dsimp only at h;split at h <;> cases h;rfl
  | 1=>dsimp only at h;split at h <;> cases h;rfl
  | 2=>dsimp only at h;split at h <;> cases h;rfl
  | 3=>dsimp only at h;split at h <;> cases h;rfl
  | 4=>dsimp only at h;split at h <;> cases h;rfl
  | _+5=>cases h
 enc_cells:=by intro n a;match n with
  | 0=>rfl
  | 1=>rfl
  | 2=>cases a;simp only[enc2,enc2L_eq];rfl
  | 3=>rfl
  | 4=>rfl
  | _+5=>rfl
end
end Go.DN
