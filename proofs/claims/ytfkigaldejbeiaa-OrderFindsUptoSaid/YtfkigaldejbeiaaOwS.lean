/-
  The structs of the program, as data.
-/
import Derived.Test.YtfkigaldejbeiaaMgH
import Derived.Test.YtfkigaldejbeiaaProg
set_option maxRecDepth 20000
set_option linter.unusedVariables false
set_option linter.unusedSectionVars false
set_option linter.unusedSimpArgs false
namespace Go.DN
open Go.AM
open Go.Proofs
noncomputable section
structure SRow where
 Coef:List Int
 Const:Int
structure SPoints where
 Box:List Int
 Rows:List SRow
structure SAccess where
 Array:Int
 At:SRow
structure SStmt where
 Over:SPoints
 Do:Int
 Value:Int
 Put:SAccess
 Get:List SAccess
structure SNest where
 Sizes:List Int
 Stmts:List SStmt
structure SSpot where
 Stmt:Int
 At:List Int
structure Sspot where
 Spot:SSpot
 number:Int
 time:List Int
structure Scell where
 array:Int
 at_:Int
structure SFound where
 Any:Bool
 A:SSpot
 B:SSpot
structure SArr8 where
 a0:Int
 a1:Int
 a2:Int
 a3:Int
 a4:Int
 a5:Int
 a6:Int
 a7:Int
def enc0 (a:SRow):List G:=[.sl (List.length a.Coef) (List.flatMap (fun x=>[.val (.int .i64 x)]) a.Coef),.val (.int .i64 a.Const)]
def enc1 (a:SPoints):List G:=[.sl (List.length a.Box) (List.flatMap (fun x=>[.val (.int .i64 x)]) a.Box),.sl (List.length a.Rows) (List.flatMap (fun x=>enc0 x) a.Rows)]
def enc2 (a:SAccess):List G:=[.val (.int .i64 a.Array),.sl (List.length a.At.Coef) (List.flatMap (fun x=>[.val (.int .i64 x)]) a.At.Coef),.val (.int .i64 a.At.Const)]
def enc3 (a:SStmt):List G:=[.sl (List.length a.Over.Box) (List.flatMap (fun x=>[.val (.int .i64 x)]) a.Over.Box),.sl (List.length a.Over.Rows) (List.flatMap (fun x=>enc0 x) a.Over.Rows),.val (.int .i64 a.Do),.val (.int .i64 a.Value),.val (.int .i64 a.Put.Array),.sl (List.length a.Put.At.Coef) (List.flatMap (fun x=>[.val (.int .i64 x)]) a.Put.At.Coef),.val (.int .i64 a.Put.At.Const),.sl (List.length a.Get) (List.flatMap (fun x=>enc2 x) a.Get)]
def enc4 (a:SNest):List G:=[.sl (List.length a.Sizes) (List.flatMap (fun x=>[.val (.int .i64 x)]) a.Sizes),.sl (List.length a.Stmts) (List.flatMap (fun x=>enc3 x) a.Stmts)]
def enc5 (a:SSpot):List G:=[.val (.int .i64 a.Stmt),.sl (List.length a.At) (List.flatMap (fun x=>[.val (.int .i64 x)]) a.At)]
def enc6 (a:Sspot):List G:=[.val (.int .i64 a.Spot.Stmt),.sl (List.length a.Spot.At) (List.flatMap (fun x=>[.val (.int .i64 x)]) a.Spot.At),.val (.int .i64 a.number),.sl (List.length a.time) (List.flatMap (fun x=>[.val (.int .i64 x)]) a.time)]
def enc7 (a:Scell):List G:=[.val (.int .i64 a.array),.val (.int .i64 a.at_)]
def enc8 (a:SFound):List G:=[.val (.bool a.Any),.val (.int .i64 a.A.Stmt),.sl (List.length a.A.At) (List.flatMap (fun x=>[.val (.int .i64 x)]) a.A.At),.val (.int .i64 a.B.Stmt),.sl (List.length a.B.At) (List.flatMap (fun x=>[.val (.int .i64 x)]) a.B.At)]
def enc9 (a:SArr8):List G:=[.val (.int .i64 a.a0),.val (.int .i64 a.a1),.val (.int .i64 a.a2),.val (.int .i64 a.a3),.val (.int .i64 a.a4),.val (.int .i64 a.a5),.val (.int .i64 a.a6),.val (.int .i64 a.a7)]
abbrev alpha:Nat→Type
 | 0=>SRow
 | 1=>SPoints
 | 2=>SAccess
 | 3=>SStmt
 | 4=>SNest
 | 5=>SSpot
 | 6=>Sspot
 | 7=>Scell
 | 8=>SFound
 | 9=>SArr8
 | _=>Unit
noncomputable def S0:Sig where
 lpc:=fun n=>match n with
  | 0=>rngAt Try.prog 49 0 0 [3,4,5,7,10,11]
  | _=>⟨0,[],#[],.skip,.skip,0⟩
 α:=alpha
 tys:=fun n=>match n with
  | 0=>[(.list (.int .i64)),(.int .i64)]
  | 1=>[(.list (.int .i64)),(.list (.st 0))]
  | 2=>[(.int .i64),(.list (.int .i64)),(.int .i64)]
  | 3=>[(.list (.int .i64)),(.list (.st 0)),(.int .i64),(.int .i64),(.int .i64),(.list (.int .i64)),(.int .i64),(.list (.st 2))]
  | 4=>[(.list (.int .i64)),(.list (.st 3))]
  | 5=>[(.int .i64),(.list (.int .i64))]
  | 6=>[(.int .i64),(.list (.int .i64)),(.int .i64),(.list (.int .i64))]
  | 7=>[(.int .i64),(.int .i64)]
  | 8=>[.bool,(.int .i64),(.list (.int .i64)),(.int .i64),(.list (.int .i64))]
  | 9=>[(.int .i64),(.int .i64),(.int .i64),(.int .i64),(.int .i64),(.int .i64),(.int .i64),(.int .i64)]
  | _=>[.bool]
 cells:=fun n=>match n with
  | 0=>fun (a:SRow)=>[⟨(.list (.int .i64)),a.Coef⟩,⟨(.int .i64),a.Const⟩]
  | 1=>fun (a:SPoints)=>[⟨(.list (.int .i64)),a.Box⟩,⟨(.list (.st 0)),a.Rows⟩]
  | 2=>fun (a:SAccess)=>[⟨(.int .i64),a.Array⟩,⟨(.list (.int .i64)),a.At.Coef⟩,⟨(.int .i64),a.At.Const⟩]
  | 3=>fun (a:SStmt)=>[⟨(.list (.int .i64)),a.Over.Box⟩,⟨(.list (.st 0)),a.Over.Rows⟩,⟨(.int .i64),a.Do⟩,⟨(.int .i64),a.Value⟩,⟨(.int .i64),a.Put.Array⟩,⟨(.list (.int .i64)),a.Put.At.Coef⟩,⟨(.int .i64),a.Put.At.Const⟩,⟨(.list (.st 2)),a.Get⟩]
  | 4=>fun (a:SNest)=>[⟨(.list (.int .i64)),a.Sizes⟩,⟨(.list (.st 3)),a.Stmts⟩]
  | 5=>fun (a:SSpot)=>[⟨(.int .i64),a.Stmt⟩,⟨(.list (.int .i64)),a.At⟩]
  | 6=>fun (a:Sspot)=>[⟨(.int .i64),a.Spot.Stmt⟩,⟨(.list (.int .i64)),a.Spot.At⟩,⟨(.int .i64),a.number⟩,⟨(.list (.int .i64)),a.time⟩]
  | 7=>fun (a:Scell)=>[⟨(.int .i64),a.array⟩,⟨(.int .i64),a.at_⟩]
  | 8=>fun (a:SFound)=>[⟨.bool,a.Any⟩,⟨(.int .i64),a.A.Stmt⟩,⟨(.list (.int .i64)),a.A.At⟩,⟨(.int .i64),a.B.Stmt⟩,⟨(.list (.int .i64)),a.B.At⟩]
  | 9=>fun (a:SArr8)=>[⟨(.int .i64),a.a0⟩,⟨(.int .i64),a.a1⟩,⟨(.int .i64),a.a2⟩,⟨(.int .i64),a.a3⟩,⟨(.int .i64),a.a4⟩,⟨(.int .i64),a.a5⟩,⟨(.int .i64),a.a6⟩,⟨(.int .i64),a.a7⟩]
  | _+10=>fun _=>[⟨.bool,false⟩]
 put:=fun n=>match n with
  | 0=>fun l=>(match l with | [⟨(.list (.int .i64)),y0⟩,⟨(.int .i64),y1⟩]=>some (⟨y0,y1⟩:SRow) | _=>none)
  | 1=>fun l=>(match l with | [⟨(.list (.int .i64)),y0⟩,⟨(.list (.st 0)),y1⟩]=>some (⟨y0,y1⟩:SPoints) | _=>none)
  | 2=>fun l=>(match l with | [⟨(.int .i64),y0⟩,⟨(.list (.int .i64)),y1⟩,⟨(.int .i64),y2⟩]=>some (⟨y0,⟨y1,y2⟩⟩:SAccess) | _=>none)
  | 3=>fun l=>(match l with | [⟨(.list (.int .i64)),y0⟩,⟨(.list (.st 0)),y1⟩,⟨(.int .i64),y2⟩,⟨(.int .i64),y3⟩,⟨(.int .i64),y4⟩,⟨(.list (.int .i64)),y5⟩,⟨(.int .i64),y6⟩,⟨(.list (.st 2)),y7⟩]=>some (⟨⟨y0,y1⟩,y2,y3,⟨y4,⟨y5,y6⟩⟩,y7⟩:SStmt) | _=>none)
  | 4=>fun l=>(match l with | [⟨(.list (.int .i64)),y0⟩,⟨(.list (.st 3)),y1⟩]=>some (⟨y0,y1⟩:SNest) | _=>none)
  | 5=>fun l=>(match l with | [⟨(.int .i64),y0⟩,⟨(.list (.int .i64)),y1⟩]=>some (⟨y0,y1⟩:SSpot) | _=>none)
  | 6=>fun l=>(match l with | [⟨(.int .i64),y0⟩,⟨(.list (.int .i64)),y1⟩,⟨(.int .i64),y2⟩,⟨(.list (.int .i64)),y3⟩]=>some (⟨⟨y0,y1⟩,y2,y3⟩:Sspot) | _=>none)
  | 7=>fun l=>(match l with | [⟨(.int .i64),y0⟩,⟨(.int .i64),y1⟩]=>some (⟨y0,y1⟩:Scell) | _=>none)
  | 8=>fun l=>(match l with | [⟨.bool,y0⟩,⟨(.int .i64),y1⟩,⟨(.list (.int .i64)),y2⟩,⟨(.int .i64),y3⟩,⟨(.list (.int .i64)),y4⟩]=>some (⟨y0,⟨y1,y2⟩,⟨y3,y4⟩⟩:SFound) | _=>none)
  | 9=>fun l=>(match l with | [⟨(.int .i64),y0⟩,⟨(.int .i64),y1⟩,⟨(.int .i64),y2⟩,⟨(.int .i64),y3⟩,⟨(.int .i64),y4⟩,⟨(.int .i64),y5⟩,⟨(.int .i64),y6⟩,⟨(.int .i64),y7⟩]=>some (⟨y0,y1,y2,y3,y4,y5,y6,y7⟩:SArr8) | _=>none)
  | _+10=>fun _=>none
 enc:=fun n=>match n with
  | 0=>fun (a:SRow)=>enc0 a
  | 1=>fun (a:SPoints)=>enc1 a
  | 2=>fun (a:SAccess)=>enc2 a
  | 3=>fun (a:SStmt)=>enc3 a
  | 4=>fun (a:SNest)=>enc4 a
  | 5=>fun (a:SSpot)=>enc5 a
  | 6=>fun (a:Sspot)=>enc6 a
  | 7=>fun (a:Scell)=>enc7 a
  | 8=>fun (a:SFound)=>enc8 a
  | 9=>fun (a:SArr8)=>enc9 a
  | _+10=>fun _=>[.val (.bool false)]
 ty:=fun t=>match t with
  | 40=>some 5
  | 59=>some 1
  | _=>none
 tyS:=fun t=>match t with
  | 3=>some (.int .i64)
  | 22=>some (.list (.int .i64))
  | 40=>some (.st 5)
  | 61=>some (.st 2)
  | 77=>some (.st 6)
  | 132=>some (.st 7)
  | _=>none
 tys_cells:=by intro n a;match n with
  | 0=>rfl
  | 1=>rfl
  | 2=>rfl
  | 3=>rfl
  | 4=>rfl
  | 5=>rfl
  | 6=>rfl
  | 7=>rfl
  | 8=>rfl
  | 9=>rfl
  | _+10=>rfl
 one:=by
  intro n t h
  match n with
  | 0=>have:=List.all_eq_true.1 (show([(.list (.int .i64)),(.int .i64)]:List Ty).all (fun t=>!t.isSt)=true from rfl) t h;simpa using this
  | 1=>have:=List.all_eq_true.1 (show([(.list (.int .i64)),(.list (.st 0))]:List Ty).all (fun t=>!t.isSt)=true from rfl) t h;simpa using this
  | 2=>have:=List.all_eq_true.1 (show([(.int .i64),(.list (.int .i64)),(.int .i64)]:List Ty).all (fun t=>!t.isSt)=true from rfl) t h;simpa using this
  | 3=>have:=List.all_eq_true.1 (show([(.list (.int .i64)),(.list (.st 0)),(.int .i64),(.int .i64),(.int .i64),(.list (.int .i64)),(.int .i64),(.list (.st 2))]:List Ty).all (fun t=>!t.isSt)=true from rfl) t h;simpa using this
  | 4=>have:=List.all_eq_true.1 (show([(.list (.int .i64)),(.list (.st 3))]:List Ty).all (fun t=>!t.isSt)=true from rfl) t h;simpa using this
  | 5=>have:=List.all_eq_true.1 (show([(.int .i64),(.list (.int .i64))]:List Ty).all (fun t=>!t.isSt)=true from rfl) t h;simpa using this
  | 6=>have:=List.all_eq_true.1 (show([(.int .i64),(.list (.int .i64)),(.int .i64),(.list (.int .i64))]:List Ty).all (fun t=>!t.isSt)=true from rfl) t h;simpa using this
  | 7=>have:=List.all_eq_true.1 (show([(.int .i64),(.int .i64)]:List Ty).all (fun t=>!t.isSt)=true from rfl) t h;simpa using this
  | 8=>have:=List.all_eq_true.1 (show([.bool,(.int .i64),(.list (.int .i64)),(.int .i64),(.list (.int .i64))]:List Ty).all (fun t=>!t.isSt)=true from rfl) t h;simpa using this
  | 9=>have:=List.all_eq_true.1 (show([(.int .i64),(.int .i64),(.int .i64),(.int .i64),(.int .i64),(.int .i64),(.int .i64),(.int .i64)]:List Ty).all (fun t=>!t.isSt)=true from rfl) t h;simpa using this
  | _+10=>simp at h;subst h;rfl
 pos:=by intro n;match n with
  | 0=>simp
  | 1=>simp
  | 2=>simp
  | 3=>simp
  | 4=>simp
  | 5=>simp
  | 6=>simp
  | 7=>simp
  | 8=>simp
  | 9=>simp
  | _+10=>simp
 put_cells:=by
  intro n l a h
  match n with
  | 0=>dsimp only at h;split at h <;> cases h;rfl
  | 1=>dsimp only at h;split at h <;> cases h;rfl
  | 2=>dsimp only at h;split at h <;> cases h;rfl
  | 3=>dsimp only at h;split at h <;> cases h;rfl
  | 4=>dsimp only at h;split at h <;> cases h;rfl
  | 5=>dsimp only at h;split at h <;> cases h;rfl
  | 6=>dsimp only at h;split at h <;> cases h;rfl
  | 7=>dsimp only at h;split at h <;> cases h;rfl
  | 8=>dsimp only at h;split at h <;> cases h;rfl
  | 9=>dsimp only at h;split at h <;> cases h;rfl
  | _+10=>cases h
 enc_cells:=by intro n a;match n with
  | 0=>rfl
  | 1=>rfl
  | 2=>rfl
  | 3=>rfl
  | 4=>rfl
  | 5=>rfl
  | 6=>rfl
  | 7=>rfl
  | 8=>rfl
  | 9=>rfl
  | _+10=>rfl
end
end Go.DN
