/-
  The structs of the program, as data.
-/
import Derived.Test.YtfkigaldejbeiaaMgH
import Derived.Test.YtfkigaldejbeiaaProg
set_option maxRecDepth 20000
set_option linter.unusedVariables false
set_option linter.unusedSimpArgs false
namespace Go.DN
open Go.AM
open Go.Proofs
noncomputable section
structure aO where
 db:List Int
 Const:Int
structure bu where
 aU:List Int
 Rows:List aO
structure bK where
 Array:Int
 At:aO
structure c9 where
 ba:bu
 Do:Int
 Value:Int
 cg:bK
 de:List bK
structure aM where
 cC:List Int
 bC:List c9
structure bE where
 Stmt:Int
 At:List Int
structure af where
 aS:bE
 number:Int
 time:List Int
structure g7 where
 array:Int
 at_:Int
structure gC where
 Any:Bool
 A:bE
 B:bE
def O3 (a:aO):List G:=[.sl (List.length a.db) (List.flatMap (fun x=>[.val (.int .i64 x)]) a.db),.val (.int .i64 a.Const)]
def Tk (a:bu):List G:=[.sl (List.length a.aU) (List.flatMap (fun x=>[.val (.int .i64 x)]) a.aU),.sl (List.length a.Rows) (List.flatMap (fun x=>O3 x) a.Rows)]
def RZ (a:bK):List G:=[.val (.int .i64 a.Array),.sl (List.length a.At.db) (List.flatMap (fun x=>[.val (.int .i64 x)]) a.At.db),.val (.int .i64 a.At.Const)]
def RY (a:c9):List G:=[.sl (List.length a.ba.aU) (List.flatMap (fun x=>[.val (.int .i64 x)]) a.ba.aU),.sl (List.length a.ba.Rows) (List.flatMap (fun x=>O3 x) a.ba.Rows),.val (.int .i64 a.Do),.val (.int .i64 a.Value),.val (.int .i64 a.cg.Array),.sl (List.length a.cg.At.db) (List.flatMap (fun x=>[.val (.int .i64 x)]) a.cg.At.db),.val (.int .i64 a.cg.At.Const),.sl (List.length a.de) (List.flatMap (fun x=>RZ x) a.de)]
def Tj (a:aM):List G:=[.sl (List.length a.cC) (List.flatMap (fun x=>[.val (.int .i64 x)]) a.cC),.sl (List.length a.bC) (List.flatMap (fun x=>RY x) a.bC)]
def Ti (a:bE):List G:=[.val (.int .i64 a.Stmt),.sl (List.length a.At) (List.flatMap (fun x=>[.val (.int .i64 x)]) a.At)]
def Th (a:af):List G:=[.val (.int .i64 a.aS.Stmt),.sl (List.length a.aS.At) (List.flatMap (fun x=>[.val (.int .i64 x)]) a.aS.At),.val (.int .i64 a.number),.sl (List.length a.time) (List.flatMap (fun x=>[.val (.int .i64 x)]) a.time)]
def Tg (a:g7):List G:=[.val (.int .i64 a.array),.val (.int .i64 a.at_)]
def Tf (a:gC):List G:=[.val (.bool a.Any),.val (.int .i64 a.A.Stmt),.sl (List.length a.A.At) (List.flatMap (fun x=>[.val (.int .i64 x)]) a.A.At),.val (.int .i64 a.B.Stmt),.sl (List.length a.B.At) (List.flatMap (fun x=>[.val (.int .i64 x)]) a.B.At)]
abbrev SM:Nat→Type
 | 0=>aO
 | 1=>bu
 | 2=>bK
 | 3=>c9
 | 4=>aM
 | 5=>bE
 | 6=>af
 | 7=>g7
 | 8=>gC
 | _=>Unit
noncomputable def S0:eE where
 eV:=fun n=>match n with
  | 0=>PA Try.prog 49 0 0 [3,4,5,7,10,11]
  | 1=>PA Try.prog 28 0 0 [7,10]
  | _=>⟨0,[],#[],.skip,.skip,0⟩
 α:=SM
 dl:=fun n=>match n with
  | 0=>[(.list (.int .i64)),(.int .i64)]
  | 1=>[(.list (.int .i64)),(.list (.st 0))]
  | 2=>[(.int .i64),(.list (.int .i64)),(.int .i64)]
  | 3=>[(.list (.int .i64)),(.list (.st 0)),(.int .i64),(.int .i64),(.int .i64),(.list (.int .i64)),(.int .i64),(.list (.st 2))]
  | 4=>[(.list (.int .i64)),(.list (.st 3))]
  | 5=>[(.int .i64),(.list (.int .i64))]
  | 6=>[(.int .i64),(.list (.int .i64)),(.int .i64),(.list (.int .i64))]
  | 7=>[(.int .i64),(.int .i64)]
  | 8=>[.bool,(.int .i64),(.list (.int .i64)),(.int .i64),(.list (.int .i64))]
  | _=>[.bool]
 cells:=fun n=>match n with
  | 0=>fun (a:aO)=>[⟨(.list (.int .i64)),a.db⟩,⟨(.int .i64),a.Const⟩]
  | 1=>fun (a:bu)=>[⟨(.list (.int .i64)),a.aU⟩,⟨(.list (.st 0)),a.Rows⟩]
  | 2=>fun (a:bK)=>[⟨(.int .i64),a.Array⟩,⟨(.list (.int .i64)),a.At.db⟩,⟨(.int .i64),a.At.Const⟩]
  | 3=>fun (a:c9)=>[⟨(.list (.int .i64)),a.ba.aU⟩,⟨(.list (.st 0)),a.ba.Rows⟩,⟨(.int .i64),a.Do⟩,⟨(.int .i64),a.Value⟩,⟨(.int .i64),a.cg.Array⟩,⟨(.list (.int .i64)),a.cg.At.db⟩,⟨(.int .i64),a.cg.At.Const⟩,⟨(.list (.st 2)),a.de⟩]
  | 4=>fun (a:aM)=>[⟨(.list (.int .i64)),a.cC⟩,⟨(.list (.st 3)),a.bC⟩]
  | 5=>fun (a:bE)=>[⟨(.int .i64),a.Stmt⟩,⟨(.list (.int .i64)),a.At⟩]
  | 6=>fun (a:af)=>[⟨(.int .i64),a.aS.Stmt⟩,⟨(.list (.int .i64)),a.aS.At⟩,⟨(.int .i64),a.number⟩,⟨(.list (.int .i64)),a.time⟩]
  | 7=>fun (a:g7)=>[⟨(.int .i64),a.array⟩,⟨(.int .i64),a.at_⟩]
  | 8=>fun (a:gC)=>[⟨.bool,a.Any⟩,⟨(.int .i64),a.A.Stmt⟩,⟨(.list (.int .i64)),a.A.At⟩,⟨(.int .i64),a.B.Stmt⟩,⟨(.list (.int .i64)),a.B.At⟩]
  | _+9=>fun _=>[⟨.bool,false⟩]
 put:=fun n=>match n with
  | 0=>fun l=>(match l with | [⟨(.list (.int .i64)),y0⟩,⟨(.int .i64),y1⟩]=>some (⟨y0,y1⟩:aO) | _=>none)
  | 1=>fun l=>(match l with | [⟨(.list (.int .i64)),y0⟩,⟨(.list (.st 0)),y1⟩]=>some (⟨y0,y1⟩:bu) | _=>none)
  | 2=>fun l=>(match l with | [⟨(.int .i64),y0⟩,⟨(.list (.int .i64)),y1⟩,⟨(.int .i64),y2⟩]=>some (⟨y0,⟨y1,y2⟩⟩:bK) | _=>none)
  | 3=>fun l=>(match l with | [⟨(.list (.int .i64)),y0⟩,⟨(.list (.st 0)),y1⟩,⟨(.int .i64),y2⟩,⟨(.int .i64),y3⟩,⟨(.int .i64),y4⟩,⟨(.list (.int .i64)),y5⟩,⟨(.int .i64),y6⟩,⟨(.list (.st 2)),y7⟩]=>some (⟨⟨y0,y1⟩,y2,y3,⟨y4,⟨y5,y6⟩⟩,y7⟩:c9) | _=>none)
  | 4=>fun l=>(match l with | [⟨(.list (.int .i64)),y0⟩,⟨(.list (.st 3)),y1⟩]=>some (⟨y0,y1⟩:aM) | _=>none)
  | 5=>fun l=>(match l with | [⟨(.int .i64),y0⟩,⟨(.list (.int .i64)),y1⟩]=>some (⟨y0,y1⟩:bE) | _=>none)
  | 6=>fun l=>(match l with | [⟨(.int .i64),y0⟩,⟨(.list (.int .i64)),y1⟩,⟨(.int .i64),y2⟩,⟨(.list (.int .i64)),y3⟩]=>some (⟨⟨y0,y1⟩,y2,y3⟩:af) | _=>none)
  | 7=>fun l=>(match l with | [⟨(.int .i64),y0⟩,⟨(.int .i64),y1⟩]=>some (⟨y0,y1⟩:g7) | _=>none)
  | 8=>fun l=>(match l with | [⟨.bool,y0⟩,⟨(.int .i64),y1⟩,⟨(.list (.int .i64)),y2⟩,⟨(.int .i64),y3⟩,⟨(.list (.int .i64)),y4⟩]=>some (⟨y0,⟨y1,y2⟩,⟨y3,y4⟩⟩:gC) | _=>none)
  | _+9=>fun _=>none
 enc:=fun n=>match n with
  | 0=>fun (a:aO)=>O3 a
  | 1=>fun (a:bu)=>Tk a
  | 2=>fun (a:bK)=>RZ a
  | 3=>fun (a:c9)=>RY a
  | 4=>fun (a:aM)=>Tj a
  | 5=>fun (a:bE)=>Ti a
  | 6=>fun (a:af)=>Th a
  | 7=>fun (a:g7)=>Tg a
  | 8=>fun (a:gC)=>Tf a
  | _+9=>fun _=>[.val (.bool false)]
 ty:=fun t=>match t with
  | 40=>some 5
  | 59=>some 1
  | _=>none
 Px:=fun t=>match t with
  | 2=>some (.int .i64)
  | 3=>some (.int .i64)
  | 34=>some (.list (.st 0))
  | 37=>some (.st 0)
  | 61=>some (.st 2)
  | 64=>some (.st 3)
  | 77=>some (.st 6)
  | 104=>some (.list (.int .i64))
  | 132=>some (.st 7)
  | _=>none
 mS:=by intro n a;match n with
  | 0=>rfl
  | 1=>rfl
  | 2=>rfl
  | 3=>rfl
  | 4=>rfl
  | 5=>rfl
  | 6=>rfl
  | 7=>rfl
  | 8=>rfl
  | _+9=>rfl
 one:=by
  intro n t h
  match n with
  | 0=>have:=dM.1 (show([(.list (.int .i64)),(.int .i64)]:List Ty).all (fun t=>!t.fP)=true from rfl) t h;simpa using this
  | 1=>have:=dM.1 (show([(.list (.int .i64)),(.list (.st 0))]:List Ty).all (fun t=>!t.fP)=true from rfl) t h;simpa using this
  | 2=>have:=dM.1 (show([(.int .i64),(.list (.int .i64)),(.int .i64)]:List Ty).all (fun t=>!t.fP)=true from rfl) t h;simpa using this
  | 3=>have:=dM.1 (show([(.list (.int .i64)),(.list (.st 0)),(.int .i64),(.int .i64),(.int .i64),(.list (.int .i64)),(.int .i64),(.list (.st 2))]:List Ty).all (fun t=>!t.fP)=true from rfl) t h;simpa using this
  | 4=>have:=dM.1 (show([(.list (.int .i64)),(.list (.st 3))]:List Ty).all (fun t=>!t.fP)=true from rfl) t h;simpa using this
  | 5=>have:=dM.1 (show([(.int .i64),(.list (.int .i64))]:List Ty).all (fun t=>!t.fP)=true from rfl) t h;simpa using this
  | 6=>have:=dM.1 (show([(.int .i64),(.list (.int .i64)),(.int .i64),(.list (.int .i64))]:List Ty).all (fun t=>!t.fP)=true from rfl) t h;simpa using this
  | 7=>have:=dM.1 (show([(.int .i64),(.int .i64)]:List Ty).all (fun t=>!t.fP)=true from rfl) t h;simpa using this
  | 8=>have:=dM.1 (show([.bool,(.int .i64),(.list (.int .i64)),(.int .i64),(.list (.int .i64))]:List Ty).all (fun t=>!t.fP)=true from rfl) t h;simpa using this
  | _+9=>simp at h;subst h;rfl
 pos:=by intro n;match n with
  | 0=>simp
  | 1=>simp
  | 2=>simp
  | 3=>simp
  | 4=>simp
  | 5=>simp
  | 6=>simp
  | 7=>simp
  | 8=>simp
  | _+9=>simp
 kI:=by
  intro n l a h
  match n with
  | 0=>dsimp only at h;split at h <;> cases h;rfl
  | 1=>dsimp only at h;split at h <;> cases h;rfl
  | 2=>dsimp only at h;split at h <;> cases h;rfl
  | 3=>dsimp only at h;split at h <;> cases h;rfl
  | 4=>dsimp only at h;split at h <;> cases h;rfl
  | 5=>dsimp only at h;split at h <;> cases h;rfl
  | 6=>dsimp only at h;split at h <;> cases h;rfl
  | 7=>dsimp only at h;split at h <;> cases h;rfl
  | 8=>dsimp only at h;split at h <;> cases h;rfl
  | _+9=>cases h
 ve:=by intro n a;match n with
  | 0=>rfl
  | 1=>rfl
  | 2=>rfl
  | 3=>rfl
  | 4=>rfl
  | 5=>rfl
  | 6=>rfl
  | 7=>rfl
  | 8=>rfl
  | _+9=>rfl
end
end Go.DN
