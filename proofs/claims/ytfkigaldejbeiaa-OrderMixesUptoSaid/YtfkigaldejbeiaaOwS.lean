/-
  The structs of the program, as data.
-/
import Derived.Test.YtfkigaldejbeiaaMgH
import Derived.Test.YtfkigaldejbeiaaProg
set_option maxRecDepth 20000
set_option linter.unusedVariables false
set_option linter.unusedSectionVars false
set_option linter.unusedSimpArgs false
namespace Go.DN
open Go.AM
open Go.Proofs
noncomputable section
structure aT where
 cZ:List Int
 Const:Int
structure bp where
 ba:List Int
 Rows:List aT
structure bF where
 Array:Int
 At:aT
structure dh where
 bI:bp
 Do:Int
 Value:Int
 cf:bF
 c9:List bF
structure aO where
 cz:List Int
 cd:List dh
structure bD where
 Stmt:Int
 At:List Int
structure af where
 aR:bD
 number:Int
 time:List Int
structure gZ where
 array:Int
 at_:Int
structure gz where
 Any:Bool
 A:bD
 B:bD
def OB (a:aT):List G:=[.sl (List.length a.cZ) (List.flatMap (fun x=>[.val (.int .i64 x)]) a.cZ),.val (.int .i64 a.Const)]
def SQ (a:bp):List G:=[.sl (List.length a.ba) (List.flatMap (fun x=>[.val (.int .i64 x)]) a.ba),.sl (List.length a.Rows) (List.flatMap (fun x=>OB x) a.Rows)]
def Ry (a:bF):List G:=[.val (.int .i64 a.Array),.sl (List.length a.At.cZ) (List.flatMap (fun x=>[.val (.int .i64 x)]) a.At.cZ),.val (.int .i64 a.At.Const)]
def Rx (a:dh):List G:=[.sl (List.length a.bI.ba) (List.flatMap (fun x=>[.val (.int .i64 x)]) a.bI.ba),.sl (List.length a.bI.Rows) (List.flatMap (fun x=>OB x) a.bI.Rows),.val (.int .i64 a.Do),.val (.int .i64 a.Value),.val (.int .i64 a.cf.Array),.sl (List.length a.cf.At.cZ) (List.flatMap (fun x=>[.val (.int .i64 x)]) a.cf.At.cZ),.val (.int .i64 a.cf.At.Const),.sl (List.length a.c9) (List.flatMap (fun x=>Ry x) a.c9)]
def SP (a:aO):List G:=[.sl (List.length a.cz) (List.flatMap (fun x=>[.val (.int .i64 x)]) a.cz),.sl (List.length a.cd) (List.flatMap (fun x=>Rx x) a.cd)]
def SO (a:bD):List G:=[.val (.int .i64 a.Stmt),.sl (List.length a.At) (List.flatMap (fun x=>[.val (.int .i64 x)]) a.At)]
def SN (a:af):List G:=[.val (.int .i64 a.aR.Stmt),.sl (List.length a.aR.At) (List.flatMap (fun x=>[.val (.int .i64 x)]) a.aR.At),.val (.int .i64 a.number),.sl (List.length a.time) (List.flatMap (fun x=>[.val (.int .i64 x)]) a.time)]
def SM (a:gZ):List G:=[.val (.int .i64 a.array),.val (.int .i64 a.at_)]
def SL (a:gz):List G:=[.val (.bool a.Any),.val (.int .i64 a.A.Stmt),.sl (List.length a.A.At) (List.flatMap (fun x=>[.val (.int .i64 x)]) a.A.At),.val (.int .i64 a.B.Stmt),.sl (List.length a.B.At) (List.flatMap (fun x=>[.val (.int .i64 x)]) a.B.At)]
abbrev Si:Nat→Type
 | 0=>aT
 | 1=>bp
 | 2=>bF
 | 3=>dh
 | 4=>aO
 | 5=>bD
 | 6=>af
 | 7=>gZ
 | 8=>gz
 | _=>Unit
noncomputable def S0:eC where
 eT:=fun n=>match n with
  | 0=>O7 Try.prog 49 0 0 [3,4,5,7,10,11]
  | 1=>O7 Try.prog 28 0 0 [7,10]
  | _=>⟨0,[],#[],.skip,.skip,0⟩
 α:=Si
 dg:=fun n=>match n with
  | 0=>[(.list (.int .i64)),(.int .i64)]
  | 1=>[(.list (.int .i64)),(.list (.st 0))]
  | 2=>[(.int .i64),(.list (.int .i64)),(.int .i64)]
  | 3=>[(.list (.int .i64)),(.list (.st 0)),(.int .i64),(.int .i64),(.int .i64),(.list (.int .i64)),(.int .i64),(.list (.st 2))]
  | 4=>[(.list (.int .i64)),(.list (.st 3))]
  | 5=>[(.int .i64),(.list (.int .i64))]
  | 6=>[(.int .i64),(.list (.int .i64)),(.int .i64),(.list (.int .i64))]
  | 7=>[(.int .i64),(.int .i64)]
  | 8=>[.bool,(.int .i64),(.list (.int .i64)),(.int .i64),(.list (.int .i64))]
  | _=>[.bool]
 cells:=fun n=>match n with
  | 0=>fun (a:aT)=>[⟨(.list (.int .i64)),a.cZ⟩,⟨(.int .i64),a.Const⟩]
  | 1=>fun (a:bp)=>[⟨(.list (.int .i64)),a.ba⟩,⟨(.list (.st 0)),a.Rows⟩]
  | 2=>fun (a:bF)=>[⟨(.int .i64),a.Array⟩,⟨(.list (.int .i64)),a.At.cZ⟩,⟨(.int .i64),a.At.Const⟩]
  | 3=>fun (a:dh)=>[⟨(.list (.int .i64)),a.bI.ba⟩,⟨(.list (.st 0)),a.bI.Rows⟩,⟨(.int .i64),a.Do⟩,⟨(.int .i64),a.Value⟩,⟨(.int .i64),a.cf.Array⟩,⟨(.list (.int .i64)),a.cf.At.cZ⟩,⟨(.int .i64),a.cf.At.Const⟩,⟨(.list (.st 2)),a.c9⟩]
  | 4=>fun (a:aO)=>[⟨(.list (.int .i64)),a.cz⟩,⟨(.list (.st 3)),a.cd⟩]
  | 5=>fun (a:bD)=>[⟨(.int .i64),a.Stmt⟩,⟨(.list (.int .i64)),a.At⟩]
  | 6=>fun (a:af)=>[⟨(.int .i64),a.aR.Stmt⟩,⟨(.list (.int .i64)),a.aR.At⟩,⟨(.int .i64),a.number⟩,⟨(.list (.int .i64)),a.time⟩]
  | 7=>fun (a:gZ)=>[⟨(.int .i64),a.array⟩,⟨(.int .i64),a.at_⟩]
  | 8=>fun (a:gz)=>[⟨.bool,a.Any⟩,⟨(.int .i64),a.A.Stmt⟩,⟨(.list (.int .i64)),a.A.At⟩,⟨(.int .i64),a.B.Stmt⟩,⟨(.list (.int .i64)),a.B.At⟩]
  | _+9=>fun _=>[⟨.bool,false⟩]
 put:=fun n=>match n with
  | 0=>fun l=>(match l with | [⟨(.list (.int .i64)),y0⟩,⟨(.int .i64),y1⟩]=>some (⟨y0,y1⟩:aT) | _=>none)
  | 1=>fun l=>(match l with | [⟨(.list (.int .i64)),y0⟩,⟨(.list (.st 0)),y1⟩]=>some (⟨y0,y1⟩:bp) | _=>none)
  | 2=>fun l=>(match l with | [⟨(.int .i64),y0⟩,⟨(.list (.int .i64)),y1⟩,⟨(.int .i64),y2⟩]=>some (⟨y0,⟨y1,y2⟩⟩:bF) | _=>none)
  | 3=>fun l=>(match l with | [⟨(.list (.int .i64)),y0⟩,⟨(.list (.st 0)),y1⟩,⟨(.int .i64),y2⟩,⟨(.int .i64),y3⟩,⟨(.int .i64),y4⟩,⟨(.list (.int .i64)),y5⟩,⟨(.int .i64),y6⟩,⟨(.list (.st 2)),y7⟩]=>some (⟨⟨y0,y1⟩,y2,y3,⟨y4,⟨y5,y6⟩⟩,y7⟩:dh) | _=>none)
  | 4=>fun l=>(match l with | [⟨(.list (.int .i64)),y0⟩,⟨(.list (.st 3)),y1⟩]=>some (⟨y0,y1⟩:aO) | _=>none)
  | 5=>fun l=>(match l with | [⟨(.int .i64),y0⟩,⟨(.list (.int .i64)),y1⟩]=>some (⟨y0,y1⟩:bD) | _=>none)
  | 6=>fun l=>(match l with | [⟨(.int .i64),y0⟩,⟨(.list (.int .i64)),y1⟩,⟨(.int .i64),y2⟩,⟨(.list (.int .i64)),y3⟩]=>some (⟨⟨y0,y1⟩,y2,y3⟩:af) | _=>none)
  | 7=>fun l=>(match l with | [⟨(.int .i64),y0⟩,⟨(.int .i64),y1⟩]=>some (⟨y0,y1⟩:gZ) | _=>none)
  | 8=>fun l=>(match l with | [⟨.bool,y0⟩,⟨(.int .i64),y1⟩,⟨(.list (.int .i64)),y2⟩,⟨(.int .i64),y3⟩,⟨(.list (.int .i64)),y4⟩]=>some (⟨y0,⟨y1,y2⟩,⟨y3,y4⟩⟩:gz) | _=>none)
  | _+9=>fun _=>none
 eo:=fun n=>match n with
  | 0=>fun (a:aT)=>OB a
  | 1=>fun (a:bp)=>SQ a
  | 2=>fun (a:bF)=>Ry a
  | 3=>fun (a:dh)=>Rx a
  | 4=>fun (a:aO)=>SP a
  | 5=>fun (a:bD)=>SO a
  | 6=>fun (a:af)=>SN a
  | 7=>fun (a:gZ)=>SM a
  | 8=>fun (a:gz)=>SL a
  | _+9=>fun _=>[.val (.bool false)]
 ty:=fun t=>match t with
  | 40=>some 5
  | 59=>some 1
  | _=>none
 O4:=fun t=>match t with
  | 2=>some (.int .i64)
  | 3=>some (.int .i64)
  | 34=>some (.list (.st 0))
  | 61=>some (.st 2)
  | 64=>some (.st 3)
  | 77=>some (.st 6)
  | 104=>some (.list (.int .i64))
  | 132=>some (.st 7)
  | _=>none
 mN:=by intro n a;match n with
  | 0=>rfl
  | 1=>rfl
  | 2=>rfl
  | 3=>rfl
  | 4=>rfl
  | 5=>rfl
  | 6=>rfl
  | 7=>rfl
  | 8=>rfl
  | _+9=>rfl
 one:=by
  intro n t h
  match n with
  | 0=>have:=dJ.1 (show([(.list (.int .i64)),(.int .i64)]:List Ty).all (fun t=>!t.fN)=true from rfl) t h;simpa using this
  | 1=>have:=dJ.1 (show([(.list (.int .i64)),(.list (.st 0))]:List Ty).all (fun t=>!t.fN)=true from rfl) t h;simpa using this
  | 2=>have:=dJ.1 (show([(.int .i64),(.list (.int .i64)),(.int .i64)]:List Ty).all (fun t=>!t.fN)=true from rfl) t h;simpa using this
  | 3=>have:=dJ.1 (show([(.list (.int .i64)),(.list (.st 0)),(.int .i64),(.int .i64),(.int .i64),(.list (.int .i64)),(.int .i64),(.list (.st 2))]:List Ty).all (fun t=>!t.fN)=true from rfl) t h;simpa using this
  | 4=>have:=dJ.1 (show([(.list (.int .i64)),(.list (.st 3))]:List Ty).all (fun t=>!t.fN)=true from rfl) t h;simpa using this
  | 5=>have:=dJ.1 (show([(.int .i64),(.list (.int .i64))]:List Ty).all (fun t=>!t.fN)=true from rfl) t h;simpa using this
  | 6=>have:=dJ.1 (show([(.int .i64),(.list (.int .i64)),(.int .i64),(.list (.int .i64))]:List Ty).all (fun t=>!t.fN)=true from rfl) t h;simpa using this
  | 7=>have:=dJ.1 (show([(.int .i64),(.int .i64)]:List Ty).all (fun t=>!t.fN)=true from rfl) t h;simpa using this
  | 8=>have:=dJ.1 (show([.bool,(.int .i64),(.list (.int .i64)),(.int .i64),(.list (.int .i64))]:List Ty).all (fun t=>!t.fN)=true from rfl) t h;simpa using this
  | _+9=>simp at h;subst h;rfl
 pos:=by intro n;match n with
  | 0=>simp
  | 1=>simp
  | 2=>simp
  | 3=>simp
  | 4=>simp
  | 5=>simp
  | 6=>simp
  | 7=>simp
  | 8=>simp
  | _+9=>simp
 kF:=by
  intro n l a h
  match n with
  | 0=>dsimp only at h;split at h <;> cases h;rfl
  | 1=>dsimp only at h;split at h <;> cases h;rfl
  | 2=>dsimp only at h;split at h <;> cases h;rfl
  | 3=>dsimp only at h;split at h <;> cases h;rfl
  | 4=>dsimp only at h;split at h <;> cases h;rfl
  | 5=>dsimp only at h;split at h <;> cases h;rfl
  | 6=>dsimp only at h;split at h <;> cases h;rfl
  | 7=>dsimp only at h;split at h <;> cases h;rfl
  | 8=>dsimp only at h;split at h <;> cases h;rfl
  | _+9=>cases h
 u1:=by intro n a;match n with
  | 0=>rfl
  | 1=>rfl
  | 2=>rfl
  | 3=>rfl
  | 4=>rfl
  | 5=>rfl
  | 6=>rfl
  | 7=>rfl
  | 8=>rfl
  | _+9=>rfl
end
end Go.DN
