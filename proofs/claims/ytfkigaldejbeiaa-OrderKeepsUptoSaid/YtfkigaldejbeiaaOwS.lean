/-
  The structs of the program, as data.
-/
import Derived.Test.YtfkigaldejbeiaaMgH
import Derived.Test.YtfkigaldejbeiaaProg
set_option maxRecDepth 20000
set_option linter.unusedVariables false
set_option linter.unusedSectionVars false
set_option linter.unusedSimpArgs false
namespace Go.DN
open Go.AM
open Go.Proofs
noncomputable section
structure aS where
 cZ:List Int
 Const:Int
structure bp where
 ba:List Int
 Rows:List aS
structure bF where
 Array:Int
 At:aS
structure dh where
 bI:bp
 Do:Int
 Value:Int
 cf:bF
 c9:List bF
structure aP where
 cA:List Int
 cd:List dh
structure bE where
 Stmt:Int
 At:List Int
structure ae where
 aQ:bE
 number:Int
 time:List Int
structure gV where
 array:Int
 at_:Int
structure iR where
 Any:Bool
 A:bE
 B:bE
def N8 (a:aS):List G:=[.sl (List.length a.cZ) (List.flatMap (fun x=>[.val (.int .i64 x)]) a.cZ),.val (.int .i64 a.Const)]
def Sm (a:bp):List G:=[.sl (List.length a.ba) (List.flatMap (fun x=>[.val (.int .i64 x)]) a.ba),.sl (List.length a.Rows) (List.flatMap (fun x=>N8 x) a.Rows)]
def Q8 (a:bF):List G:=[.val (.int .i64 a.Array),.sl (List.length a.At.cZ) (List.flatMap (fun x=>[.val (.int .i64 x)]) a.At.cZ),.val (.int .i64 a.At.Const)]
def Q7 (a:dh):List G:=[.sl (List.length a.bI.ba) (List.flatMap (fun x=>[.val (.int .i64 x)]) a.bI.ba),.sl (List.length a.bI.Rows) (List.flatMap (fun x=>N8 x) a.bI.Rows),.val (.int .i64 a.Do),.val (.int .i64 a.Value),.val (.int .i64 a.cf.Array),.sl (List.length a.cf.At.cZ) (List.flatMap (fun x=>[.val (.int .i64 x)]) a.cf.At.cZ),.val (.int .i64 a.cf.At.Const),.sl (List.length a.c9) (List.flatMap (fun x=>Q8 x) a.c9)]
def Sl (a:aP):List G:=[.sl (List.length a.cA) (List.flatMap (fun x=>[.val (.int .i64 x)]) a.cA),.sl (List.length a.cd) (List.flatMap (fun x=>Q7 x) a.cd)]
def Sk (a:bE):List G:=[.val (.int .i64 a.Stmt),.sl (List.length a.At) (List.flatMap (fun x=>[.val (.int .i64 x)]) a.At)]
def Sj (a:ae):List G:=[.val (.int .i64 a.aQ.Stmt),.sl (List.length a.aQ.At) (List.flatMap (fun x=>[.val (.int .i64 x)]) a.aQ.At),.val (.int .i64 a.number),.sl (List.length a.time) (List.flatMap (fun x=>[.val (.int .i64 x)]) a.time)]
def Si (a:gV):List G:=[.val (.int .i64 a.array),.val (.int .i64 a.at_)]
def Sg (a:iR):List G:=[.val (.bool a.Any),.val (.int .i64 a.A.Stmt),.sl (List.length a.A.At) (List.flatMap (fun x=>[.val (.int .i64 x)]) a.A.At),.val (.int .i64 a.B.Stmt),.sl (List.length a.B.At) (List.flatMap (fun x=>[.val (.int .i64 x)]) a.B.At)]
abbrev RO:Nat→Type
 | 0=>aS
 | 1=>bp
 | 2=>bF
 | 3=>dh
 | 4=>aP
 | 5=>bE
 | 6=>ae
 | 7=>gV
 | 8=>iR
 | _=>Unit
noncomputable def S0:eB where
 eS:=fun n=>match n with
  | 0=>OJ Try.prog 49 0 0 [3,4,5,7,10,11]
  | 1=>OJ Try.prog 28 0 0 [7,10]
  | _=>⟨0,[],#[],.skip,.skip,0⟩
 α:=RO
 dg:=fun n=>match n with
  | 0=>[(.list (.int .i64)),(.int .i64)]
  | 1=>[(.list (.int .i64)),(.list (.st 0))]
  | 2=>[(.int .i64),(.list (.int .i64)),(.int .i64)]
  | 3=>[(.list (.int .i64)),(.list (.st 0)),(.int .i64),(.int .i64),(.int .i64),(.list (.int .i64)),(.int .i64),(.list (.st 2))]
  | 4=>[(.list (.int .i64)),(.list (.st 3))]
  | 5=>[(.int .i64),(.list (.int .i64))]
  | 6=>[(.int .i64),(.list (.int .i64)),(.int .i64),(.list (.int .i64))]
  | 7=>[(.int .i64),(.int .i64)]
  | 8=>[.bool,(.int .i64),(.list (.int .i64)),(.int .i64),(.list (.int .i64))]
  | _=>[.bool]
 cells:=fun n=>match n with
  | 0=>fun (a:aS)=>[⟨(.list (.int .i64)),a.cZ⟩,⟨(.int .i64),a.Const⟩]
  | 1=>fun (a:bp)=>[⟨(.list (.int .i64)),a.ba⟩,⟨(.list (.st 0)),a.Rows⟩]
  | 2=>fun (a:bF)=>[⟨(.int .i64),a.Array⟩,⟨(.list (.int .i64)),a.At.cZ⟩,⟨(.int .i64),a.At.Const⟩]
  | 3=>fun (a:dh)=>[⟨(.list (.int .i64)),a.bI.ba⟩,⟨(.list (.st 0)),a.bI.Rows⟩,⟨(.int .i64),a.Do⟩,⟨(.int .i64),a.Value⟩,⟨(.int .i64),a.cf.Array⟩,⟨(.list (.int .i64)),a.cf.At.cZ⟩,⟨(.int .i64),a.cf.At.Const⟩,⟨(.list (.st 2)),a.c9⟩]
  | 4=>fun (a:aP)=>[⟨(.list (.int .i64)),a.cA⟩,⟨(.list (.st 3)),a.cd⟩]
  | 5=>fun (a:bE)=>[⟨(.int .i64),a.Stmt⟩,⟨(.list (.int .i64)),a.At⟩]
  | 6=>fun (a:ae)=>[⟨(.int .i64),a.aQ.Stmt⟩,⟨(.list (.int .i64)),a.aQ.At⟩,⟨(.int .i64),a.number⟩,⟨(.list (.int .i64)),a.time⟩]
  | 7=>fun (a:gV)=>[⟨(.int .i64),a.array⟩,⟨(.int .i64),a.at_⟩]
  | 8=>fun (a:iR)=>[⟨.bool,a.Any⟩,⟨(.int .i64),a.A.Stmt⟩,⟨(.list (.int .i64)),a.A.At⟩,⟨(.int .i64),a.B.Stmt⟩,⟨(.list (.int .i64)),a.B.At⟩]
  | _+9=>fun _=>[⟨.bool,false⟩]
 put:=fun n=>match n with
  | 0=>fun l=>(match l with | [⟨(.list (.int .i64)),y0⟩,⟨(.int .i64),y1⟩]=>some (⟨y0,y1⟩:aS) | _=>none)
  | 1=>fun l=>(match l with | [⟨(.list (.int .i64)),y0⟩,⟨(.list (.st 0)),y1⟩]=>some (⟨y0,y1⟩:bp) | _=>none)
  | 2=>fun l=>(match l with | [⟨(.int .i64),y0⟩,⟨(.list (.int .i64)),y1⟩,⟨(.int .i64),y2⟩]=>some (⟨y0,⟨y1,y2⟩⟩:bF) | _=>none)
  | 3=>fun l=>(match l with | [⟨(.list (.int .i64)),y0⟩,⟨(.list (.st 0)),y1⟩,⟨(.int .i64),y2⟩,⟨(.int .i64),y3⟩,⟨(.int .i64),y4⟩,⟨(.list (.int .i64)),y5⟩,⟨(.int .i64),y6⟩,⟨(.list (.st 2)),y7⟩]=>some (⟨⟨y0,y1⟩,y2,y3,⟨y4,⟨y5,y6⟩⟩,y7⟩:dh) | _=>none)
  | 4=>fun l=>(match l with | [⟨(.list (.int .i64)),y0⟩,⟨(.list (.st 3)),y1⟩]=>some (⟨y0,y1⟩:aP) | _=>none)
  | 5=>fun l=>(match l with | [⟨(.int .i64),y0⟩,⟨(.list (.int .i64)),y1⟩]=>some (⟨y0,y1⟩:bE) | _=>none)
  | 6=>fun l=>(match l with | [⟨(.int .i64),y0⟩,⟨(.list (.int .i64)),y1⟩,⟨(.int .i64),y2⟩,⟨(.list (.int .i64)),y3⟩]=>some (⟨⟨y0,y1⟩,y2,y3⟩:ae) | _=>none)
  | 7=>fun l=>(match l with | [⟨(.int .i64),y0⟩,⟨(.int .i64),y1⟩]=>some (⟨y0,y1⟩:gV) | _=>none)
  | 8=>fun l=>(match l with | [⟨.bool,y0⟩,⟨(.int .i64),y1⟩,⟨(.list (.int .i64)),y2⟩,⟨(.int .i64),y3⟩,⟨(.list (.int .i64)),y4⟩]=>some (⟨y0,⟨y1,y2⟩,⟨y3,y4⟩⟩:iR) | _=>none)
  | _+9=>fun _=>none
 enc:=fun n=>match n with
  | 0=>fun (a:aS)=>N8 a
  | 1=>fun (a:bp)=>Sm a
  | 2=>fun (a:bF)=>Q8 a
  | 3=>fun (a:dh)=>Q7 a
  | 4=>fun (a:aP)=>Sl a
  | 5=>fun (a:bE)=>Sk a
  | 6=>fun (a:ae)=>Sj a
  | 7=>fun (a:gV)=>Si a
  | 8=>fun (a:iR)=>Sg a
  | _+9=>fun _=>[.val (.bool false)]
 ty:=fun t=>match t with
  | 40=>some 5
  | 59=>some 1
  | _=>none
 OG:=fun t=>match t with
  | 2=>some (.int .i64)
  | 3=>some (.int .i64)
  | 34=>some (.list (.st 0))
  | 61=>some (.st 2)
  | 64=>some (.st 3)
  | 77=>some (.st 6)
  | 104=>some (.list (.int .i64))
  | 132=>some (.st 7)
  | _=>none
 mJ:=by intro n a;match n with
  | 0=>rfl
  | 1=>rfl
  | 2=>rfl
  | 3=>rfl
  | 4=>rfl
  | 5=>rfl
  | 6=>rfl
  | 7=>rfl
  | 8=>rfl
  | _+9=>rfl
 one:=by
  intro n t h
  match n with
  | 0=>have:=dJ.1 (show([(.list (.int .i64)),(.int .i64)]:List Ty).all (fun t=>!t.fL)=true from rfl) t h;simpa using this
  | 1=>have:=dJ.1 (show([(.list (.int .i64)),(.list (.st 0))]:List Ty).all (fun t=>!t.fL)=true from rfl) t h;simpa using this
  | 2=>have:=dJ.1 (show([(.int .i64),(.list (.int .i64)),(.int .i64)]:List Ty).all (fun t=>!t.fL)=true from rfl) t h;simpa using this
  | 3=>have:=dJ.1 (show([(.list (.int .i64)),(.list (.st 0)),(.int .i64),(.int .i64),(.int .i64),(.list (.int .i64)),(.int .i64),(.list (.st 2))]:List Ty).all (fun t=>!t.fL)=true from rfl) t h;simpa using this
  | 4=>have:=dJ.1 (show([(.list (.int .i64)),(.list (.st 3))]:List Ty).all (fun t=>!t.fL)=true from rfl) t h;simpa using this
  | 5=>have:=dJ.1 (show([(.int .i64),(.list (.int .i64))]:List Ty).all (fun t=>!t.fL)=true from rfl) t h;simpa using this
  | 6=>have:=dJ.1 (show([(.int .i64),(.list (.int .i64)),(.int .i64),(.list (.int .i64))]:List Ty).all (fun t=>!t.fL)=true from rfl) t h;simpa using this
  | 7=>have:=dJ.1 (show([(.int .i64),(.int .i64)]:List Ty).all (fun t=>!t.fL)=true from rfl) t h;simpa using this
  | 8=>have:=dJ.1 (show([.bool,(.int .i64),(.list (.int .i64)),(.int .i64),(.list (.int .i64))]:List Ty).all (fun t=>!t.fL)=true from rfl) t h;simpa using this
  | _+9=>simp at h;subst h;rfl
 pos:=by intro n;match n with
  | 0=>simp
  | 1=>simp
  | 2=>simp
  | 3=>simp
  | 4=>simp
  | 5=>simp
  | 6=>simp
  | 7=>simp
  | 8=>simp
  | _+9=>simp
 kD:=by
  intro n l a h
  match n with
  | 0=>dsimp only at h;split at h <;> cases h;rfl
  | 1=>dsimp only at h;split at h <;> cases h;rfl
  | 2=>dsimp only at h;split at h <;> cases h;rfl
  | 3=>dsimp only at h;split at h <;> cases h;rfl
  | 4=>dsimp only at h;split at h <;> cases h;rfl
  | 5=>dsimp only at h;split at h <;> cases h;rfl
  | 6=>dsimp only at h;split at h <;> cases h;rfl
  | 7=>dsimp only at h;split at h <;> cases h;rfl
  | 8=>dsimp only at h;split at h <;> cases h;rfl
  | _+9=>cases h
 uK:=by intro n a;match n with
  | 0=>rfl
  | 1=>rfl
  | 2=>rfl
  | 3=>rfl
  | 4=>rfl
  | 5=>rfl
  | 6=>rfl
  | 7=>rfl
  | 8=>rfl
  | _+9=>rfl
end
end Go.DN
