/-
  The structs of the program, as data.
-/
import Derived.Test.YtaobkpnecfcefaaDoorMgH
import Derived.Test.YtaobkpnecfcefaaDoorTfC
set_option maxRecDepth 20000
set_option linter.unusedVariables false
set_option linter.unusedSimpArgs false
namespace Go.DN
open Go.AM
noncomputable section
structure Slexer where
 s:ByteArray
 at_:Int
structure SToken where
 Text:ByteArray
 At:Int
structure SFault where
 Err:Int
 At:Int
def enc0 (a:Slexer):List G:=[.val (.string a.s),.val (.int .i64 a.at_)]
def enc1 (a:SToken):List G:=[.val (.string a.Text),.val (.int .i64 a.At)]
def enc2 (a:SFault):List G:=[.val (.int .i64 a.Err),.val (.int .i64 a.At)]
abbrev alpha:Nat→Type
 | 0=>Slexer
 | 1=>SToken
 | 2=>SFault
 | _=>Unit
noncomputable def S0:Sig where
 α:=alpha
 tys:=fun n=>match n with
  | 0=>[.str,(.int .i64)]
  | 1=>[.str,(.int .i64)]
  | 2=>[(.int .i64),(.int .i64)]
  | _=>[.bool]
 cells:=fun n=>match n with
  | 0=>fun (a:Slexer)=>[⟨.str,a.s⟩,⟨(.int .i64),a.at_⟩]
  | 1=>fun (a:SToken)=>[⟨.str,a.Text⟩,⟨(.int .i64),a.At⟩]
  | 2=>fun (a:SFault)=>[⟨(.int .i64),a.Err⟩,⟨(.int .i64),a.At⟩]
  | _+3=>fun _=>[⟨.bool,false⟩]
 put:=fun n=>match n with
  | 0=>fun l=>(match l with | [⟨.str,y0⟩,⟨(.int .i64),y1⟩]=>some (⟨y0,y1⟩:Slexer) | _=>none)
  | 1=>fun l=>(match l with | [⟨.str,y0⟩,⟨(.int .i64),y1⟩]=>some (⟨y0,y1⟩:SToken) | _=>none)
  | 2=>fun l=>(match l with | [⟨(.int .i64),y0⟩,⟨(.int .i64),y1⟩]=>some (⟨y0,y1⟩:SFault) | _=>none)
  | _+3=>fun _=>none
 enc:=fun n=>match n with
  | 0=>fun (a:Slexer)=>enc0 a
  | 1=>fun (a:SToken)=>enc1 a
  | 2=>fun (a:SFault)=>enc2 a
  | _+3=>fun _=>[.val (.bool false)]
 ty:=fun t=>match t with
  | _=>none
 tyS:=fun t=>match t with
  | 40=>some (.st 1)
  | _=>none
 tys_cells:=by intro n a;match n with
  | 0=>rfl
  | 1=>rfl
  | 2=>rfl
  | _+3=>rfl
 one:=by
  intro n t h
  match n with
  | 0=>have:=List.all_eq_true.1 (show([.str,(.int .i64)]:List Ty).all (fun t=>!t.isSt)=true from rfl) t h;simpa using this
  | 1=>have:=List.all_eq_true.1 (show([.str,(.int .i64)]:List Ty).all (fun t=>!t.isSt)=true from rfl) t h;simpa using this
  | 2=>have:=List.all_eq_true.1 (show([(.int .i64),(.int .i64)]:List Ty).all (fun t=>!t.isSt)=true from rfl) t h;simpa using this
  | _+3=>simp at h;subst h;rfl
 pos:=by intro n;match n with
  | 0=>simp
  | 1=>simp
  | 2=>simp
  | _+3=>simp
 put_cells:=by
  intro n l a h
  match n with
  | 0=>dsimp only at h;split at h <;> cases h;rfl
  | 1=>dsimp only at h;split at h <;> cases h;rfl
  | 2=>dsimp only at h;split at h <;> cases h;rfl
  | _+3=>cases h
 enc_cells:=by intro n a;match n with
  | 0=>rfl
  | 1=>rfl
  | 2=>rfl
  | _+3=>rfl
end
end Go.DN
