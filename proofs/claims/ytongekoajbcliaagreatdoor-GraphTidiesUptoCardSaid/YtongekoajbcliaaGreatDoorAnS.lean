/-
  The structs of the program, as data.
-/
import Derived.Test.YtongekoajbcliaaGreatDoorMgH
import Derived.Test.YtongekoajbcliaaGreatDoorTgB
import Derived.Test.YtongekoajbcliaaGreatDoorTgF
import Derived.Test.YtongekoajbcliaaGreatDoorProg
import Derived.Test.YtongekoajbcliaaGreatDoorCcF
set_option maxRecDepth 20000
set_option linter.unusedVariables false
set_option linter.unusedSimpArgs false
namespace Go.DN
open Go.AM
open Go.Proofs
noncomputable section
structure cy where
 Kind:Int
 au:List Int
 At:List Int
 Lo:List Int
 Hi:List Int
 Step:List Int
 Value:Int
structure lP where
 Kt:List Int
 Ks:List Int
 dZ:List Int
 both:Int
 left:Int
 right:Int
 inner:Int
structure aK where
 Start:Int
 au:List Int
 Steps:List Int
structure eO where
 size:Int
 step:Int
structure aq where
 Op:cy
 cH:List Int
structure cL where
 aJ:List aq
 lQ:List Int
structure gN where
 Key:Int
 zl:Int
structure dR where
 Es:List gN
structure pf where
 Key:ByteArray
 zl:Int
structure cR where
 Es:List pf
structure kK where
 dZ:Bool
 at_:Bool
 lo:Bool
 hi:Bool
 step:Bool
 value:Bool
def jk (l:List gN) (k:Int):Int:=match List.find? (fun a=>decide (a.Key=k)) l with | some a=>a.zl | none=>0
def nO (l:List gN) (k:Int):Bool:=(List.find? (fun a=>decide (a.Key=k)) l).isSome
def xK (l:List gN) (k:Int) (v:Int):List gN:=bif List.any l (fun b=>decide (b.Key=k)) then List.map (fun b=>bif decide (b.Key=k) then(⟨k,v⟩:gN) else b) l else l++[⟨k,v⟩]
def xJ (l:List pf) (k:ByteArray):Int:=match List.find? (fun a=>decide (a.Key=k)) l with | some a=>a.zl | none=>0
def xI (l:List pf) (k:ByteArray):Bool:=(List.find? (fun a=>decide (a.Key=k)) l).isSome
def xH (l:List pf) (k:ByteArray) (v:Int):List pf:=bif List.any l (fun b=>decide (b.Key=k)) then List.map (fun b=>bif decide (b.Key=k) then(⟨k,v⟩:pf) else b) l else l++[⟨k,v⟩]
def aat (a:cy):List G:=[.val (.int .i64 a.Kind),.sl (List.length a.au) (List.flatMap (fun x=>[.val (.int .i64 x)]) a.au),.sl (List.length a.At) (List.flatMap (fun x=>[.val (.int .i64 x)]) a.At),.sl (List.length a.Lo) (List.flatMap (fun x=>[.val (.int .i64 x)]) a.Lo),.sl (List.length a.Hi) (List.flatMap (fun x=>[.val (.int .i64 x)]) a.Hi),.sl (List.length a.Step) (List.flatMap (fun x=>[.val (.int .i64 x)]) a.Step),.val (.int .i64 a.Value)]
def aas (a:lP):List G:=[.sl (List.length a.Kt) (List.flatMap (fun x=>[.val (.int .i64 x)]) a.Kt),.sl (List.length a.Ks) (List.flatMap (fun x=>[.val (.int .i64 x)]) a.Ks),.sl (List.length a.dZ) (List.flatMap (fun x=>[.val (.int .i64 x)]) a.dZ),.val (.int .i64 a.both),.val (.int .i64 a.left),.val (.int .i64 a.right),.val (.int .i64 a.inner)]
def aar (a:aK):List G:=[.val (.int .i64 a.Start),.sl (List.length a.au) (List.flatMap (fun x=>[.val (.int .i64 x)]) a.au),.sl (List.length a.Steps) (List.flatMap (fun x=>[.val (.int .i64 x)]) a.Steps)]
def aaq (a:eO):List G:=[.val (.int .i64 a.size),.val (.int .i64 a.step)]
def YZ (a:aq):List G:=[.val (.int .i64 a.Op.Kind),.sl (List.length a.Op.au) (List.flatMap (fun x=>[.val (.int .i64 x)]) a.Op.au),.sl (List.length a.Op.At) (List.flatMap (fun x=>[.val (.int .i64 x)]) a.Op.At),.sl (List.length a.Op.Lo) (List.flatMap (fun x=>[.val (.int .i64 x)]) a.Op.Lo),.sl (List.length a.Op.Hi) (List.flatMap (fun x=>[.val (.int .i64 x)]) a.Op.Hi),.sl (List.length a.Op.Step) (List.flatMap (fun x=>[.val (.int .i64 x)]) a.Op.Step),.val (.int .i64 a.Op.Value),.sl (List.length a.cH) (List.flatMap (fun x=>[.val (.int .i64 x)]) a.cH)]
def aap (a:cL):List G:=[.sl (List.length a.aJ) (List.flatMap (fun x=>YZ x) a.aJ),.sl (List.length a.lQ) (List.flatMap (fun x=>[.val (.int .i64 x)]) a.lQ)]
def YY (a:gN):List G:=[.val (.int .i64 a.Key),.val (.int .i64 a.zl)]
def aao (a:dR):List G:=[.sl (List.length a.Es) (List.flatMap (fun x=>YY x) a.Es)]
def YX (a:pf):List G:=[.val (.string a.Key),.val (.int .i64 a.zl)]
def aan (a:cR):List G:=[.sl (List.length a.Es) (List.flatMap (fun x=>YX x) a.Es)]
def ZU (a:kK):List G:=[.val (.bool a.dZ),.val (.bool a.at_),.val (.bool a.lo),.val (.bool a.hi),.val (.bool a.step),.val (.bool a.value)]
abbrev ZZ:Nat→Type
 | 0=>cy
 | 1=>lP
 | 2=>aK
 | 3=>eO
 | 4=>aq
 | 5=>cL
 | 6=>gN
 | 7=>dR
 | 8=>pf
 | 9=>cR
 | 10=>kK
 | _=>Unit
noncomputable def S0:eI where
 fJ:=fun n=>match n with
  | 0=>V8 Tryz.prog 152 0 0 [1,3,4]
  | 1=>V8 Tryz.prog 111 0 0 [4,5,11,12]
  | _=>⟨0,[],#[],.skip,.skip,0⟩
 α:=ZZ
 cX:=fun n=>match n with
  | 0=>[(.int .i64),(.list (.int .i64)),(.list (.int .i64)),(.list (.int .i64)),(.list (.int .i64)),(.list (.int .i64)),(.int .i64)]
  | 1=>[(.list (.int .i64)),(.list (.int .i64)),(.list (.int .i64)),(.int .i64),(.int .i64),(.int .i64),(.int .i64)]
  | 2=>[(.int .i64),(.list (.int .i64)),(.list (.int .i64))]
  | 3=>[(.int .i64),(.int .i64)]
  | 4=>[(.int .i64),(.list (.int .i64)),(.list (.int .i64)),(.list (.int .i64)),(.list (.int .i64)),(.list (.int .i64)),(.int .i64),(.list (.int .i64))]
  | 5=>[(.list (.st 4)),(.list (.int .i64))]
  | 6=>[(.int .i64),(.int .i64)]
  | 7=>[(.list (.st 6))]
  | 8=>[.str,(.int .i64)]
  | 9=>[(.list (.st 8))]
  | 10=>[.bool,.bool,.bool,.bool,.bool,.bool]
  | _=>[.bool]
 cells:=fun n=>match n with
  | 0=>fun (a:cy)=>[⟨(.int .i64),a.Kind⟩,⟨(.list (.int .i64)),a.au⟩,⟨(.list (.int .i64)),a.At⟩,⟨(.list (.int .i64)),a.Lo⟩,⟨(.list (.int .i64)),a.Hi⟩,⟨(.list (.int .i64)),a.Step⟩,⟨(.int .i64),a.Value⟩]
  | 1=>fun (a:lP)=>[⟨(.list (.int .i64)),a.Kt⟩,⟨(.list (.int .i64)),a.Ks⟩,⟨(.list (.int .i64)),a.dZ⟩,⟨(.int .i64),a.both⟩,⟨(.int .i64),a.left⟩,⟨(.int .i64),a.right⟩,⟨(.int .i64),a.inner⟩]
  | 2=>fun (a:aK)=>[⟨(.int .i64),a.Start⟩,⟨(.list (.int .i64)),a.au⟩,⟨(.list (.int .i64)),a.Steps⟩]
  | 3=>fun (a:eO)=>[⟨(.int .i64),a.size⟩,⟨(.int .i64),a.step⟩]
  | 4=>fun (a:aq)=>[⟨(.int .i64),a.Op.Kind⟩,⟨(.list (.int .i64)),a.Op.au⟩,⟨(.list (.int .i64)),a.Op.At⟩,⟨(.list (.int .i64)),a.Op.Lo⟩,⟨(.list (.int .i64)),a.Op.Hi⟩,⟨(.list (.int .i64)),a.Op.Step⟩,⟨(.int .i64),a.Op.Value⟩,⟨(.list (.int .i64)),a.cH⟩]
  | 5=>fun (a:cL)=>[⟨(.list (.st 4)),a.aJ⟩,⟨(.list (.int .i64)),a.lQ⟩]
  | 6=>fun (a:gN)=>[⟨(.int .i64),a.Key⟩,⟨(.int .i64),a.zl⟩]
  | 7=>fun (a:dR)=>[⟨(.list (.st 6)),a.Es⟩]
  | 8=>fun (a:pf)=>[⟨.str,a.Key⟩,⟨(.int .i64),a.zl⟩]
  | 9=>fun (a:cR)=>[⟨(.list (.st 8)),a.Es⟩]
  | 10=>fun (a:kK)=>[⟨.bool,a.dZ⟩,⟨.bool,a.at_⟩,⟨.bool,a.lo⟩,⟨.bool,a.hi⟩,⟨.bool,a.step⟩,⟨.bool,a.value⟩]
  | _+11=>fun _=>[⟨.bool,false⟩]
 put:=fun n=>match n with
  | 0=>fun l=>(match l with | [⟨(.int .i64),y0⟩,⟨(.list (.int .i64)),y1⟩,⟨(.list (.int .i64)),y2⟩,⟨(.list (.int .i64)),y3⟩,⟨(.list (.int .i64)),y4⟩,⟨(.list (.int .i64)),y5⟩,⟨(.int .i64),y6⟩]=>some (⟨y0,y1,y2,y3,y4,y5,y6⟩:cy) | _=>none)
  | 1=>fun l=>(match l with | [⟨(.list (.int .i64)),y0⟩,⟨(.list (.int .i64)),y1⟩,⟨(.list (.int .i64)),y2⟩,⟨(.int .i64),y3⟩,⟨(.int .i64),y4⟩,⟨(.int .i64),y5⟩,⟨(.int .i64),y6⟩]=>some (⟨y0,y1,y2,y3,y4,y5,y6⟩:lP) | _=>none)
  | 2=>fun l=>(match l with | [⟨(.int .i64),y0⟩,⟨(.list (.int .i64)),y1⟩,⟨(.list (.int .i64)),y2⟩]=>some (⟨y0,y1,y2⟩:aK) | _=>none)
  | 3=>fun l=>(match l with | [⟨(.int .i64),y0⟩,⟨(.int .i64),y1⟩]=>some (⟨y0,y1⟩:eO) | _=>none)
  | 4=>fun l=>(match l with | [⟨(.int .i64),y0⟩,⟨(.list (.int .i64)),y1⟩,⟨(.list (.int .i64)),y2⟩,⟨(.list (.int .i64)),y3⟩,⟨(.list (.int .i64)),y4⟩,⟨(.list (.int .i64)),y5⟩,⟨(.int .i64),y6⟩,⟨(.list (.int .i64)),y7⟩]=>some (⟨⟨y0,y1,y2,y3,y4,y5,y6⟩,y7⟩:aq) | _=>none)
  | 5=>fun l=>(match l with | [⟨(.list (.st 4)),y0⟩,⟨(.list (.int .i64)),y1⟩]=>some (⟨y0,y1⟩:cL) | _=>none)
  | 6=>fun l=>(match l with | [⟨(.int .i64),y0⟩,⟨(.int .i64),y1⟩]=>some (⟨y0,y1⟩:gN) | _=>none)
  | 7=>fun l=>(match l with | [⟨(.list (.st 6)),y0⟩]=>some (⟨y0⟩:dR) | _=>none)
  | 8=>fun l=>(match l with | [⟨.str,y0⟩,⟨(.int .i64),y1⟩]=>some (⟨y0,y1⟩:pf) | _=>none)
  | 9=>fun l=>(match l with | [⟨(.list (.st 8)),y0⟩]=>some (⟨y0⟩:cR) | _=>none)
  | 10=>fun l=>(match l with | [⟨.bool,y0⟩,⟨.bool,y1⟩,⟨.bool,y2⟩,⟨.bool,y3⟩,⟨.bool,y4⟩,⟨.bool,y5⟩]=>some (⟨y0,y1,y2,y3,y4,y5⟩:kK) | _=>none)
  | _+11=>fun _=>none
 gB:=fun n=>match n with
  | 0=>fun (a:cy)=>aat a
  | 1=>fun (a:lP)=>aas a
  | 2=>fun (a:aK)=>aar a
  | 3=>fun (a:eO)=>aaq a
  | 4=>fun (a:aq)=>YZ a
  | 5=>fun (a:cL)=>aap a
  | 6=>fun (a:gN)=>YY a
  | 7=>fun (a:dR)=>aao a
  | 8=>fun (a:pf)=>YX a
  | 9=>fun (a:cR)=>aan a
  | 10=>fun (a:kK)=>ZU a
  | _+11=>fun _=>[.val (.bool false)]
 ty:=fun t=>match t with
  | 52=>some 0
  | 65=>some 9
  | 101=>some 7
  | _=>none
 V5:=fun t=>match t with
  | 3=>some (.int .i64)
  | 4=>some .bool
  | 5=>some (.int .u8)
  | 23=>some (.list (.int .i64))
  | 54=>some (.st 4)
  | 241=>some (.st 3)
  | _=>none
 nJ:=by intro n a;match n with
  | 0=>rfl
  | 1=>rfl
  | 2=>rfl
  | 3=>rfl
  | 4=>rfl
  | 5=>rfl
  | 6=>rfl
  | 7=>rfl
  | 8=>rfl
  | 9=>rfl
  | 10=>rfl
  | _+11=>rfl
 one:=by
  intro n t h
  match n with
  | 0=>have:=dB.1 (show([(.int .i64),(.list (.int .i64)),(.list (.int .i64)),(.list (.int .i64)),(.list (.int .i64)),(.list (.int .i64)),(.int .i64)]:List Ty).all (fun t=>!t.gm)=true from rfl) t h;simpa using this
  | 1=>have:=dB.1 (show([(.list (.int .i64)),(.list (.int .i64)),(.list (.int .i64)),(.int .i64),(.int .i64),(.int .i64),(.int .i64)]:List Ty).all (fun t=>!t.gm)=true from rfl) t h;simpa using this
  | 2=>have:=dB.1 (show([(.int .i64),(.list (.int .i64)),(.list (.int .i64))]:List Ty).all (fun t=>!t.gm)=true from rfl) t h;simpa using this
  | 3=>have:=dB.1 (show([(.int .i64),(.int .i64)]:List Ty).all (fun t=>!t.gm)=true from rfl) t h;simpa using this
  | 4=>have:=dB.1 (show([(.int .i64),(.list (.int .i64)),(.list (.int .i64)),(.list (.int .i64)),(.list (.int .i64)),(.list (.int .i64)),(.int .i64),(.list (.int .i64))]:List Ty).all (fun t=>!t.gm)=true from rfl) t h;simpa using this
  | 5=>have:=dB.1 (show([(.list (.st 4)),(.list (.int .i64))]:List Ty).all (fun t=>!t.gm)=true from rfl) t h;simpa using this
  | 6=>have:=dB.1 (show([(.int .i64),(.int .i64)]:List Ty).all (fun t=>!t.gm)=true from rfl) t h;simpa using this
  | 7=>have:=dB.1 (show([(.list (.st 6))]:List Ty).all (fun t=>!t.gm)=true from rfl) t h;simpa using this
  | 8=>have:=dB.1 (show([.str,(.int .i64)]:List Ty).all (fun t=>!t.gm)=true from rfl) t h;simpa using this
  | 9=>have:=dB.1 (show([(.list (.st 8))]:List Ty).all (fun t=>!t.gm)=true from rfl) t h;simpa using this
  | 10=>have:=dB.1 (show([.bool,.bool,.bool,.bool,.bool,.bool]:List Ty).all (fun t=>!t.gm)=true from rfl) t h;simpa using this
  | _+11=>simp at h;subst h;rfl
 pos:=by intro n;match n with
  | 0=>simp
  | 1=>simp
  | 2=>simp
  | 3=>simp
  | 4=>simp
  | 5=>simp
  | 6=>simp
  | 7=>simp
  | 8=>simp
  | 9=>simp
  | 10=>simp
  | _+11=>simp
 gZ:=by
  intro n l a h
  match n with
  | 0=>dsimp only at h;split at h <;> cases h;rfl
  | 1=>dsimp only at h;split at h <;> cases h;rfl
  | 2=>dsimp only at h;split at h <;> cases h;rfl
  | 3=>dsimp only at h;split at h <;> cases h;rfl
  | 4=>dsimp only at h;split at h <;> cases h;rfl
  | 5=>dsimp only at h;split at h <;> cases h;rfl
  | 6=>dsimp only at h;split at h <;> cases h;rfl
  | 7=>dsimp only at h;split at h <;> cases h;rfl
  | 8=>dsimp only at h;split at h <;> cases h;rfl
  | 9=>dsimp only at h;split at h <;> cases h;rfl
  | 10=>dsimp only at h;split at h <;> cases h;rfl
  | _+11=>cases h
 xA:=by intro n a;match n with
  | 0=>rfl
  | 1=>rfl
  | 2=>rfl
  | 3=>rfl
  | 4=>rfl
  | 5=>rfl
  | 6=>rfl
  | 7=>rfl
  | 8=>rfl
  | 9=>rfl
  | 10=>rfl
  | _+11=>rfl
end
end Go.DN
