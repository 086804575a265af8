/-
  The structs of the program, as data.
-/
import Derived.Test.YtongekoajbcliaaGreatDoorMgH
import Derived.Test.YtongekoajbcliaaGreatDoorTgB
import Derived.Test.YtongekoajbcliaaGreatDoorTgF
import Derived.Test.YtongekoajbcliaaGreatDoorProg
import Derived.Test.YtongekoajbcliaaGreatDoorCcF
set_option maxRecDepth 20000
set_option linter.all false
namespace Go.DN
open Go.AM
open Go.Proofs
noncomputable section
structure cq where
 Kind:Int
 av:List Int
 At:List Int
 Lo:List Int
 Hi:List Int
 Step:List Int
 Value:Int
structure lZ where
 K0:List Int
 KZ:List Int
 ej:List Int
 both:Int
 left:Int
 right:Int
 inner:Int
structure aM where
 Start:Int
 av:List Int
 Steps:List Int
structure eU where
 size:Int
 step:Int
structure ai where
 Op:cq
 bU:List Int
structure bn where
 ah:List ai
 cQ:List Int
structure gU where
 Key:Int
 zL:Int
structure dV where
 Es:List gU
structure pC where
 Key:ByteArray
 zL:Int
structure cX where
 Es:List pC
structure kS where
 ej:Bool
 at_:Bool
 lo:Bool
 hi:Bool
 step:Bool
 value:Bool
def jx(l:List gU)(k:Int):Int:=match List.find? (fun a=>decide (a.Key=k)) l with|some a=>a.zL|none=>0
def od(l:List gU)(k:Int):Bool:=(List.find? (fun a=>decide (a.Key=k)) l).isSome
def yg(l:List gU)(k:Int)(v:Int):List gU:=bif List.any l (fun b=>decide (b.Key=k)) then List.map (fun b=>bif decide (b.Key=k) then(⟨k,v⟩:gU) else b) l else l++[⟨k,v⟩]
def yf(l:List pC)(k:ByteArray):Int:=match List.find? (fun a=>decide (a.Key=k)) l with|some a=>a.zL|none=>0
def ye(l:List pC)(k:ByteArray):Bool:=(List.find? (fun a=>decide (a.Key=k)) l).isSome
def yd(l:List pC)(k:ByteArray)(v:Int):List pC:=bif List.any l (fun b=>decide (b.Key=k)) then List.map (fun b=>bif decide (b.Key=k) then(⟨k,v⟩:pC) else b) l else l++[⟨k,v⟩]
def aa7(a:cq):List G:=[.val (.int .i64 a.Kind),.sl (List.length a.av) (List.flatMap (fun x=>[.val (.int .i64 x)]) a.av),.sl (List.length a.At) (List.flatMap (fun x=>[.val (.int .i64 x)]) a.At),.sl (List.length a.Lo) (List.flatMap (fun x=>[.val (.int .i64 x)]) a.Lo),.sl (List.length a.Hi) (List.flatMap (fun x=>[.val (.int .i64 x)]) a.Hi),.sl (List.length a.Step) (List.flatMap (fun x=>[.val (.int .i64 x)]) a.Step),.val (.int .i64 a.Value)]
def aa6(a:lZ):List G:=[.sl (List.length a.K0) (List.flatMap (fun x=>[.val (.int .i64 x)]) a.K0),.sl (List.length a.KZ) (List.flatMap (fun x=>[.val (.int .i64 x)]) a.KZ),.sl (List.length a.ej) (List.flatMap (fun x=>[.val (.int .i64 x)]) a.ej),.val (.int .i64 a.both),.val (.int .i64 a.left),.val (.int .i64 a.right),.val (.int .i64 a.inner)]
def aa5(a:aM):List G:=[.val (.int .i64 a.Start),.sl (List.length a.av) (List.flatMap (fun x=>[.val (.int .i64 x)]) a.av),.sl (List.length a.Steps) (List.flatMap (fun x=>[.val (.int .i64 x)]) a.Steps)]
def aa4(a:eU):List G:=[.val (.int .i64 a.size),.val (.int .i64 a.step)]
def ZI(a:ai):List G:=[.val (.int .i64 a.Op.Kind),.sl (List.length a.Op.av) (List.flatMap (fun x=>[.val (.int .i64 x)]) a.Op.av),.sl (List.length a.Op.At) (List.flatMap (fun x=>[.val (.int .i64 x)]) a.Op.At),.sl (List.length a.Op.Lo) (List.flatMap (fun x=>[.val (.int .i64 x)]) a.Op.Lo),.sl (List.length a.Op.Hi) (List.flatMap (fun x=>[.val (.int .i64 x)]) a.Op.Hi),.sl (List.length a.Op.Step) (List.flatMap (fun x=>[.val (.int .i64 x)]) a.Op.Step),.val (.int .i64 a.Op.Value),.sl (List.length a.bU) (List.flatMap (fun x=>[.val (.int .i64 x)]) a.bU)]
def aa3(a:bn):List G:=[.sl (List.length a.ah) (List.flatMap (fun x=>ZI x) a.ah),.sl (List.length a.cQ) (List.flatMap (fun x=>[.val (.int .i64 x)]) a.cQ)]
def ZH(a:gU):List G:=[.val (.int .i64 a.Key),.val (.int .i64 a.zL)]
def aa2(a:dV):List G:=[.sl (List.length a.Es) (List.flatMap (fun x=>ZH x) a.Es)]
def ZG(a:pC):List G:=[.val (.string a.Key),.val (.int .i64 a.zL)]
def aa1(a:cX):List G:=[.sl (List.length a.Es) (List.flatMap (fun x=>ZG x) a.Es)]
def aay(a:kS):List G:=[.val (.bool a.ej),.val (.bool a.at_),.val (.bool a.lo),.val (.bool a.hi),.val (.bool a.step),.val (.bool a.value)]
abbrev aaD:Nat->Type|0=>cq|1=>lZ|2=>aM|3=>eU|4=>ai|5=>bn|6=>gU|7=>dV|8=>pC|9=>cX|10=>kS|_=>Unit
noncomputable def S0:eN where
 fR:=fun n=>match n with
  | 0=>WN Tryz.prog 152 0 0 [1,3,4]
  | 1=>WN Tryz.prog 111 0 0 [4,5,11,12]
  | _=>⟨0,[],#[],.skip,.skip,0⟩
 α:=aaD
 dd:=fun n=>match n with
  | 0=>[(.int .i64),(.list (.int .i64)),(.list (.int .i64)),(.list (.int .i64)),(.list (.int .i64)),(.list (.int .i64)),(.int .i64)]
  | 1=>[(.list (.int .i64)),(.list (.int .i64)),(.list (.int .i64)),(.int .i64),(.int .i64),(.int .i64),(.int .i64)]
  | 2=>[(.int .i64),(.list (.int .i64)),(.list (.int .i64))]
  | 3=>[(.int .i64),(.int .i64)]
  | 4=>[(.int .i64),(.list (.int .i64)),(.list (.int .i64)),(.list (.int .i64)),(.list (.int .i64)),(.list (.int .i64)),(.int .i64),(.list (.int .i64))]
  | 5=>[(.list (.st 4)),(.list (.int .i64))]
  | 6=>[(.int .i64),(.int .i64)]
  | 7=>[(.list (.st 6))]
  | 8=>[.str,(.int .i64)]
  | 9=>[(.list (.st 8))]
  | 10=>[.bool,.bool,.bool,.bool,.bool,.bool]
  | _=>[.bool]
 cells:=fun n=>match n with
  | 0=>fun (a:cq)=>[⟨(.int .i64),a.Kind⟩,⟨(.list (.int .i64)),a.av⟩,⟨(.list (.int .i64)),a.At⟩,⟨(.list (.int .i64)),a.Lo⟩,⟨(.list (.int .i64)),a.Hi⟩,⟨(.list (.int .i64)),a.Step⟩,⟨(.int .i64),a.Value⟩]
  | 1=>fun (a:lZ)=>[⟨(.list (.int .i64)),a.K0⟩,⟨(.list (.int .i64)),a.KZ⟩,⟨(.list (.int .i64)),a.ej⟩,⟨(.int .i64),a.both⟩,⟨(.int .i64),a.left⟩,⟨(.int .i64),a.right⟩,⟨(.int .i64),a.inner⟩]
  | 2=>fun (a:aM)=>[⟨(.int .i64),a.Start⟩,⟨(.list (.int .i64)),a.av⟩,⟨(.list (.int .i64)),a.Steps⟩]
  | 3=>fun (a:eU)=>[⟨(.int .i64),a.size⟩,⟨(.int .i64),a.step⟩]
  | 4=>fun (a:ai)=>[⟨(.int .i64),a.Op.Kind⟩,⟨(.list (.int .i64)),a.Op.av⟩,⟨(.list (.int .i64)),a.Op.At⟩,⟨(.list (.int .i64)),a.Op.Lo⟩,⟨(.list (.int .i64)),a.Op.Hi⟩,⟨(.list (.int .i64)),a.Op.Step⟩,⟨(.int .i64),a.Op.Value⟩,⟨(.list (.int .i64)),a.bU⟩]
  | 5=>fun (a:bn)=>[⟨(.list (.st 4)),a.ah⟩,⟨(.list (.int .i64)),a.cQ⟩]
  | 6=>fun (a:gU)=>[⟨(.int .i64),a.Key⟩,⟨(.int .i64),a.zL⟩]
  | 7=>fun (a:dV)=>[⟨(.list (.st 6)),a.Es⟩]
  | 8=>fun (a:pC)=>[⟨.str,a.Key⟩,⟨(.int .i64),a.zL⟩]
  | 9=>fun (a:cX)=>[⟨(.list (.st 8)),a.Es⟩]
  | 10=>fun (a:kS)=>[⟨.bool,a.ej⟩,⟨.bool,a.at_⟩,⟨.bool,a.lo⟩,⟨.bool,a.hi⟩,⟨.bool,a.step⟩,⟨.bool,a.value⟩]
  | _+11=>fun _=>[⟨.bool,false⟩]
 put:=fun n=>match n with
  | 0=>fun l=>(match l with | [⟨(.int .i64),y0⟩,⟨(.list (.int .i64)),y1⟩,⟨(.list (.int .i64)),y2⟩,⟨(.list (.int .i64)),y3⟩,⟨(.list (.int .i64)),y4⟩,⟨(.list (.int .i64)),y5⟩,⟨(.int .i64),y6⟩]=>some (⟨y0,y1,y2,y3,y4,y5,y6⟩:cq) | _=>none)
  | 1=>fun l=>(match l with | [⟨(.list (.int .i64)),y0⟩,⟨(.list (.int .i64)),y1⟩,⟨(.list (.int .i64)),y2⟩,⟨(.int .i64),y3⟩,⟨(.int .i64),y4⟩,⟨(.int .i64),y5⟩,⟨(.int .i64),y6⟩]=>some (⟨y0,y1,y2,y3,y4,y5,y6⟩:lZ) | _=>none)
  | 2=>fun l=>(match l with | [⟨(.int .i64),y0⟩,⟨(.list (.int .i64)),y1⟩,⟨(.list (.int .i64)),y2⟩]=>some (⟨y0,y1,y2⟩:aM) | _=>none)
  | 3=>fun l=>(match l with | [⟨(.int .i64),y0⟩,⟨(.int .i64),y1⟩]=>some (⟨y0,y1⟩:eU) | _=>none)
  | 4=>fun l=>(match l with | [⟨(.int .i64),y0⟩,⟨(.list (.int .i64)),y1⟩,⟨(.list (.int .i64)),y2⟩,⟨(.list (.int .i64)),y3⟩,⟨(.list (.int .i64)),y4⟩,⟨(.list (.int .i64)),y5⟩,⟨(.int .i64),y6⟩,⟨(.list (.int .i64)),y7⟩]=>some (⟨⟨y0,y1,y2,y3,y4,y5,y6⟩,y7⟩:ai) | _=>none)
  | 5=>fun l=>(match l with | [⟨(.list (.st 4)),y0⟩,⟨(.list (.int .i64)),y1⟩]=>some (⟨y0,y1⟩:bn) | _=>none)
  | 6=>fun l=>(match l with | [⟨(.int .i64),y0⟩,⟨(.int .i64),y1⟩]=>some (⟨y0,y1⟩:gU) | _=>none)
  | 7=>fun l=>(match l with | [⟨(.list (.st 6)),y0⟩]=>some (⟨y0⟩:dV) | _=>none)
  | 8=>fun l=>(match l with | [⟨.str,y0⟩,⟨(.int .i64),y1⟩]=>some (⟨y0,y1⟩:pC) | _=>none)
  | 9=>fun l=>(match l with | [⟨(.list (.st 8)),y0⟩]=>some (⟨y0⟩:cX) | _=>none)
  | 10=>fun l=>(match l with | [⟨.bool,y0⟩,⟨.bool,y1⟩,⟨.bool,y2⟩,⟨.bool,y3⟩,⟨.bool,y4⟩,⟨.bool,y5⟩]=>some (⟨y0,y1,y2,y3,y4,y5⟩:kS) | _=>none)
  | _+11=>fun _=>none
 gK:=fun n=>match n with
  | 0=>fun (a:cq)=>aa7 a
  | 1=>fun (a:lZ)=>aa6 a
  | 2=>fun (a:aM)=>aa5 a
  | 3=>fun (a:eU)=>aa4 a
  | 4=>fun (a:ai)=>ZI a
  | 5=>fun (a:bn)=>aa3 a
  | 6=>fun (a:gU)=>ZH a
  | 7=>fun (a:dV)=>aa2 a
  | 8=>fun (a:pC)=>ZG a
  | 9=>fun (a:cX)=>aa1 a
  | 10=>fun (a:kS)=>aay a
  | _+11=>fun _=>[.val (.bool false)]
 ty:=fun t=>match t with
  | 52=>some 0
  | 65=>some 9
  | 101=>some 7
  | _=>none
 WK:=fun t=>match t with
  | 3=>some (.int .i64)
  | 4=>some .bool
  | 5=>some (.int .u8)
  | 23=>some (.list (.int .i64))
  | 54=>some (.st 4)
  | 241=>some (.st 3)
  | _=>none
 nZ:=by intro n a;match n with
  | 0=>rfl
  | 1=>rfl
  | 2=>rfl
  | 3=>rfl
  | 4=>rfl
  | 5=>rfl
  | 6=>rfl
  | 7=>rfl
  | 8=>rfl
  | 9=>rfl
  | 10=>rfl
  | _+11=>rfl
 one:=by
  intro n t h
  match n with
  | 0=>have:=dF.1 (show([(.int .i64),(.list (.int .i64)),(.list (.int .i64)),(.list (.int .i64)),(.list (.int .i64)),(.list (.int .i64)),(.int .i64)]:List Ty).all (fun t=>!t.gA)=true from rfl) t h;simpa using this
  | 1=>have:=dF.1 (show([(.list (.int .i64)),(.list (.int .i64)),(.list (.int .i64)),(.int .i64),(.int .i64),(.int .i64),(.int .i64)]:List Ty).all (fun t=>!t.gA)=true from rfl) t h;simpa using this
  | 2=>have:=dF.1 (show([(.int .i64),(.list (.int .i64)),(.list (.int .i64))]:List Ty).all (fun t=>!t.gA)=true from rfl) t h;simpa using this
  | 3=>have:=dF.1 (show([(.int .i64),(.int .i64)]:List Ty).all (fun t=>!t.gA)=true from rfl) t h;simpa using this
  | 4=>have:=dF.1 (show([(.int .i64),(.list (.int .i64)),(.list (.int .i64)),(.list (.int .i64)),(.list (.int .i64)),(.list (.int .i64)),(.int .i64),(.list (.int .i64))]:List Ty).all (fun t=>!t.gA)=true from rfl) t h;simpa using this
  | 5=>have:=dF.1 (show([(.list (.st 4)),(.list (.int .i64))]:List Ty).all (fun t=>!t.gA)=true from rfl) t h;simpa using this
  | 6=>have:=dF.1 (show([(.int .i64),(.int .i64)]:List Ty).all (fun t=>!t.gA)=true from rfl) t h;simpa using this
  | 7=>have:=dF.1 (show([(.list (.st 6))]:List Ty).all (fun t=>!t.gA)=true from rfl) t h;simpa using this
  | 8=>have:=dF.1 (show([.str,(.int .i64)]:List Ty).all (fun t=>!t.gA)=true from rfl) t h;simpa using this
  | 9=>have:=dF.1 (show([(.list (.st 8))]:List Ty).all (fun t=>!t.gA)=true from rfl) t h;simpa using this
  | 10=>have:=dF.1 (show([.bool,.bool,.bool,.bool,.bool,.bool]:List Ty).all (fun t=>!t.gA)=true from rfl) t h;simpa using this
  | _+11=>simp at h;subst h;rfl
 pos:=by intro n;match n with
  | 0=>simp
  | 1=>simp
  | 2=>simp
  | 3=>simp
  | 4=>simp
  | 5=>simp
  | 6=>simp
  | 7=>simp
  | 8=>simp
  | 9=>simp
  | 10=>simp
  | _+11=>simp
 ig:=by
  intro n l a h
  match n with
  | 0=>dsimp only at h;split at h <;> cases h;rfl
  | 1=>dsimp only at h;split at h <;> cases h;rfl
  | 2=>dsimp only at h;split at h <;> cases h;rfl
  | 3=>dsimp only at h;split at h <;> cases h;rfl
  | 4=>dsimp only at h;split at h <;> cases h;rfl
  | 5=>dsimp only at h;split at h <;> cases h;rfl
  | 6=>dsimp only at h;split at h <;> cases h;rfl
  | 7=>dsimp only at h;split at h <;> cases h;rfl
  | 8=>dsimp only at h;split at h <;> cases h;rfl
  | 9=>dsimp only at h;split at h <;> cases h;rfl
  | 10=>dsimp only at h;split at h <;> cases h;rfl
  | _+11=>cases h
 xW:=by intro n a;match n with
  | 0=>rfl
  | 1=>rfl
  | 2=>rfl
  | 3=>rfl
  | 4=>rfl
  | 5=>rfl
  | 6=>rfl
  | 7=>rfl
  | 8=>rfl
  | 9=>rfl
  | 10=>rfl
  | _+11=>rfl
end
end Go.DN
