/-
  The structs of the program, as data.
-/
import Derived.Test.YtcbaolgciiieeaaGreatMgD
import Derived.Test.YtcbaolgciiieeaaGreatProg
import Derived.Test.YtcbaolgciiieeaaGreatCcF
set_option maxRecDepth 20000
set_option linter.unusedVariables false
set_option linter.unusedSectionVars false
set_option linter.unusedSimpArgs false
namespace Go.DN
open Go.AM
open Go.Proofs
noncomputable section
structure SOp where
 Kind : Int
 Dims : List Int
 At : List Int
 Lo : List Int
 Hi : List Int
 Step : List Int
 Value : Int
structure Spairing where
 turnA : List Int
 turnB : List Int
 dims : List Int
 both : Int
 left : Int
 right : Int
 inner : Int
structure SView where
 Start : Int
 Dims : List Int
 Steps : List Int
structure Sblock where
 size : Int
 step : Int
structure SArray where
 Dims : List Int
 Data : List Int
def enc0 (a : SOp) : List G := [.val (.int .i64 a.Kind), .sl (List.length a.Dims) (List.flatMap (fun x => [.val (.int .i64 x)]) a.Dims), .sl (List.length a.At) (List.flatMap (fun x => [.val (.int .i64 x)]) a.At), .sl (List.length a.Lo) (List.flatMap (fun x => [.val (.int .i64 x)]) a.Lo), .sl (List.length a.Hi) (List.flatMap (fun x => [.val (.int .i64 x)]) a.Hi), .sl (List.length a.Step) (List.flatMap (fun x => [.val (.int .i64 x)]) a.Step), .val (.int .i64 a.Value)]
def enc1 (a : Spairing) : List G := [.sl (List.length a.turnA) (List.flatMap (fun x => [.val (.int .i64 x)]) a.turnA), .sl (List.length a.turnB) (List.flatMap (fun x => [.val (.int .i64 x)]) a.turnB), .sl (List.length a.dims) (List.flatMap (fun x => [.val (.int .i64 x)]) a.dims), .val (.int .i64 a.both), .val (.int .i64 a.left), .val (.int .i64 a.right), .val (.int .i64 a.inner)]
def enc2 (a : SView) : List G := [.val (.int .i64 a.Start), .sl (List.length a.Dims) (List.flatMap (fun x => [.val (.int .i64 x)]) a.Dims), .sl (List.length a.Steps) (List.flatMap (fun x => [.val (.int .i64 x)]) a.Steps)]
def enc3 (a : Sblock) : List G := [.val (.int .i64 a.size), .val (.int .i64 a.step)]
def enc4 (a : SArray) : List G := [.sl (List.length a.Dims) (List.flatMap (fun x => [.val (.int .i64 x)]) a.Dims), .sl (List.length a.Data) (List.flatMap (fun x => [.val (.int .i64 x)]) a.Data)]
abbrev alpha : Nat → Type
 | 0 => SOp
 | 1 => Spairing
 | 2 => SView
 | 3 => Sblock
 | 4 => SArray
 | _ => Unit
noncomputable def S0 : Sig where
 lpc := fun n => match n with
  | 0 => rngAt Tryz.prog 88 0 0 [1, 3, 4]
  | 1 => rngAt Tryz.prog 68 0 0 [4, 5, 11, 12]
  | _ => ⟨0, [], #[], .skip, .skip, 0⟩
 α := alpha
 tys := fun n => match n with
  | 0 => [(.int .i64), (.list (.int .i64)), (.list (.int .i64)), (.list (.int .i64)), (.list (.int .i64)), (.list (.int .i64)), (.int .i64)]
  | 1 => [(.list (.int .i64)), (.list (.int .i64)), (.list (.int .i64)), (.int .i64), (.int .i64), (.int .i64), (.int .i64)]
  | 2 => [(.int .i64), (.list (.int .i64)), (.list (.int .i64))]
  | 3 => [(.int .i64), (.int .i64)]
  | 4 => [(.list (.int .i64)), (.list (.int .i64))]
  | _ => [.bool]
 cells := fun n => match n with
  | 0 => fun (a : SOp) => [⟨(.int .i64), a.Kind⟩, ⟨(.list (.int .i64)), a.Dims⟩, ⟨(.list (.int .i64)), a.At⟩, ⟨(.list (.int .i64)), a.Lo⟩, ⟨(.list (.int .i64)), a.Hi⟩, ⟨(.list (.int .i64)), a.Step⟩, ⟨(.int .i64), a.Value⟩]
  | 1 => fun (a : Spairing) => [⟨(.list (.int .i64)), a.turnA⟩, ⟨(.list (.int .i64)), a.turnB⟩, ⟨(.list (.int .i64)), a.dims⟩, ⟨(.int .i64), a.both⟩, ⟨(.int .i64), a.left⟩, ⟨(.int .i64), a.right⟩, ⟨(.int .i64), a.inner⟩]
  | 2 => fun (a : SView) => [⟨(.int .i64), a.Start⟩, ⟨(.list (.int .i64)), a.Dims⟩, ⟨(.list (.int .i64)), a.Steps⟩]
  | 3 => fun (a : Sblock) => [⟨(.int .i64), a.size⟩, ⟨(.int .i64), a.step⟩]
  | 4 => fun (a : SArray) => [⟨(.list (.int .i64)), a.Dims⟩, ⟨(.list (.int .i64)), a.Data⟩]
  | _ + 5 => fun _ => [⟨.bool, false⟩]
 put := fun n => match n with
  | 0 => fun l => (match l with | [⟨(.int .i64), y0⟩, ⟨(.list (.int .i64)), y1⟩, ⟨(.list (.int .i64)), y2⟩, ⟨(.list (.int .i64)), y3⟩, ⟨(.list (.int .i64)), y4⟩, ⟨(.list (.int .i64)), y5⟩, ⟨(.int .i64), y6⟩] => some (⟨y0, y1, y2, y3, y4, y5, y6⟩ : SOp) | _ => none)
  | 1 => fun l => (match l with | [⟨(.list (.int .i64)), y0⟩, ⟨(.list (.int .i64)), y1⟩, ⟨(.list (.int .i64)), y2⟩, ⟨(.int .i64), y3⟩, ⟨(.int .i64), y4⟩, ⟨(.int .i64), y5⟩, ⟨(.int .i64), y6⟩] => some (⟨y0, y1, y2, y3, y4, y5, y6⟩ : Spairing) | _ => none)
  | 2 => fun l => (match l with | [⟨(.int .i64), y0⟩, ⟨(.list (.int .i64)), y1⟩, ⟨(.list (.int .i64)), y2⟩] => some (⟨y0, y1, y2⟩ : SView) | _ => none)
  | 3 => fun l => (match l with | [⟨(.int .i64), y0⟩, ⟨(.int .i64), y1⟩] => some (⟨y0, y1⟩ : Sblock) | _ => none)
  | 4 => fun l => (match l with | [⟨(.list (.int .i64)), y0⟩, ⟨(.list (.int .i64)), y1⟩] => some (⟨y0, y1⟩ : SArray) | _ => none)
  | _ + 5 => fun _ => none
 enc := fun n => match n with
  | 0 => fun (a : SOp) => enc0 a
  | 1 => fun (a : Spairing) => enc1 a
  | 2 => fun (a : SView) => enc2 a
  | 3 => fun (a : Sblock) => enc3 a
  | 4 => fun (a : SArray) => enc4 a
  | _ + 5 => fun _ => [.val (.bool false)]
 ty := fun t => match t with
  | _ => none
 tyS := fun t => match t with
  | 2 => some (.int .i64)
  | 3 => some (.int .i64)
  | 4 => some .bool
  | 22 => some (.list (.int .i64))
  | 28 => some (.st 4)
  | 115 => some (.st 3)
  | _ => none
 tys_cells := by intro n a; match n with
  | 0 => rfl
  | 1 => rfl
  | 2 => rfl
  | 3 => rfl
  | 4 => rfl
  | _ + 5 => rfl
 one := by
  intro n t h
  match n with
  | 0 => have := List.all_eq_true.1 (show ([(.int .i64), (.list (.int .i64)), (.list (.int .i64)), (.list (.int .i64)), (.list (.int .i64)), (.list (.int .i64)), (.int .i64)] : List Ty).all (fun t => !t.isSt) = true from rfl) t h; simpa using this
  | 1 => have := List.all_eq_true.1 (show ([(.list (.int .i64)), (.list (.int .i64)), (.list (.int .i64)), (.int .i64), (.int .i64), (.int .i64), (.int .i64)] : List Ty).all (fun t => !t.isSt) = true from rfl) t h; simpa using this
  | 2 => have := List.all_eq_true.1 (show ([(.int .i64), (.list (.int .i64)), (.list (.int .i64))] : List Ty).all (fun t => !t.isSt) = true from rfl) t h; simpa using this
  | 3 => have := List.all_eq_true.1 (show ([(.int .i64), (.int .i64)] : List Ty).all (fun t => !t.isSt) = true from rfl) t h; simpa using this
  | 4 => have := List.all_eq_true.1 (show ([(.list (.int .i64)), (.list (.int .i64))] : List Ty).all (fun t => !t.isSt) = true from rfl) t h; simpa using this
  | _ + 5 => simp at h; subst h; rfl
 pos := by intro n; match n with
  | 0 => simp
  | 1 => simp
  | 2 => simp
  | 3 => simp
  | 4 => simp
  | _ + 5 => simp
 put_cells := by
  intro n l a h
  match n with
  | 0 => dsimp only at h; split at h <;> cases h; rfl
  | 1 => dsimp only at h; split at h <;> cases h; rfl
  | 2 => dsimp only at h; split at h <;> cases h; rfl
  | 3 => dsimp only at h; split at h <;> cases h; rfl
  | 4 => dsimp only at h; split at h <;> cases h; rfl
  | _ + 5 => cases h
 enc_cells := by intro n a; match n with
  | 0 => rfl
  | 1 => rfl
  | 2 => rfl
  | 3 => rfl
  | 4 => rfl
  | _ + 5 => rfl
end
end Go.DN
