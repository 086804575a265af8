/-
  The structs of the program, as data.
-/
import Derived.Test.YtcbaolgciiieeaaMgD
import Derived.Test.YtcbaolgciiieeaaCcF
set_option maxRecDepth 20000
set_option linter.unusedVariables false
set_option linter.unusedSectionVars false
set_option linter.unusedSimpArgs false
namespace Go.DN
open Go.AM
abbrev LI := List Int
noncomputable section
abbrev SView := Go.Proofs.Ytcbaolgciiieeaa.SView
structure SOp where
 Kind : Int
 Dims : List Int
 At : List Int
 Lo : List Int
 Hi : List Int
 Step : List Int
 Value : Int
structure SArray where
 Dims : List Int
 Data : List Int
structure Spairing where
 turnA : List Int
 turnB : List Int
 dims : List Int
 both : Int
 left : Int
 right : Int
 inner : Int
def enc0 (a : SView) : List G := [.val (.int .i64 a.Start), .sl (List.length a.Dims) (List.flatMap (fun x => [.val (.int .i64 x)]) a.Dims), .sl (List.length a.Steps) (List.flatMap (fun x => [.val (.int .i64 x)]) a.Steps)]
def enc1 (a : SOp) : List G := [.val (.int .i64 a.Kind), .sl (List.length a.Dims) (List.flatMap (fun x => [.val (.int .i64 x)]) a.Dims), .sl (List.length a.At) (List.flatMap (fun x => [.val (.int .i64 x)]) a.At), .sl (List.length a.Lo) (List.flatMap (fun x => [.val (.int .i64 x)]) a.Lo), .sl (List.length a.Hi) (List.flatMap (fun x => [.val (.int .i64 x)]) a.Hi), .sl (List.length a.Step) (List.flatMap (fun x => [.val (.int .i64 x)]) a.Step), .val (.int .i64 a.Value)]
def enc2 (a : SArray) : List G := [.sl (List.length a.Dims) (List.flatMap (fun x => [.val (.int .i64 x)]) a.Dims), .sl (List.length a.Data) (List.flatMap (fun x => [.val (.int .i64 x)]) a.Data)]
def enc3 (a : Spairing) : List G := [.sl (List.length a.turnA) (List.flatMap (fun x => [.val (.int .i64 x)]) a.turnA), .sl (List.length a.turnB) (List.flatMap (fun x => [.val (.int .i64 x)]) a.turnB), .sl (List.length a.dims) (List.flatMap (fun x => [.val (.int .i64 x)]) a.dims), .val (.int .i64 a.both), .val (.int .i64 a.left), .val (.int .i64 a.right), .val (.int .i64 a.inner)]
abbrev alpha : Nat → Type
 | 0 => SView
 | 1 => SOp
 | 2 => SArray
 | 3 => Spairing
 | _ => Unit
def S0 : Sig where
 α := alpha
 tys := fun n => match n with
  | 0 => [(.int .i64), (.list (.int .i64)), (.list (.int .i64))]
  | 1 => [(.int .i64), (.list (.int .i64)), (.list (.int .i64)), (.list (.int .i64)), (.list (.int .i64)), (.list (.int .i64)), (.int .i64)]
  | 2 => [(.list (.int .i64)), (.list (.int .i64))]
  | 3 => [(.list (.int .i64)), (.list (.int .i64)), (.list (.int .i64)), (.int .i64), (.int .i64), (.int .i64), (.int .i64)]
  | _ => [.bool]
 cells := fun n => match n with
  | 0 => fun (a : SView) => [⟨(.int .i64), a.Start⟩, ⟨(.list (.int .i64)), a.Dims⟩, ⟨(.list (.int .i64)), a.Steps⟩]
  | 1 => fun (a : SOp) => [⟨(.int .i64), a.Kind⟩, ⟨(.list (.int .i64)), a.Dims⟩, ⟨(.list (.int .i64)), a.At⟩, ⟨(.list (.int .i64)), a.Lo⟩, ⟨(.list (.int .i64)), a.Hi⟩, ⟨(.list (.int .i64)), a.Step⟩, ⟨(.int .i64), a.Value⟩]
  | 2 => fun (a : SArray) => [⟨(.list (.int .i64)), a.Dims⟩, ⟨(.list (.int .i64)), a.Data⟩]
  | 3 => fun (a : Spairing) => [⟨(.list (.int .i64)), a.turnA⟩, ⟨(.list (.int .i64)), a.turnB⟩, ⟨(.list (.int .i64)), a.dims⟩, ⟨(.int .i64), a.both⟩, ⟨(.int .i64), a.left⟩, ⟨(.int .i64), a.right⟩, ⟨(.int .i64), a.inner⟩]
  | _ + 4 => fun _ => [⟨.bool, false⟩]
 put := fun n => match n with
  | 0 => fun l => (match l with | [⟨(.int .i64), y0⟩, ⟨(.list (.int .i64)), y1⟩, ⟨(.list (.int .i64)), y2⟩] => some (⟨y0, y1, y2⟩ : SView) | _ => none)
  | 1 => fun l => (match l with | [⟨(.int .i64), y0⟩, ⟨(.list (.int .i64)), y1⟩, ⟨(.list (.int .i64)), y2⟩, ⟨(.list (.int .i64)), y3⟩, ⟨(.list (.int .i64)), y4⟩, ⟨(.list (.int .i64)), y5⟩, ⟨(.int .i64), y6⟩] => some (⟨y0, y1, y2, y3, y4, y5, y6⟩ : SOp) | _ => none)
  | 2 => fun l => (match l with | [⟨(.list (.int .i64)), y0⟩, ⟨(.list (.int .i64)), y1⟩] => some (⟨y0, y1⟩ : SArray) | _ => none)
  | 3 => fun l => (match l with | [⟨(.list (.int .i64)), y0⟩, ⟨(.list (.int .i64)), y1⟩, ⟨(.list (.int .i64)), y2⟩, ⟨(.int .i64), y3⟩, ⟨(.int .i64), y4⟩, ⟨(.int .i64), y5⟩, ⟨(.int .i64), y6⟩] => some (⟨y0, y1, y2, y3, y4, y5, y6⟩ : Spairing) | _ => none)
  | _ + 4 => fun _ => none
 enc := fun n => match n with
  | 0 => fun (a : SView) => enc0 a
  | 1 => fun (a : SOp) => enc1 a
  | 2 => fun (a : SArray) => enc2 a
  | 3 => fun (a : Spairing) => enc3 a
  | _ + 4 => fun _ => [.val (.bool false)]
 ty := fun t => match t with
  | _ => none
 tyS := fun t => match t with
  | 3 => some (.int .i64)
  | 4 => some .bool
  | 22 => some (.list (.int .i64))
  | _ => none
 tys_cells := by intro n a; match n with
  | 0 => rfl
  | 1 => rfl
  | 2 => rfl
  | 3 => rfl
  | _ + 4 => rfl
 one := by
  intro n t h
  match n with
  | 0 => have := List.all_eq_true.1 (show ([(.int .i64), (.list (.int .i64)), (.list (.int .i64))] : List Ty).all (fun t => !t.isSt) = true from rfl) t h; simpa using this
  | 1 => have := List.all_eq_true.1 (show ([(.int .i64), (.list (.int .i64)), (.list (.int .i64)), (.list (.int .i64)), (.list (.int .i64)), (.list (.int .i64)), (.int .i64)] : List Ty).all (fun t => !t.isSt) = true from rfl) t h; simpa using this
  | 2 => have := List.all_eq_true.1 (show ([(.list (.int .i64)), (.list (.int .i64))] : List Ty).all (fun t => !t.isSt) = true from rfl) t h; simpa using this
  | 3 => have := List.all_eq_true.1 (show ([(.list (.int .i64)), (.list (.int .i64)), (.list (.int .i64)), (.int .i64), (.int .i64), (.int .i64), (.int .i64)] : List Ty).all (fun t => !t.isSt) = true from rfl) t h; simpa using this
  | _ + 4 => simp at h; subst h; rfl
 pos := by intro n; match n with
  | 0 => simp
  | 1 => simp
  | 2 => simp
  | 3 => simp
  | _ + 4 => simp
 put_cells := by
  intro n l a h
  match n with
  | 0 => dsimp only at h; split at h <;> cases h; rfl
  | 1 => dsimp only at h; split at h <;> cases h; rfl
  | 2 => dsimp only at h; split at h <;> cases h; rfl
  | 3 => dsimp only at h; split at h <;> cases h; rfl
  | _ + 4 => cases h
 enc_cells := by intro n a; match n with
  | 0 => rfl
  | 1 => rfl
  | 2 => rfl
  | 3 => rfl
  | _ + 4 => rfl
end
end Go.DN
