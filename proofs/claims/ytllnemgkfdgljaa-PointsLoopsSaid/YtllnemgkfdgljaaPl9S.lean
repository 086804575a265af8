/-
  The structs of the program, as data.
-/
import Derived.Test.YtllnemgkfdgljaaMgH
import Derived.Test.YtllnemgkfdgljaaProg
set_option maxRecDepth 20000
set_option linter.unusedVariables false
set_option linter.unusedSectionVars false
set_option linter.unusedSimpArgs false
namespace Go.DN
open Go.AM
open Go.Proofs
noncomputable section
structure SRow where
 Coef : List Int
 Const : Int
structure SPoints where
 Box : List Int
 Rows : List SRow
structure SBound where
 Row : SRow
 Div : Int
structure SLoop where
 Lows : List SBound
 Highs : List SBound
def enc0 (a : SRow) : List G := [.sl (List.length a.Coef) (List.flatMap (fun x => [.val (.int .i64 x)]) a.Coef), .val (.int .i64 a.Const)]
def enc1 (a : SPoints) : List G := [.sl (List.length a.Box) (List.flatMap (fun x => [.val (.int .i64 x)]) a.Box), .sl (List.length a.Rows) (List.flatMap (fun x => enc0 x) a.Rows)]
def enc2 (a : SBound) : List G := [.sl (List.length a.Row.Coef) (List.flatMap (fun x => [.val (.int .i64 x)]) a.Row.Coef), .val (.int .i64 a.Row.Const), .val (.int .i64 a.Div)]
def enc3 (a : SLoop) : List G := [.sl (List.length a.Lows) (List.flatMap (fun x => enc2 x) a.Lows), .sl (List.length a.Highs) (List.flatMap (fun x => enc2 x) a.Highs)]
abbrev alpha : Nat → Type
 | 0 => SRow
 | 1 => SPoints
 | 2 => SBound
 | 3 => SLoop
 | _ => Unit
noncomputable def S0 : Sig where
 rowK := fun e => match e with
  | 33 => some 54
  | _ => none
 lpc := fun n => match n with
  | 0 => rngAt Try.prog 25 0 0 [2]
  | _ => ⟨0, [], #[], .skip, .skip, 0⟩
 α := alpha
 tys := fun n => match n with
  | 0 => [(.list (.int .i64)), (.int .i64)]
  | 1 => [(.list (.int .i64)), (.list (.st 0))]
  | 2 => [(.list (.int .i64)), (.int .i64), (.int .i64)]
  | 3 => [(.list (.st 2)), (.list (.st 2))]
  | _ => [.bool]
 cells := fun n => match n with
  | 0 => fun (a : SRow) => [⟨(.list (.int .i64)), a.Coef⟩, ⟨(.int .i64), a.Const⟩]
  | 1 => fun (a : SPoints) => [⟨(.list (.int .i64)), a.Box⟩, ⟨(.list (.st 0)), a.Rows⟩]
  | 2 => fun (a : SBound) => [⟨(.list (.int .i64)), a.Row.Coef⟩, ⟨(.int .i64), a.Row.Const⟩, ⟨(.int .i64), a.Div⟩]
  | 3 => fun (a : SLoop) => [⟨(.list (.st 2)), a.Lows⟩, ⟨(.list (.st 2)), a.Highs⟩]
  | _ + 4 => fun _ => [⟨.bool, false⟩]
 put := fun n => match n with
  | 0 => fun l => (match l with | [⟨(.list (.int .i64)), y0⟩, ⟨(.int .i64), y1⟩] => some (⟨y0, y1⟩ : SRow) | _ => none)
  | 1 => fun l => (match l with | [⟨(.list (.int .i64)), y0⟩, ⟨(.list (.st 0)), y1⟩] => some (⟨y0, y1⟩ : SPoints) | _ => none)
  | 2 => fun l => (match l with | [⟨(.list (.int .i64)), y0⟩, ⟨(.int .i64), y1⟩, ⟨(.int .i64), y2⟩] => some (⟨⟨y0, y1⟩, y2⟩ : SBound) | _ => none)
  | 3 => fun l => (match l with | [⟨(.list (.st 2)), y0⟩, ⟨(.list (.st 2)), y1⟩] => some (⟨y0, y1⟩ : SLoop) | _ => none)
  | _ + 4 => fun _ => none
 enc := fun n => match n with
  | 0 => fun (a : SRow) => enc0 a
  | 1 => fun (a : SPoints) => enc1 a
  | 2 => fun (a : SBound) => enc2 a
  | 3 => fun (a : SLoop) => enc3 a
  | _ + 4 => fun _ => [.val (.bool false)]
 ty := fun t => match t with
  | _ => none
 tyS := fun t => match t with
  | 3 => some (.int .i64)
  | 22 => some (.list (.int .i64))
  | 33 => some (.st 3)
  | 54 => some (.st 2)
  | _ => none
 tys_cells := by intro n a; match n with
  | 0 => rfl
  | 1 => rfl
  | 2 => rfl
  | 3 => rfl
  | _ + 4 => rfl
 one := by
  intro n t h
  match n with
  | 0 => have := List.all_eq_true.1 (show ([(.list (.int .i64)), (.int .i64)] : List Ty).all (fun t => !t.isSt) = true from rfl) t h; simpa using this
  | 1 => have := List.all_eq_true.1 (show ([(.list (.int .i64)), (.list (.st 0))] : List Ty).all (fun t => !t.isSt) = true from rfl) t h; simpa using this
  | 2 => have := List.all_eq_true.1 (show ([(.list (.int .i64)), (.int .i64), (.int .i64)] : List Ty).all (fun t => !t.isSt) = true from rfl) t h; simpa using this
  | 3 => have := List.all_eq_true.1 (show ([(.list (.st 2)), (.list (.st 2))] : List Ty).all (fun t => !t.isSt) = true from rfl) t h; simpa using this
  | _ + 4 => simp at h; subst h; rfl
 pos := by intro n; match n with
  | 0 => simp
  | 1 => simp
  | 2 => simp
  | 3 => simp
  | _ + 4 => simp
 put_cells := by
  intro n l a h
  match n with
  | 0 => dsimp only at h; split at h <;> cases h; rfl
  | 1 => dsimp only at h; split at h <;> cases h; rfl
  | 2 => dsimp only at h; split at h <;> cases h; rfl
  | 3 => dsimp only at h; split at h <;> cases h; rfl
  | _ + 4 => cases h
 enc_cells := by intro n a; match n with
  | 0 => rfl
  | 1 => rfl
  | 2 => rfl
  | 3 => rfl
  | _ + 4 => rfl
end
end Go.DN
