/-
  AM, part C: operations that yield a value and leave the world alone.
-/
import Derived.Test.YtllnemgkfdgljaaAmB
set_option linter.unusedSectionVars false
set_option linter.unusedSimpArgs false
set_option linter.unusedVariables false
namespace Go.AM

def ev (s : St) : Operand → Option G
  | .tmp t => get s.fr t
  | .const v => some (.val v)
  | .func f => some (.clo f [])
  | .global _ => none

section
variable {P : Program} {N : Nat} {cx : Cx} {s : St}

theorem Rel.ev {μ : Mu} {a : Act} {w : World} (h : Rel N cx μ s a w) {x : Operand} {g : G} (he : ev s x = some g) : RepV (cx.O s.st μ) cx.base w μ g (a.eval x) := by
  cases x with
  | tmp t =>
    obtain ⟨v, hv, hr⟩ := h.fr t g he
    simpa [Act.eval, hv] using hr
  | const v => cases he; exact .imm (.val _)
  | func f => cases he; exact .clo f [] [] rfl (fun j g v hg => by simp at hg)
  | global g => cases he

theorem Rel.val {μ : Mu} {a : Act} {w : World} (h : Rel N cx μ s a w) {x : Operand} {v : Value} (he : AM.ev s x = some (.val v)) : a.eval x = v := by
  cases h.ev he with
  | imm hr => cases hr; rfl

/-- Yields 'g' in whatever world. -/
def PY (P : Program) (s : St) (o : Oper) (g : G) : Prop :=
  ∀ (N : Nat) (cx : Cx) (μ : Mu) (a : Act) (w : World), Rel N cx μ s a w → ∃ v, RepV (cx.O s.st μ) cx.base w μ g v ∧ ∀ w', (execOp a.eval o).run P w' = .ok (.value v) w'

theorem PY.yield {o : Oper} {g : G} (h : PY P s o g) (W : List Nat) : Yield P W s o g := fun N cx μ a w hr =>
  let ⟨v, hv, hrun⟩ := h N cx μ a w hr
  ⟨v, hv, fun w' _ _ => hrun w'⟩

variable {dst : Option Tmp} {ty : TypeId} {pos : String} {after : Array Edge} {guard : Option (Nat × Bool)}

theorem PY.move {x : Operand} {g : G} (he : ev s x = some g) : PY P s ⟨dst, .move x, ty, pos, after, guard⟩ g := fun _ _ _ _ _ hr => ⟨_, hr.ev he, fun _ => rfl⟩
theorem PY.assign {x : Operand} {g : G} (he : ev s x = some g) : PY P s ⟨dst, .assign x, ty, pos, after, guard⟩ g := fun _ _ _ _ _ hr => ⟨_, hr.ev he, fun _ => rfl⟩

theorem PY.pickT {c x y : Operand} {g : G} (hc : ev s c = some (.val (.bool true))) (he : ev s x = some g) : PY P s ⟨dst, .pick c x y, ty, pos, after, guard⟩ g := fun _ _ _ _ _ hr => by
  refine ⟨_, hr.ev he, fun w' => ?_⟩
  have h1 := hr.val hc
  simp [execOp, h1, asBool]
theorem PY.pickF {c x y : Operand} {g : G} (hc : ev s c = some (.val (.bool false))) (he : ev s y = some g) : PY P s ⟨dst, .pick c x y, ty, pos, after, guard⟩ g := fun _ _ _ _ _ hr => by
  refine ⟨_, hr.ev he, fun w' => ?_⟩
  have h1 := hr.val hc
  simp [execOp, h1, asBool]

def binV : BinOp → Value → Value → Option Value
  | .add, .int k a, .int k' b => if k = k' then some (.int k (k.wrap (a + b))) else none
  | .sub, .int k a, .int k' b => if k = k' then some (.int k (k.wrap (a - b))) else none
  | .mul, .int k a, .int k' b => if k = k' then some (.int k (k.wrap (a * b))) else none
  | .eql, .int k a, .int k' b => if k = k' then some (.bool (a == b)) else none
  | .neq, .int k a, .int k' b => if k = k' then some (.bool (a != b)) else none
  | .lss, .int k a, .int k' b => if k = k' then some (.bool (decide (a < b))) else none
  | .leq, .int k a, .int k' b => if k = k' then some (.bool (decide (a ≤ b))) else none
  | .gtr, .int k a, .int k' b => if k = k' then some (.bool (decide (a > b))) else none
  | .geq, .int k a, .int k' b => if k = k' then some (.bool (decide (a ≥ b))) else none
  | .and, .int k a, .int k' b => if k = k' then some (.int k (k.wrap ((BitVec.ofInt k.bits a &&& BitVec.ofInt k.bits b).toNat : Int))) else none
  | .or, .int k a, .int k' b => if k = k' then some (.int k (k.wrap ((BitVec.ofInt k.bits a ||| BitVec.ofInt k.bits b).toNat : Int))) else none
  | .eql, .string a, .string b => some (.bool (a.toList == b.toList))
  | .neq, .string a, .string b => some (.bool (!(a.toList == b.toList)))
  | .lss, .string a, .string b => some (.bool (Op.bytesLess a.toList b.toList))
  | _, _, _ => none

theorem binV_run {op : BinOp} {x y r : Value} (h : binV op x y = some r) (t : TypeId) (xo yo : Operand) (w : World) : (do eqGuard op t xo yo x y; binOp op t x y : Sem Value).run P w = .ok r w := by
  unfold binV at h
  split at h <;> first
    | (split at h
       · rename_i hk; subst hk; cases h; simp [eqGuard, binOp, Op.intArith, Op.intCmp, Op.intBits]
       · cases h)
    | (cases h; simp [eqGuard, binOp, Op.stringOp])
    | cases h

theorem PY.bin {op : BinOp} {t t' : TypeId} {x y : Operand} {vx vy r : Value} (hx : ev s x = some (.val vx)) (hy : ev s y = some (.val vy)) (hr : binV op vx vy = some r) :
    PY P s ⟨dst, .binOp op t x y t', ty, pos, after, guard⟩ (.val r) := fun _ _ _ _ _ hrel => by
  refine ⟨r, .imm (.val r), fun w' => ?_⟩
  have := binV_run (P := P) hr t x y w'
  simp only [execOp, hrel.val hx, hrel.val hy, Sem.run_bind, this, Result.andThen_ok, Sem.run_pure]

theorem PY.quo {t t' : TypeId} {x y : Operand} {k : IntKind} {a b : Int} (hx : ev s x = some (.val (.int k a))) (hy : ev s y = some (.val (.int k b))) (hb : b ≠ 0) :
    PY P s ⟨dst, .binOp .quo t x y t', ty, pos, after, guard⟩ (.val (.int k (k.wrap (a.tdiv b)))) := fun _ _ _ _ _ hrel => by
  refine ⟨_, .imm (.val _), fun w' => ?_⟩
  simp [execOp, hrel.val hx, hrel.val hy, eqGuard, binOp, Op.intDiv, hb]
theorem PY.rem {t t' : TypeId} {x y : Operand} {k : IntKind} {a b : Int} (hx : ev s x = some (.val (.int k a))) (hy : ev s y = some (.val (.int k b))) (hb : b ≠ 0) :
    PY P s ⟨dst, .binOp .rem t x y t', ty, pos, after, guard⟩ (.val (.int k (a.tmod b))) := fun _ _ _ _ _ hrel => by
  refine ⟨_, .imm (.val _), fun w' => ?_⟩
  simp [execOp, hrel.val hx, hrel.val hy, eqGuard, binOp, Op.intDiv, hb]
theorem PY.shr {t t' : TypeId} {x y : Operand} {k k' : IntKind} {a b : Int} (hx : ev s x = some (.val (.int k a))) (hy : ev s y = some (.val (.int k' b))) (hb : 0 ≤ b) :
    PY P s ⟨dst, .binOp .shr t x y t', ty, pos, after, guard⟩ (.val (.int k (a.fdiv (2 ^ (min b.toNat k.bits))))) := fun _ _ _ _ _ hrel => by
  refine ⟨_, .imm (.val _), fun w' => ?_⟩
  simp [execOp, hrel.val hx, hrel.val hy, eqGuard, binOp, Op.shift, show ¬ b < 0 by omega]
theorem PY.shl {t t' : TypeId} {x y : Operand} {k k' : IntKind} {a b : Int} (hx : ev s x = some (.val (.int k a))) (hy : ev s y = some (.val (.int k' b))) (hb : 0 ≤ b) :
    PY P s ⟨dst, .binOp .shl t x y t', ty, pos, after, guard⟩ (.val (.int k (k.wrap (a * 2 ^ (min b.toNat k.bits))))) := fun _ _ _ _ _ hrel => by
  refine ⟨_, .imm (.val _), fun w' => ?_⟩
  simp [execOp, hrel.val hx, hrel.val hy, eqGuard, binOp, Op.shift, show ¬ b < 0 by omega]

def unV : UnOp → Value → Option Value
  | .not, .bool b => some (.bool (!b))
  | .neg, .int k a => some (.int k (k.wrap (0 - a)))
  | _, _ => none
theorem PY.un {op : UnOp} {t : TypeId} {x : Operand} {vx r : Value} (hx : ev s x = some (.val vx)) (hr : unV op vx = some r) :
    PY P s ⟨dst, .unOp op t x, ty, pos, after, guard⟩ (.val r) := fun _ _ _ _ _ hrel => by
  refine ⟨r, .imm (.val r), fun w' => ?_⟩
  unfold unV at hr
  split at hr <;> cases hr <;> simp [execOp, hrel.val hx, Op.unary, Op.intArith]

theorem PY.conv {t t' : TypeId} {x : Operand} {k k' : IntKind} {a : Int} {d : TypeDesc} (hx : ev s x = some (.val (.int k' a))) (hs : P.underlying t = some d) (ht : P.underlying t' = some (.int k)) :
    PY P s ⟨dst, .convert t t' x, ty, pos, after, guard⟩ (.val (.int k (k.wrap a))) := fun _ _ _ _ _ hrel => by
  refine ⟨_, .imm (.val _), fun w' => ?_⟩
  simp [execOp, hrel.val hx, convert, run_underlying hs, run_underlying ht, Conv.intToInt]
theorem PY.convS {t t' : TypeId} {x : Operand} {b : ByteArray} {d : TypeDesc} (hx : ev s x = some (.val (.string b))) (hs : P.underlying t = some d) (ht : P.underlying t' = some .string) :
    PY P s ⟨dst, .convert t t' x, ty, pos, after, guard⟩ (.val (.string b)) := fun _ _ _ _ _ hrel => by
  refine ⟨_, .imm (.val _), fun w' => ?_⟩
  simp [execOp, hrel.val hx, convert, run_underlying hs, run_underlying ht]

/-- How long. -/
def lenG : G → Option Int
  | .sl n _ => some n
  | .fr (.sl n _) => some n
  | .osl _ _ _ n => some n
  | .val (.slice none 0 0) => some 0
  | _ => none
theorem PY.len {t : TypeId} {x : Operand} {g : G} {n : Int} {e : TypeId} (hx : ev s x = some g) (hn : lenG g = some n) (ht : P.underlying t = some (.slice e)) :
    PY P s ⟨dst, .call ⟨.builtin .len, #[x], #[t]⟩, ty, pos, after, guard⟩ (.val (.int .i64 n)) := fun _ cx μ a w hrel => by
  refine ⟨_, .imm (.val _), fun w' => ?_⟩
  have h := hrel.ev hx
  have sl : ∀ (O : Nat → Prop) (n : Nat) (cells : List G) (v : Value), RepI O w (.sl n cells) v → ∃ b m c, v = .slice b m c ∧ m = n := by
    intro O n cells v h
    cases h with
    | nil => exact ⟨none, 0, 0, rfl, rfl⟩
    | emp a cap => exact ⟨some a, 0, cap, rfl, rfl⟩
    | sl _ _ b off cap => exact ⟨_, n, cap, rfl, rfl⟩
  have key : ∃ b m c, a.eval x = .slice b m c ∧ (m : Int) = n := by
    generalize a.eval x = v0 at h
    cases g with
    | sl n' cells =>
      cases hn
      cases h with
      | imm h => obtain ⟨b, m, c, e1, e2⟩ := sl _ _ _ _ h; exact ⟨b, m, c, e1, by rw [e2]⟩
    | fr g =>
      cases h with
      | imm h => cases h
      | fr h =>
        cases g with
        | sl n' cells => cases hn; obtain ⟨b, m, c, e1, e2⟩ := sl _ _ _ _ h; exact ⟨b, m, c, e1, by rw [e2]⟩
        | _ => cases hn
    | osl h' sz off n' =>
      cases hn
      cases h with
      | imm h => cases h
      | onil => exact ⟨none, 0, 0, rfl, rfl⟩
      | osl _ _ _ _ b m cap => exact ⟨_, n', cap, rfl, rfl⟩
      | ozero _ _ off0 b m _ _ => exact ⟨_, 0, 0, rfl, rfl⟩
    | val v =>
      cases h with
      | imm h =>
        cases h
        cases v0 with
        | slice b m c =>
          cases b with
          | none => cases m with
            | zero => cases c with
              | zero => cases hn; exact ⟨none, 0, 0, rfl, rfl⟩
              | succ c => cases hn
            | succ m => cases hn
          | some b => cases hn
        | _ => cases hn
    | _ => cases hn
  obtain ⟨b, m, c, e1, e2⟩ := key
  subst e2
  simp [execOp, resolve, invoke, builtin, Builtin.len_, e1, run_underlying ht, goInt]
theorem PY.lenS {t : TypeId} {x : Operand} {b : ByteArray} (hx : ev s x = some (.val (.string b))) (ht : P.underlying t = some .string) :
    PY P s ⟨dst, .call ⟨.builtin .len, #[x], #[t]⟩, ty, pos, after, guard⟩ (.val (.int .i64 b.size)) := fun _ _ _ a w hrel => by
  refine ⟨_, .imm (.val _), fun w' => ?_⟩
  simp [execOp, resolve, invoke, builtin, Builtin.len_, hrel.val hx, run_underlying ht, goInt]

theorem PY.min2 {ts : Array TypeId} {x y : Operand} {k k' : IntKind} {a b : Int} (hx : ev s x = some (.val (.int k a))) (hy : ev s y = some (.val (.int k' b))) :
    PY P s ⟨dst, .call ⟨.builtin .min, #[x, y], ts⟩, ty, pos, after, guard⟩ (.val (.int k (if b < a then b else a))) := fun _ _ _ _ _ hrel => by
  refine ⟨_, .imm (.val _), fun w' => ?_⟩
  simp [execOp, resolve, invoke, builtin, Builtin.min_, Builtin.min2, hrel.val hx, hrel.val hy]
theorem PY.max2 {ts : Array TypeId} {x y : Operand} {k k' : IntKind} {a b : Int} (hx : ev s x = some (.val (.int k a))) (hy : ev s y = some (.val (.int k' b))) :
    PY P s ⟨dst, .call ⟨.builtin .max, #[x, y], ts⟩, ty, pos, after, guard⟩ (.val (.int k (if b > a then b else a))) := fun _ _ _ _ _ hrel => by
  refine ⟨_, .imm (.val _), fun w' => ?_⟩
  simp [execOp, resolve, invoke, builtin, Builtin.max_, Builtin.max2, hrel.val hx, hrel.val hy]

theorem PY.extract {x : Operand} {i : Nat} {gs : List G} {g : G} (hx : ev s x = some (.tup gs)) (hg : gs[i]? = some g) : PY P s ⟨dst, .extract x i, ty, pos, after, guard⟩ g := fun _ _ _ a w hrel => by
  have h := hrel.ev hx
  generalize hv : a.eval x = v at h
  cases h with
  | imm h => cases h
  | tup _ us hl hr =>
    have hi : i < us.length := by
      have := (List.getElem?_eq_some_iff.1 hg).1
      omega
    refine ⟨us[i], hr i g us[i] hg (List.getElem?_eq_getElem hi), fun w' => ?_⟩
    simp [execOp, hv, Instr.extract, hi]

theorem Addr.add_off (b o n : Nat) : (⟨b, o, none⟩ : Addr).add n = ⟨b, o + n, none⟩ := by unfold Addr.add; split <;> simp_all

theorem RepI.ptr_drop {O : Nat → Prop} {w : World} {cells : List G} {b off : Nat} (n : Nat) (h : RepI O w (.ptr cells) (.pointer (some ⟨b, off, none⟩))) :
    RepI O w (.ptr (cells.drop n)) (.pointer (some ⟨b, off + n, none⟩)) := by
  cases h with
  | ptr _ _ _ us hO hb hc hr =>
    refine .ptr _ b (off + n) (fun j => us (n + j)) hO hb ?_ ?_
    · intro j hj
      rw [List.length_drop] at hj
      have := hc (n + j) (by omega)
      rw [← Nat.add_assoc] at this
      exact this
    · intro j g hg
      rw [List.getElem?_drop] at hg
      exact hr (n + j) g hg

/-- The address of a field. -/
def fieldG (off : Nat) : G → Option G
  | .loc h o => some (.loc h (o + off))
  | .ptr cs => some (.ptr (cs.drop off))
  | .fr (.ptr cs) => some (.fr (.ptr (cs.drop off)))
  | _ => none

theorem PY.field {t : TypeId} {x : Operand} {i sz : Nat} {fs : Array Field} {f : Field} {g g' : G} (hx : ev s x = some g) (hg : fieldG f.offset g = some g')
    (ht : P.underlying t = some (.struct fs)) (hf : fs[i]? = some f) (hsz : ∀ w, (sizeOf f.type).run P w = .ok sz w) (h0 : sz ≠ 0) :
    PY P s ⟨dst, .fieldAddr t x i, ty, pos, after, guard⟩ g' := fun _ cx μ a w hrel => by
  have h := hrel.ev hx
  have key : ∃ b o, a.eval x = .pointer (some ⟨b, o, none⟩) ∧ RepV (cx.O s.st μ) cx.base w μ g' (.pointer (some ⟨b, o + f.offset, none⟩)) := by
    generalize a.eval x = v at h
    cases g with
    | loc hh o =>
      cases hg
      cases h with
      | imm h => cases h
      | loc _ _ b m hm => exact ⟨b, o, rfl, .loc hh _ b m hm⟩
    | ptr cs =>
      cases hg
      cases h with
      | imm h =>
        cases h with
        | ptr _ b o us hO hb hc hr => exact ⟨b, o, rfl, .imm (RepI.ptr_drop _ (.ptr cs b o us hO hb hc hr))⟩
    | fr g =>
      cases h with
      | imm h => cases h
      | fr h =>
        cases g with
        | ptr cs =>
          cases hg
          cases h with
          | ptr _ b o us hO hb hc hr => exact ⟨b, o, rfl, .fr (RepI.ptr_drop _ (.ptr cs b o us hO hb hc hr))⟩
        | _ => cases hg
    | _ => cases hg
  obtain ⟨b, o, e1, e2⟩ := key
  refine ⟨_, e2, fun w' => ?_⟩
  simp [execOp, e1, Instr.fieldAt, Instr.sureAddr, run_underlying ht, hf, fieldPlace, hsz, h0, Addr.add_off]

/-- The address of an element. -/
def indexG (i : Nat) (sz : Nat) : G → Option (G × Nat)
  | .osl h sz' off n => if sz' = sz then some (.loc h (off + i * sz), n) else none
  | .sl n cs => some (.ptr (cs.drop (i * sz)), n)
  | .fr (.sl n cs) => some (.fr (.ptr (cs.drop (i * sz))), n)
  | _ => none
theorem PY.index {t e : TypeId} {x y : Operand} {sz : Nat} {k : IntKind} {i : Int} {n : Nat} {g g' : G} (hx : ev s x = some g) (hy : ev s y = some (.val (.int k i))) (hg : indexG i.toNat sz g = some (g', n))
    (h0 : 0 ≤ i) (hn : i < n) (ht : P.underlying t = some (.slice e)) (hsz : ∀ w, (sizeOf e).run P w = .ok sz w) :
    PY P s ⟨dst, .indexAddr t x y, ty, pos, after, guard⟩ g' := fun _ cx μ a w hrel => by
  have h := hrel.ev hx
  have sl : ∀ (O : Nat → Prop) (n : Nat) (cs : List G) (v : Value), i < n → RepI O w (.sl n cs) v → ∃ b o c, v = .slice (some ⟨b, o, none⟩) n c ∧ RepI O w (.ptr (cs.drop (i.toNat * sz))) (.pointer (some ⟨b, o + i.toNat * sz, none⟩)) := by
    intro O n cs v hn h
    cases h with
    | nil => omega
    | emp => omega
    | sl _ _ b o cap us hn hO hb hc hr => exact ⟨b, o, cap, rfl, RepI.ptr_drop _ (.ptr cs b o us hO hb hc hr)⟩
  have key : ∃ b o c, a.eval x = .slice (some ⟨b, o, none⟩) n c ∧ RepV (cx.O s.st μ) cx.base w μ g' (.pointer (some ⟨b, o + i.toNat * sz, none⟩)) := by
    generalize a.eval x = v at h
    cases g with
    | osl hh sz' o n' =>
      simp only [indexG] at hg
      split at hg
      · rename_i hs
        cases hg
        cases h with
        | imm h => cases h
        | onil _ _ hm => omega
        | ozero _ _ off0 b m hm _ => omega
        | osl _ _ _ _ b m cap hm hn hc => exact ⟨b, o, cap, rfl, .loc hh _ b m hm⟩
      · cases hg
    | sl n' cs =>
      cases hg
      cases h with
      | imm h => obtain ⟨b, o, c, e1, e2⟩ := sl _ _ _ _ hn h; exact ⟨b, o, c, e1, .imm e2⟩
    | fr g =>
      cases h with
      | imm h => cases h
      | fr h =>
        cases g with
        | sl n' cs => cases hg; obtain ⟨b, o, c, e1, e2⟩ := sl _ _ _ _ hn h; exact ⟨b, o, c, e1, .fr e2⟩
        | _ => cases hg
    | _ => cases hg
  obtain ⟨b, o, c, e1, e2⟩ := key
  refine ⟨_, e2, fun w' => ?_⟩
  simp [execOp, e1, hrel.val hy, Instr.indexAt, asIntOf, run_underlying ht, h0, hn, hsz, Addr.add_off]

theorem PY.strIndex {t : TypeId} {x y : Operand} {k : IntKind} {i : Int} {b : ByteArray} {c : UInt8} (hx : ev s x = some (.val (.string b))) (hy : ev s y = some (.val (.int k i)))
    (h0 : 0 ≤ i) (hc : b[i.toNat]? = some c) (ht : P.underlying t = some .string) :
    PY P s ⟨dst, .index t x y, ty, pos, after, guard⟩ (.val (.int .u8 c.toNat)) := fun _ cx μ a w hrel => by
  refine ⟨_, .imm (.val _), fun w' => ?_⟩
  simp [execOp, hrel.val hx, hrel.val hy, Instr.index, asIntOf, run_underlying ht, h0, hc]

theorem PY.makeFunc {f : FuncId} {caps : Array Operand} {gs : List G} (hc : caps.toList.map (ev s) = gs.map some) : PY P s ⟨dst, .makeFunc (.func f) #[] caps, ty, pos, after, guard⟩ (.clo f gs) := fun _ cx μ a w hrel => by
  refine ⟨.func (.func f) #[] (caps.toList.map a.eval).toArray, .clo f gs _ ?_ ?_, fun w' => ?_⟩
  · have := congrArg List.length hc; simpa using this
  · intro j g v hg hv
    have h1 : (caps.toList.map (AM.ev s))[j]? = some (some g) := by rw [hc, List.getElem?_map, hg]; rfl
    rw [List.getElem?_map] at h1 hv
    cases hcj : caps.toList[j]? with
    | none => rw [hcj] at hv; cases hv
    | some x =>
      rw [hcj] at h1 hv
      simp only [Option.map_some, Option.some.injEq] at h1 hv
      subst hv
      exact hrel.ev h1
  · simp only [execOp, Instr.makeFunc, Sem.run_bind, Sem.run_pure, Result.andThen_ok, Array.map_empty]
    congr 3
    rw [← Array.toList_map]
end
end Go.AM
