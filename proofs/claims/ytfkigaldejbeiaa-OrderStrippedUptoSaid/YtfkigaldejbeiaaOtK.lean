/-
  Orders: the plain law: a statement in strips does the same at the same points in the same order.
-/
import Derived.Test.YtfkigaldejbeiaaOtJ
import Derived.Test.YtfkigaldejbeiaaOtS
set_option linter.unusedSectionVars false
set_option linter.unusedSimpArgs false
set_option linter.unusedVariables false
namespace Go.DN
open Go.AM
def dot : List Int → List Int → Int
 | c :: cs, x :: xs => c * x + dot cs xs
 | _, _ => 0
theorem sumT_shift (t : Nat → Int) : ∀ n, sumT t (n + 1) = t 0 + sumT (fun i => t (i + 1)) n
 | 0 => by simp [sumT]
 | n + 1 => by
  have := sumT_shift t n
  show sumT t (n + 1) + t (n + 1) = t 0 + (sumT (fun i => t (i + 1)) n + t (n + 1))
  omega
theorem sumT_dot : ∀ (c x : List Int), c.length = x.length → sumT (fun i => c.getD i 0 * x.getD i 0) c.length = dot c x
 | [], [], _ => rfl
 | c :: cs, x :: xs, h => by
  rw [List.length_cons, sumT_shift]
  have := sumT_dot cs xs (by simpa using h)
  simp only [List.getD_cons_zero, List.getD_cons_succ, dot]
  omega
theorem dot_append : ∀ (a u b v : List Int), a.length = u.length → dot (a ++ b) (u ++ v) = dot a u + dot b v
 | [], [], b, v, _ => by simp [dot]
 | c :: a, x :: u, b, v, h => by
  have := dot_append a u b v (by simpa using h)
  simp only [List.cons_append, dot, this]
  omega
theorem dot_zero : ∀ (n : Nat) (x : List Int), dot (List.replicate n 0) x = 0
 | 0, _ => by simp [dot]
 | n + 1, [] => by simp [List.replicate_succ, dot]
 | n + 1, y :: x => by simp [List.replicate_succ, dot, dot_zero n x]
theorem atV_dot {r : SRow} {x : List Int} (h : r.Coef.length = x.length) : atV r x = r.Const + dot r.Coef x := by
 unfold atV
 rw [sumT_dot _ _ h]
def splitX (k : Nat) (z : Int) (x : List Int) : List Int := x.take k ++ x.getD k 0 / z :: x.getD k 0 % z :: x.drop (k + 1)
theorem cut {l : List Int} {k : Nat} (h : k < l.length) : ∃ a c b, l = a ++ c :: b ∧ a.length = k ∧ l.take k = a ∧ l.getD k 0 = c ∧ l.drop k = c :: b ∧ l.drop (k + 1) = b := by
  refine ⟨l.take k, l.getD k 0, l.drop (k + 1), ?_, by rw [List.length_take]; omega, rfl, rfl, ?_, rfl⟩
  · conv => lhs; rw [← List.take_append_drop k l, List.drop_eq_getElem_cons h]
    rw [List.getD_eq_getElem?_getD, List.getElem?_eq_getElem h]; rfl
  · rw [List.drop_eq_getElem_cons h, List.getD_eq_getElem?_getD, List.getElem?_eq_getElem h]; rfl
theorem at_split {r : SRow} {x : List Int} {k : Nat} {z : Int} (hl : r.Coef.length = x.length) (hk : k < x.length) (hc : ∀ c ∈ r.Coef, -1048576 ≤ c ∧ c ≤ 1048576) (hz1 : 1 ≤ z) (hz2 : z ≤ 4096) :
  atV (Pl.stripR k z r) (splitX k z x) = atV r x := by
 obtain ⟨a, c, b, e1, e2, e3, e4, e5, e6⟩ := cut (l := r.Coef) (k := k) (by omega)
 obtain ⟨u, y, v, f1, f2, f3, f4, f5, f6⟩ := cut (l := x) (k := k) (by omega)
 have hcr := hc c (by rw [e1]; simp)
 have hw : IntKind.i64.wrap (c * z) = c * z := by
  have := mul_ran2 hcr (x := z) ⟨by omega, hz2⟩
  exact i64 (by omega) (by omega)
 have hbv : b.length = v.length := by
  have := hl
  rw [e1, f1] at this
  simp only [List.length_append, List.length_cons] at this
  omega
 have hS : (Pl.stripR k z r).Coef = a ++ (c * z) :: c :: b := by
  show Pl.stripL r.Coef k z = _
  unfold Pl.stripL
  rw [e3, e4, e5, hw]; simp
 have hX : splitX k z x = u ++ y / z :: y % z :: v := by unfold splitX; rw [f3, f4, f6]
 rw [atV_dot (by rw [hS, hX]; simp only [List.length_append, List.length_cons]; omega), atV_dot hl, hS, hX, e1, f1, dot_append _ _ _ _ (by omega), dot_append _ _ _ _ (by omega)]
 show r.Const + _ = _
 simp only [dot]
 have := Int.mul_ediv_add_emod y z
 have h2 : c * y = c * z * (y / z) + c * (y % z) := by
  conv => lhs; rw [← this]
  rw [Int.mul_add, Int.mul_assoc]
 omega
theorem at_last (B1 B2 u v : List Int) (w z i j : Int) (hu : u.length = B1.length) (hv : v.length = B2.length) :
  atV ⟨Pl.lastC (B1 ++ w :: B2).length B1.length z, w - 1⟩ (u ++ i :: j :: v) = w - 1 - z * i - j := by
 have hS : Pl.lastC (B1 ++ w :: B2).length B1.length z = List.replicate B1.length 0 ++ -z :: -1 :: List.replicate B2.length 0 := by
  unfold Pl.lastC
  have : (B1 ++ w :: B2).length - B1.length - 1 = B2.length := by simp only [List.length_append, List.length_cons]; omega
  rw [this]; simp
 rw [atV_dot (by show (Pl.lastC _ _ _).length = _; rw [hS]; simp only [List.length_append, List.length_cons, List.length_replicate]; omega)]
 show w - 1 + dot (Pl.lastC _ _ _) _ = _
 rw [hS, dot_append _ _ _ _ (by rw [List.length_replicate]; omega), dot_zero]
 simp only [dot, dot_zero, Int.neg_mul]
 omega
theorem ext_pre : ∀ (r pre : List Int), ext r pre = (ext r []).map (pre ++ ·)
 | [], pre => by simp [ext]
 | n :: r, pre => by
  simp only [ext, List.map_flatMap]
  congr 1
  funext i
  rw [ext_pre r (pre ++ [(i : Int)]), ext_pre r ([] ++ [(i : Int)]), List.map_map]
  congr 1
  funext x
  simp
theorem ext_app : ∀ (a b pre : List Int), ext (a ++ b) pre = (ext a pre).flatMap fun u => ext b u
 | [], b, pre => by simp [ext]
 | n :: a, b, pre => by
  simp only [List.cons_append, ext, List.flatMap_assoc]
  congr 1
  funext i
  exact ext_app a b _
theorem flat_congr {α β : Type} {l : List α} {f g : α → List β} (h : ∀ a ∈ l, f a = g a) : l.flatMap f = l.flatMap g := by
 induction l with
 | nil => rfl
 | cons a l ih => rw [List.flatMap_cons, List.flatMap_cons, h a List.mem_cons_self, ih fun b hb => h b (List.mem_cons_of_mem _ hb)]
theorem range_strips {β : Type} (z : Nat) (hz : 0 < z) (f : Nat → Nat → List β) : ∀ c, ((List.range c).flatMap fun i => (List.range z).flatMap fun j => f i j) = (List.range (c * z)).flatMap fun a => f (a / z) (a % z)
 | 0 => by simp
 | c + 1 => by
  rw [List.range_succ, List.flatMap_append, range_strips z hz f c, Nat.succ_mul, List.range_add, List.flatMap_append, List.flatMap_singleton, List.flatMap_map]
  congr 1
  refine flat_congr fun j hj => ?_
  have hj : j < z := List.mem_range.1 hj
  have e1 : (c * z + j) / z = c := by
   rw [Nat.mul_comm, Nat.mul_add_div hz, Nat.div_eq_of_lt hj, Nat.add_zero]
  have e2 : (c * z + j) % z = j := by rw [Nat.mul_comm, Nat.mul_add_mod, Nat.mod_eq_of_lt hj]
  rw [e1, e2]
theorem all_congr' {α : Type} {f g : α → Bool} : ∀ {l : List α}, (∀ a ∈ l, f a = g a) → l.all f = l.all g
 | [], _ => rfl
 | a :: l, h => by
  rw [List.all_cons, List.all_cons, h a List.mem_cons_self, all_congr' fun b hb => h b (List.mem_cons_of_mem _ hb)]
theorem sat_strip {s : SStmt} (g : Good s.Over) {B1 B2 u v : List Int} {w z : Int} (hb : s.Over.Box = B1 ++ w :: B2) (hz1 : 1 ≤ z) (hz2 : z ≤ 4096) (hu : u.length = B1.length) (hv : v.length = B2.length) (a : Int) :
    sat (Pl.stripS s B1.length z).Over (u ++ a / z :: a % z :: v) = (decide (a < w) && sat s.Over (u ++ a :: v)) := by
  have hx : splitX B1.length z (u ++ a :: v) = u ++ a / z :: a % z :: v := by
    unfold splitX
    have e1 : (u ++ a :: v).take B1.length = u := by rw [← hu, List.take_left']; rfl
    have e2 : (u ++ a :: v).getD B1.length 0 = a := by rw [← hu, List.getD_eq_getElem?_getD]; simp
    have e3 : (u ++ a :: v).drop (B1.length + 1) = v := by rw [← hu, ← List.drop_drop, List.drop_left' rfl]; rfl
    rw [e1, e2, e3]
  have hlen : (u ++ a :: v).length = s.Over.Box.length := by rw [hb]; simp only [List.length_append, List.length_cons]; omega
  have hL : s.Over.Box.getD B1.length 0 = w := by rw [hb, List.getD_eq_getElem?_getD]; simp
  show ((s.Over.Rows.map (Pl.stripR B1.length z) ++ [(⟨Pl.lastC s.Over.Box.length B1.length z, s.Over.Box.getD B1.length 0 - 1⟩ : SRow)]).all _) = _
  rw [List.all_append, List.all_map, hL, hb, Bool.and_comm]
  congr 1
  · simp only [List.all_cons, List.all_nil, Bool.and_true]
    rw [at_last B1 B2 u v w z _ _ hu hv]
    have := Int.mul_ediv_add_emod a z
    congr 1
    exact propext ⟨fun h => by omega, fun h => by omega⟩
  · unfold sat
    refine all_congr' fun r hr => ?_
    obtain ⟨r1, r2, r3⟩ := g.row r hr
    show decide (0 ≤ atV (Pl.stripR B1.length z r) _) = _
    rw [← hx, at_split (by rw [r1, hlen]) (by rw [hlen, hb]; simp only [List.length_append, List.length_cons]; omega) r3 hz1 hz2]
theorem pts_strip {s : SStmt} (g : Good s.Over) {k : Nat} {z : Int} (hk : k < s.Over.Box.length) (hz1 : 1 ≤ z) (hz2 : z ≤ 4096) :
    pts (Pl.stripS s k z).Over = (pts s.Over).map (splitX k z) := by
  obtain ⟨B1, w, B2, e1, rfl, e3, e4, e5, e6⟩ := cut hk
  have hw := g.box w (by rw [e1]; simp)
  obtain ⟨W, rfl⟩ : ∃ W : Nat, w = W := ⟨w.toNat, by omega⟩
  obtain ⟨Z, rfl⟩ : ∃ Z : Nat, z = Z := ⟨z.toNat, by omega⟩
  have hbox : (Pl.stripS s B1.length Z).Over.Box = B1 ++ Pl.strips W Z :: (Z : Int) :: B2 := by
    show Pl.newBox _ _ _ = _
    unfold Pl.newBox
    rw [e3, e4, e6]; simp
  have hst : Pl.strips W Z = (((W + Z - 1) / Z : Nat) : Int) := by
    unfold Pl.strips
    rw [show (W : Int) + (Z : Int) - 1 = ((W + Z - 1 : Nat) : Int) by omega]
    rfl
  generalize hc : (W + Z - 1) / Z = c at hst
  have hcz : W ≤ c * Z := by
    have h1 := Nat.div_add_mod (W + Z - 1) Z
    have h2 := Nat.mod_lt (W + Z - 1) (show Z > 0 by omega)
    rw [hc, Nat.mul_comm] at h1
    omega
  unfold pts
  rw [hbox, hst, e1, ext_app, ext_app, List.filter_flatMap, List.filter_flatMap, List.map_flatMap]
  refine flat_congr fun u hu => ?_
  obtain ⟨u, rfl, hub⟩ := mem_ext.1 hu
  have hul := hub.len
  have hin : ∀ i j : Nat, ext B2 (u ++ [(i : Int)] ++ [(j : Int)]) = (ext B2 []).map fun v => u ++ (i : Int) :: (j : Int) :: v := fun i j => by
    rw [ext_pre]
    congr 1
    funext v
    simp
  have hin1 : ∀ i : Nat, ext B2 (u ++ [(i : Int)]) = (ext B2 []).map fun v => u ++ (i : Int) :: v := fun i => by
    rw [ext_pre]
    congr 1
    funext v
    simp
  simp only [ext, Int.toNat_natCast, hin, hin1]
  rw [range_strips Z (by omega) (fun i j => (ext B2 []).map fun v => u ++ (i : Int) :: (j : Int) :: v) c, List.filter_flatMap, List.filter_flatMap, List.map_flatMap]
  obtain ⟨d, hd⟩ : ∃ d, c * Z = W + d := ⟨c * Z - W, by omega⟩
  rw [hd, List.range_add, List.flatMap_append]
  have hrow : ∀ a : Nat, ((ext B2 []).map fun v => u ++ ((a / Z : Nat) : Int) :: ((a % Z : Nat) : Int) :: v).filter (sat (Pl.stripS s B1.length Z).Over) = if a < W then (((ext B2 []).map fun v => u ++ (a : Int) :: v).filter (sat s.Over)).map (splitX B1.length Z) else [] := fun a => by
    rw [List.filter_map, List.filter_map, List.map_map]
    have hf : (ext B2 []).filter (sat (Pl.stripS s B1.length Z).Over ∘ fun v => u ++ ((a / Z : Nat) : Int) :: ((a % Z : Nat) : Int) :: v) = (ext B2 []).filter (fun v => decide ((a : Int) < (W : Int)) && sat s.Over (u ++ (a : Int) :: v)) := by
      refine List.filter_congr fun v hv => ?_
      obtain ⟨v, rfl, hvb⟩ := mem_ext.1 hv
      have := sat_strip g e1 hz1 hz2 hul hvb.len (a : Int)
      exact this
    rw [hf]
    by_cases h : a < W
    · rw [if_pos h]
      have : decide ((a : Int) < (W : Int)) = true := by simpa using h
      simp only [this, Bool.true_and]
      refine List.map_congr_left fun v _ => ?_
      show u ++ ((a / Z : Nat) : Int) :: ((a % Z : Nat) : Int) :: v = splitX B1.length Z (u ++ (a : Int) :: v)
      unfold splitX
      rw [← hul]
      have e1 : (u ++ (a : Int) :: v).take u.length = u := by rw [List.take_left']; rfl
      have e2 : (u ++ (a : Int) :: v).getD u.length 0 = a := by rw [List.getD_eq_getElem?_getD]; simp
      have e3 : (u ++ (a : Int) :: v).drop (u.length + 1) = v := by rw [← List.drop_drop, List.drop_left' rfl]; rfl
      rw [e1, e2, e3]
      rfl
    · rw [if_neg h]
      have : decide ((a : Int) < (W : Int)) = false := by simp; omega
      simp only [this, Bool.false_and]
      rw [List.filter_eq_nil_iff.2 (fun _ _ h => by cases h)]
      rfl
  have h1 : ((List.range W).flatMap fun (a : Nat) => ((ext B2 []).map fun v => u ++ ((a / Z : Nat) : Int) :: ((a % Z : Nat) : Int) :: v).filter (sat (Pl.stripS s B1.length Z).Over)) = (List.range W).flatMap fun (a : Nat) => (((ext B2 []).map fun v => u ++ (a : Int) :: v).filter (sat s.Over)).map (splitX B1.length Z) := flat_congr fun a ha => by
    rw [hrow, if_pos (List.mem_range.1 ha)]
  have h2 : (((List.range d).map (W + ·)).flatMap fun (a : Nat) => ((ext B2 []).map fun v => u ++ ((a / Z : Nat) : Int) :: ((a % Z : Nat) : Int) :: v).filter (sat (Pl.stripS s B1.length Z).Over)) = [] := by
    rw [List.flatMap_eq_nil_iff]
    intro a ha
    obtain ⟨j, _, rfl⟩ := List.mem_map.1 ha
    rw [hrow, if_neg (by omega)]
  rw [h1, h2, List.append_nil]
theorem doM_strip {n : SNest} {s : SStmt} (g : GoodS n s) {k : Nat} {z : Int} (hk : k < s.Over.Box.length) (hz1 : 1 ≤ z) (hz2 : z ≤ 4096) {x : List Int} (hx : x.length = s.Over.Box.length) (m : List (List Int)) :
  doM (Pl.stripS s k z) (splitX k z x) m = doM s x m := by
 have hat : ∀ a : SAccess, rowW a.At s.Over.Box.length = 0 → atV (Pl.stripR k z a.At) (splitX k z x) = atV a.At x := fun a ha => by
  obtain ⟨h1, h2, h3⟩ := rowW_zero ha
  exact at_split (by omega) (by omega) h3 hz1 hz2
 have hput := hat s.Put g.put.row
 have hget : (Pl.stripS s k z).Get.map (fun a => getM m a (splitX k z x)) = s.Get.map fun a => getM m a x := by
  show (s.Get.map (Pl.stripA k z)).map _ = _
  rw [List.map_map]
  refine List.map_congr_left fun a ha => ?_
  have h := hat a (g.get a ha).row
  show (if 0 ≤ atV (Pl.stripR k z a.At) (splitX k z x) ∧ atV (Pl.stripR k z a.At) (splitX k z x) < (rowM m a).length then (rowM m a).getD (atV (Pl.stripR k z a.At) (splitX k z x)).toNat 0 else 0) = if 0 ≤ atV a.At x ∧ atV a.At x < (rowM m a).length then (rowM m a).getD (atV a.At x).toNat 0 else 0
  rw [h]
 show (if 0 ≤ atV (Pl.stripR k z s.Put.At) (splitX k z x) ∧ atV (Pl.stripR k z s.Put.At) (splitX k z x) < (rowM m s.Put).length then m.set s.Put.Array.toNat ((rowM m s.Put).set (atV (Pl.stripR k z s.Put.At) (splitX k z x)).toNat (numV (Pl.stripS s k z) ((Pl.stripS s k z).Get.map fun a => getM m a (splitX k z x)) ((rowM m s.Put).getD (atV (Pl.stripR k z s.Put.At) (splitX k z x)).toNat 0))) else m) = if 0 ≤ atV s.Put.At x ∧ atV s.Put.At x < (rowM m s.Put).length then m.set s.Put.Array.toNat ((rowM m s.Put).set (atV s.Put.At x).toNat (numV s (s.Get.map fun a => getM m a x) ((rowM m s.Put).getD (atV s.Put.At x).toNat 0))) else m
 rw [hget, hput]
 rfl
def allM (s : SStmt) (m : List (List Int)) : List (List Int) := (pts s.Over).foldl (fun m a => doM s a m) m
theorem foldl_congr' {α σ : Type} {f g : σ → α → σ} : ∀ {l : List α}, (∀ a ∈ l, ∀ m, f m a = g m a) → ∀ m, l.foldl f m = l.foldl g m
 | [], _, _ => rfl
 | a :: l, h, m => by
  rw [List.foldl_cons, List.foldl_cons, h a List.mem_cons_self]
  exact foldl_congr' (fun b hb => h b (List.mem_cons_of_mem _ hb)) _
theorem allM_strip {n : SNest} {s : SStmt} (g : GoodS n s) {k : Nat} {z : Int} (hk : k < s.Over.Box.length) (hz1 : 1 ≤ z) (hz2 : z ≤ 4096) (m : List (List Int)) : allM (Pl.stripS s k z) m = allM s m := by
 unfold allM
 rw [pts_strip g.over hk hz1 hz2, List.foldl_map]
 exact foldl_congr' (fun x hx m => doM_strip g hk hz1 hz2 (pts_mem g.over hx).2 m) m
theorem stepS_all {n : SNest} : ∀ (l : List SStmt), (∀ s ∈ l, GoodS n s) → ∀ m : Mem n, (l.foldl stepS m).1 = l.foldl (fun m s => allM s m) m.1
 | [], _, _ => rfl
 | s :: l, h, m => by
  rw [List.foldl_cons, List.foldl_cons, stepS_all l (fun t ht => h t (List.mem_cons_of_mem _ ht)), stepS_fold (h s List.mem_cons_self)]
  rfl
theorem fold_set {α σ : Type} (f : σ → α → σ) : ∀ (l : List α) (i : Nat) (s t : α), l[i]? = some s → (∀ m, f m t = f m s) → ∀ m, (l.set i t).foldl f m = l.foldl f m
 | [], _, _, _, h, _, _ => by simp at h
 | a :: l, 0, s, t, h, e, m => by
  simp at h
  subst h
  rw [List.set_cons_zero, List.foldl_cons, List.foldl_cons, e]
 | a :: l, i + 1, s, t, h, e, m => by
  rw [List.set_cons_succ, List.foldl_cons, List.foldl_cons]
  exact fold_set f l i s t (by simpa using h) e _
end Go.DN
