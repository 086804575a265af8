/-
  AM, first half: a machine whose heap is told by handles.
-/
import Derived.WalkKit
import Derived.Deep.LoopGhost
import Derived.TacticsIn
import Derived.OrdersHeld
import Derived.OrdersIn
import Derived.RangeFuncRecord
import Derived.Great.BuildSlice
set_option linter.unusedSectionVars false
set_option linter.unusedSimpArgs false
set_option linter.unusedVariables false
namespace Go
abbrev aa:=@Option.bind_some
abbrev ab:=@Nat.eq_of_beq_eq_true
abbrev af:=@Bool.and_eq_true
abbrev ag:=@List.getElem?_eq_getElem
abbrev ah:=@List.length_singleton
abbrev ai:=@List.getElem?_eq_some_iff
abbrev aj:=@List.mem_of_getElem?
abbrev ak:=@List.getElem?_map
abbrev ap:=@List.mem_cons_of_mem
abbrev ar:=@List.mem_cons_self
abbrev az:=@Option.map_eq_some_iff
abbrev aG:=@Nat.le_refl
abbrev aI:=@List.length_append
abbrev aN:=@List.length_map
abbrev aR:=@List.append_assoc
abbrev aS:=@Bool.not_eq_true'
abbrev aW:=@Nat.beq_refl
abbrev bc:=@List.map_cons
abbrev bf:=@List.mem_cons
abbrev bi:=@Bool.or_eq_false_iff
abbrev bo:=@List.getElem?_take
abbrev bq:=@Array.getElem?_toList
abbrev br:=@List.length_take
abbrev bu:=@List.eq_nil_of_length_eq_zero
abbrev bE:=@List.getElem?_drop
abbrev bF:=@Bool.false_eq_true
abbrev bK:=@List.take_length
abbrev bL:=@List.length_cons
abbrev bM:=@List.append_nil
abbrev bO:=@Int.toNat_natCast
abbrev bS:=@List.getElem?_append
abbrev bU:=@List.cons_append
abbrev bV:=@List.getElem?_eq_none
abbrev bW:=@Nat.mul_le_mul_right
abbrev bY:=@List.mem_append_left
abbrev bZ:=@List.getD_eq_getElem?_getD
abbrev b6:=@List.flatMap_cons
abbrev b9:=@Array.length_toList
abbrev cd:=@Option.map_some
abbrev cf:=@List.length_drop
abbrev ct:=@List.mem_append_right
abbrev cz:=@List.foldl_cons
abbrev cA:=@List.getElem?_of_mem
abbrev cF:=@Bool.or_false
abbrev cJ:=@Nat.lt_of_lt_of_le
abbrev cK:=@Nat.le_trans
abbrev cM:=@List.drop_eq_getElem_cons
abbrev c8:=@List.mem_singleton
abbrev da:=@Nat.zero_add
abbrev db:=@List.forall_mem_cons
abbrev dj:=@List.take_of_length_le
abbrev dl:=@List.mem_append
abbrev dr:=@List.getElem?_range
abbrev du:=@List.ext_getElem?
abbrev dA:=@List.take_zero
abbrev dB:=@List.all_eq_true
abbrev dN:=@List.getElem?_set
abbrev dO:=@Go.RowKit.Below.heap_alloc
abbrev dT:=@List.findSome?_cons
abbrev dV:=@Option.some.inj
abbrev dW:=@List.map_append
abbrev eo:=@List.foldl_append
abbrev eK:=@Bool.or_eq_true
abbrev eL:=@List.getElem?_append_left
abbrev eZ:=@List.foldl_nil
abbrev fc:=@List.mem_map
abbrev ff:=@Nat.add_mul
abbrev fh:=@List.map_congr_left
abbrev fj:=@Bool.not_true
abbrev fk:=@List.set_eq_take_append_cons_drop
abbrev fA:=@List.mem_of_mem_take
abbrev fK:=@Nat.le_of_ble_eq_true
abbrev fP:=@List.length_set
abbrev fQ:=@List.getElem_mem
abbrev fV:=@List.any_eq_false
abbrev fW:=@Bool.false_or
abbrev fZ:=@Nat.add_zero
abbrev gx:=@List.mem_range
abbrev gD:=@Int.toNat_of_nonneg
abbrev gG:=@Nat.blt_eq
abbrev gH:=@List.contains_iff_mem
abbrev gJ:=@Nat.zero_mul
abbrev gR:=@Array.getElem?_setIfInBounds_ne
abbrev gU:=@List.nodup_iff_pairwise_ne
abbrev gV:=@List.getElem?_append_right
abbrev gW:=@List.drop_zero
abbrev gX:=@Array.getElem?_eq_some_iff
abbrev ij:=@Bool.and_self
abbrev iu:=@Array.toList_map
abbrev iz:=@List.pairwise_iff_getElem
abbrev iH:=@Int.mul_nonneg
abbrev iN:=@Nat.min_eq_left
abbrev iO:=@List.map_map
abbrev iQ:=@Bool.false_ne_true
abbrev iV:=@Nat.zero_le
abbrev iW:=@List.mem_of_mem_drop
abbrev iX:=@List.getElem?_cons_zero
abbrev iY:=@Int.le_refl
abbrev jm:=@List.length_range
abbrev jn:=@Bool.not_false
abbrev jD:=@List.nil_append
abbrev jE:=@List.length_nil
abbrev jP:=@Nat.eq_zero_or_pos
abbrev jQ:=@List.drop_length
abbrev jZ:=@Bool.and_true
abbrev j9:=@Int.mul_le_mul_of_nonneg_left
abbrev km:=@Option.some.injEq
abbrev ko:=@List.getElem?_replicate
abbrev kq:=@List.getElem?_cons_succ
abbrev kQ:=@List.mem_map_of_mem
abbrev kV:=@Nat.mul_comm
abbrev lh:=@List.cons.inj
abbrev lC:=@List.findSome?_eq_none_iff
abbrev mg:=@Classical.byContradiction
abbrev mn:=@Bool.eq_iff_iff
abbrev mT:=@Nat.lt_irrefl
abbrev mU:=@List.any_cons
abbrev nI:=@Int.one_mul
abbrev nP:=@List.map_set
abbrev ov:=@List.nodup_cons
abbrev oL:=@List.take_append_drop
abbrev oM:=@List.length_replicate
abbrev pg:=@Nat.mul_one
abbrev ph:=@Nat.div_lt_of_lt_mul
abbrev pi:=@Int.mul_le_mul
abbrev pW:=@List.mem_flatMap
abbrev qj:=@List.flatMap_append
abbrev qt:=@Prod.mk.injEq
abbrev qu:=@Bool.true_and
abbrev qI:=@List.range_succ
abbrev rN:=@List.map_nil
end Go
/-
 AM,part A:a heap-abstracted machine:values,readings,states,the relation to the model's world. Over any program.
-/
namespace Go.AM
inductive G where
 | val (v:Value)
 | sl (n:Nat) (cells:List G)
 | ptr (cells:List G)
 | agg (cells:List G)
 | bB (vs:List G)
 | loc (h off:Nat)
 | aL (h sz off n:Nat)
 | ba (f:FuncId) (caps:List G)
 | cW (h:Nat)
 | kp (h i off:Nat)
 | ks (h i sz n:Nat)
 | eN (h:Nat)
 | fr (g:G)
 | dw (b:Bool)
 | any
 deriving Inhabited
structure Lp where
 fn:FuncId
 N:Nat
 aw:List Nat
 ps:Array Tmp
 assign:Code
 body:Code
 nU:Option Code
abbrev Mm:=Nat×List (Option (Nat×Nat))
abbrev Mu:=Nat→Option (Nat×Mm)
def In (b c:Nat) (m:Mm):Prop:=b=c∨∃n,some (b,n)∈m.2
theorem In.self (b:Nat) (m:Mm):In b b m:=.inl rfl
theorem In.plain {b c n:Nat}:In b c (n,[])↔b=c:=by
 refine⟨fun h=>?_,.inl⟩;rcases h with h | ⟨_,h⟩
 ·exact h
 ·cases h
def U5:Value→Option Bool
 | .iface ..=>some true
 | .nilIface=>some false
 | _=>none
inductive bH (O:Nat→Prop) (w:World):G→Value→Prop
 | any (v:Value):bH O w .any v
 | val (v:Value):bH O w (.val v) v
 | dw (b:Bool) (v:Value) (hb:U5 v=some b):bH O w (.dw b) v
 | nil:bH O w (.sl 0 []) (.slice none 0 0)
 | jb (a:Addr) (cap:Nat):bH O w (.sl 0 []) (.slice (some a) 0 cap)
 | sl (n:Nat) (cells:List G) (b off cap:Nat) (us:Nat→Value) (hn:n≤cap) (hO:¬O b) (hb:b<w.heap.size)
   (hc:∀j,j<cells.length→w.cell? ⟨b,off+j,none⟩=some (us j)) (hr:∀(j:Nat) (g:G),cells[j]?=some g→bH O w g (us j)):
   bH O w (.sl n cells) (.slice (some ⟨b,off,none⟩) n cap)
 | ptr (cells:List G) (b off:Nat) (us:Nat→Value) (hO:¬O b) (hb:b<w.heap.size)
   (hc:∀j,j<cells.length→w.cell? ⟨b,off+j,none⟩=some (us j)) (hr:∀(j:Nat) (g:G),cells[j]?=some g→bH O w g (us j)):
   bH O w (.ptr cells) (.pointer (some ⟨b,off,none⟩))
 | agg (cells:List G) (us:List Value) (hl:us.length=cells.length) (hr:∀(j:Nat) (g:G) (v:Value),cells[j]?=some g→us[j]?=some v→bH O w g v):
   bH O w (.agg cells) (.agg us.toArray)
structure Kept (O:Nat→Prop) (w w':World):Prop where
 size:w.heap.size≤w'.heap.size
 block:∀b,b<w.heap.size→¬O b→w'.heap[b]?=w.heap[b]?
theorem Kept.refl (O:Nat→Prop) (w:World):Kept O w w:=⟨aG _,fun _ _ _=>rfl⟩
def Qv:Obj→Bool
 | .cells ..=>true
 | _=>false
def Gq (cs:Array Value):Prop:=cs=((List.range 20).map fun i=>Value.int .u64 ((10^i:Nat):Int)).toArray
def tG:List Nat:=[]
def Wp:List (Nat×(Array Value→Prop)):=[(0,Gq)]
structure iM (Z:Nat→Prop) (w w':World):Prop where
 size:w'.heap.size=w.heap.size
 block:∀b,w'.heap[b]?=w.heap[b]?∨(Z b∧∃o,w.heap[b]?=some o∧Qv o=false)
 os:w'.os=w.os
 tape:w'.tape=w.tape
 output:w'.output=w.output
structure Dp where
 φ:(Nat→Prop)→World→Nat→Mm→Prop
 jb:Prop
 mono:∀{O O':Nat→Prop}{w w':World}{b:Nat}{m:Mm},φ O w b m→Kept O w w'→(∀x,x<w.heap.size→¬O x→¬O' x)→(∀x,In x b m→w'.heap[x]?=w.heap[x]?)→φ O' w' b m
 shut:∀{O Z:Nat→Prop}{w w':World}{b:Nat}{m:Mm},φ O w b m→iM Z w w'→(∀x,In x b m→¬Z x)→φ O w' b m
 live:∀{O:Nat→Prop}{w:World}{b:Nat}{m:Mm},φ O w b m→∀x,In x b m→x<w.heap.size
 row:Nat→Option (List G):=fun _=>none
 Lr:∀{i:Nat}{gs:List G},row i=some gs→gs≠[]:=by intro _ _ h;cases h
 PN:∀{O:Nat→Prop}{w:World}{b:Nat}{m:Mm}{i:Nat}{gs:List G},φ O w b m→row i=some gs→∃c k cs bI,m.2[i]?=some (some (c,k))∧w.heap[c]?=some (.cells cs bI (0,0))∧∀(j:Nat) (g:G),gs[j]?=some g→∃v,cs[j]?=some v∧bH O w g v:=by intro _ _ _ _ _ _ _ h;cases h
inductive Kd where
 | loop (lp:Lp)
 | deep (d:Dp)
structure av where
 bI:TypeId
 pure:Bool
 ew:Bool
 fresh:Bool
 sz:Nat
 cells:List G
 lp:Option Kd
structure St where
 fr:List (Nat×G)
 st:List (Nat×av)
 df:List G
def get:List (Nat×G)→Nat→Option G
 | [],_=>none
 | (k,g)::r,t=>bif Nat.beq k t then some g else get r t
def ay:List (Nat×av)→Nat→Option av
 | [],_=>none
 | (k,g)::r,t=>bif Nat.beq k t then some g else ay r t
def dF:List (Nat×av)→Nat→av→List (Nat×av)
 | [],_,_=>[]
 | (k,g)::r,t,b=>bif Nat.beq k t then(k,b)::r else(k,g)::dF r t b
theorem s4 {st:List (Nat×av)}{h:Nat}{b k:av}(hb:ay st h=some k):ay (dF st h b) h=some b:=by
 induction st with
 | nil=>cases hb
 | cons x r ih=>
  obtain⟨y,g⟩:=x;simp only[ay,dF] at hb⊢;cases hy:Nat.beq y h with
  | true=>simp[ay,hy]
  | false=>simp only[hy,cond_false] at hb⊢;simp only[ay,hy,cond_false];exact ih hb
theorem oT {st:List (Nat×av)}{h h':Nat}{b:av}(hne:h'≠h):ay (dF st h b) h'=ay st h':=by
 induction st with
 | nil=>rfl
 | cons x r ih=>
  obtain⟨y,g⟩:=x;simp only[ay,dF];cases hy:Nat.beq y h with
  | true=>
   have:y=h:=ab hy;subst this;have h2:Nat.beq y h'=false:=by
    cases h3:Nat.beq y h' with
    | false=>rfl
    | true=>exact absurd (ab h3).symm hne
   simp[ay,h2]
  | false=>simp only[cond_false,ay,ih]
theorem dm {st:List (Nat×av)}{h h':Nat}{b k k':av}(hk:ay st h=some k) (hs:ay (dF st h b) h'=some k'):
  (h'=h∧k'=b)∨(h'≠h∧ay st h'=some k'):=by
 by_cases e:h'=h
 ·subst e;rw[s4 hk] at hs;exact .inl ⟨rfl,(dV hs).symm⟩
 ·rw[oT e] at hs;exact .inr ⟨e,hs⟩
theorem bH.mono {O O':Nat→Prop}{w w':World}{g:G}{v:Value}(h:bH O w g v)
  (hk:Kept O w w') (hO:∀b,b<w.heap.size→¬O b→¬O' b):bH O' w' g v:=by
 induction h with
 | any v=>exact .any v
 | val v=>exact .val v
 | dw b v h=>exact .dw b v h
 | nil=>exact .nil
 | jb a cap=>exact .jb a cap
 | sl n cells b off cap us hn hO1 hb1 hc hr ih=>
  exact .sl n cells b off cap us hn (hO b hb1 hO1) (cJ hb1 hk.size)
   (fun j hj=>by rw[World.cell?_of_block (w:=w) (hk.block b hb1 hO1)];exact hc j hj) ih
 | ptr cells b off us hO1 hb1 hc hr ih=>
  exact .ptr cells b off us (hO b hb1 hO1) (cJ hb1 hk.size)
   (fun j hj=>by rw[World.cell?_of_block (w:=w) (hk.block b hb1 hO1)];exact hc j hj) ih
 | agg cells us hl hr ih=>exact .agg cells us hl ih
def ir (O:Nat→Prop) (base:Nat):Nat→Prop:=fun b=>b<base∨O b
def IT:Nat:=9223372036854775808
def sE (f:FuncId) (us:List Value):Value:=match tG.contains f with
 | true=>.func (.func f) us.toArray #[]
 | false=>.func (.func f) #[] us.toArray
theorem VE (f:FuncId):sE f []=.func (.func f) #[] #[]:=by unfold sE;cases tG.contains f <;> rfl
theorem IC (f:FuncId) (us:List Value):∃A B,sE f us=.func (.func f) A B∧A++B=us.toArray∧(tG.contains f=false→A=#[])∧(tG.contains f=true→B=#[]):=by
 unfold sE;cases tG.contains f with
 | true=>exact⟨_,_,rfl,by simp,(fun h=>by cases h),fun _=>rfl⟩
 | false=>exact⟨_,_,rfl,by simp,(fun _=>rfl),fun h=>by cases h⟩
def vu {α:Type}(f:FuncId) (xs:List α):Bool:=match xs with
 | []=>true
 | _::_=>!(tG.contains f)
inductive aU (O:Nat→Prop) (base:Nat) (w:World) (μ:Mu):G→Value→Prop
 | aF {g:G}{v:Value}(h:bH O w g v):aU O base w μ g v
 | fr {g:G}{v:Value}(h:bH (ir O base) w g v):aU O base w μ (.fr g) v
 | loc (h off b:Nat) (m:Mm) (hm:μ h=some (b,m)):aU O base w μ (.loc h off) (.pointer (some ⟨b,off,none⟩))
 | gk (h sz:Nat) (hm:μ h=none):aU O base w μ (.aL h sz 0 0) (.slice none 0 0)
 | aL (h sz off n b:Nat) (m:Mm) (cap:Nat) (hm:μ h=some (b,m)) (hn:n≤cap) (hc:off+cap*sz=m.1):aU O base w μ (.aL h sz off n) (.slice (some ⟨b,off,none⟩) n cap)
 | fq (h sz off0 b m:Nat){ks:List (Option (Nat×Nat))}(hm:μ h=some (b,m,ks)) (hpos:0<m):aU O base w μ (.aL h sz m 0) (.slice (some ⟨b,off0,none⟩) 0 0)
 | agg (cells:List G) (us:List Value) (hl:us.length=cells.length) (hr:∀(j:Nat) (g:G) (v:Value),cells[j]?=some g→us[j]?=some v→aU O base w μ g v):
   aU O base w μ (.agg cells) (.agg us.toArray)
 | bB (cells:List G) (us:List Value) (hl:us.length=cells.length) (hr:∀(j:Nat) (g:G) (v:Value),cells[j]?=some g→us[j]?=some v→aU O base w μ g v):
   aU O base w μ (.bB cells) (.tuple us.toArray)
 | ba (f:FuncId) (caps:List G) (us:List Value) (hl:us.length=caps.length) (hr:∀(j:Nat) (g:G) (v:Value),caps[j]?=some g→us[j]?=some v→aU O base w μ g v):
   aU O base w μ (.ba f caps) (sE f us)
 | cW (h b:Nat) (m:Mm) (hm:μ h=some (b,m)):aU O base w μ (.cW h) (.func (.yield b) #[] #[])
 | kp (h i off b:Nat) (m:Mm) (c n:Nat) (hm:μ h=some (b,m)) (hk:m.2[i]?=some (some (c,n))):aU O base w μ (.kp h i off) (.pointer (some ⟨c,off,none⟩))
 | mh (h i sz:Nat) (x:Option Addr) (cap:Nat) (hi:i=IT→x=none∧cap=0):aU O base w μ (.ks h i sz 0) (.slice x 0 cap)
 | ks (h i sz n b:Nat) (m:Mm) (c k cap:Nat) (hm:μ h=some (b,m)) (hk:m.2[i]?=some (some (c,k))) (hn:n≤cap) (hc:cap*sz=k):aU O base w μ (.ks h i sz n) (.slice (some ⟨c,0,none⟩) n cap)
 | eN (h b:Nat) (m:Mm) (hm:μ h=some (b,m)):aU O base w μ (.eN h) (.map (some b))
theorem bH.Ot {O:Nat→Prop}{base:Nat}{w:World}{g:G}{v:Value}(h:bH (ir O base) w g v):bH O w g v:=
 h.mono (Kept.refl _ _) (fun _ _ hn ho=>hn (.inr ho))
theorem aU.mono {O O':Nat→Prop}{base base':Nat}{w w':World}{μ:Mu}{g:G}{v:Value}(h:aU O base w μ g v)
  (hk:Kept O w w') (hO:∀b,b<w.heap.size→¬O b→¬O' b) (hb:base'≤base):aU O' base' w' μ g v:=by
 induction h with
 | aF h=>exact .aF (h.mono hk hO)
 | fr h=>
  refine .fr (h.mono ⟨hk.size,fun b hb hn=>hk.block b hb fun ho=>hn (.inr ho)⟩ ?_);intro b hb1 hn ho;rcases ho with ho | ho
  ·exact hn (.inl (by omega))
  ·exact hO b hb1 (fun h=>hn (.inr h)) ho
 | loc h off b m hm=>exact .loc h off b m hm
 | gk h sz hm=>exact .gk h sz hm
 | aL h sz off n b m cap hm hn hc=>exact .aL h sz off n b m cap hm hn hc
 | fq h sz off0 b m hm hpos=>exact .fq h sz off0 b m hm hpos
 | agg cells us hl hr ih=>exact .agg cells us hl ih
 | bB cells us hl hr ih=>exact .bB cells us hl ih
 | ba f caps us hl hr ih=>exact .ba f caps us hl ih
 | cW h b m hm=>exact .cW h b m hm
 | kp h i off b m c n hm hk=>exact .kp h i off b m c n hm hk
 | mh h i sz x cap hi=>exact .mh h i sz x cap hi
 | ks h i sz n b m c k cap hm hk hn hc=>exact .ks h i sz n b m c k cap hm hk hn hc
 | eN h b m hm=>exact .eN h b m hm
def G.cv (k:Nat):G→Bool
 | .loc h _=>Nat.beq h k
 | .aL h _ _ _=>Nat.beq h k
 | .agg cs=>go cs
 | .bB cs=>go cs
 | .ba _ cs=>go cs
 | .cW h=>Nat.beq h k
 | .kp h _ _=>Nat.beq h k
 | .ks h _ _ _=>Nat.beq h k
 | .eN h=>Nat.beq h k
 | _=>false
where go:List G→Bool
 | []=>false
 | g::r=>g.cv k||go r
theorem G.rC {k:Nat}{cs:List G}{g:G}(hg:g∈cs) (h:g.cv k=true):G.cv.go k cs=true:=by
 induction cs with
 | nil=>cases hg
 | cons x r ih=>
  simp only[G.cv.go,eK];cases hg with
  | head=>exact .inl h
  | tail _ hm=>exact .inr (ih hm)
def Ext (x y:Option (Nat×Mm)):Prop:=y=x∨∃b n l l',x=some (b,n,l)∧y=some (b,n,l++l')
theorem Ext.get {x y:Option (Nat×Mm)}(h:Ext x y){b:Nat}{m:Mm}(hx:x=some (b,m)):∃m':Mm,y=some (b,m')∧m'.1=m.1∧(∀(i:Nat) (c:Option (Nat×Nat)),m.2[i]?=some c→m'.2[i]?=some c):=by
 rcases h with h | ⟨b',n,l,l',h1,h2⟩
 ·exact⟨m,h.trans hx,rfl,fun i c h=>h⟩
 ·rw[hx] at h1;cases h1;exact⟨(n,l++l'),h2,rfl,fun i c h=>by
   have hl:i<l.length:=(ai.1 h).1;show(l++l')[i]?=some c;rw[eL hl];exact h⟩
theorem Ext.nil {x y:Option (Nat×Mm)}(h:Ext x y) (hx:x=none):y=none:=by
 rcases h with h | ⟨b',n,l,l',h1,h2⟩
 ·exact h.trans hx
 ·rw[hx] at h1;cases h1
theorem Ext.YI {x y:Option (Nat×Mm)}(h:Ext x y){b c:Nat}{m:Mm}(hx:x=some (c,m)) (hi:In b c m):∃m',y=some (c,m')∧In b c m':=by
 rcases h with h | ⟨b',n,l,l',h1,h2⟩
 ·exact⟨m,h.trans hx,hi⟩
 ·rw[hx] at h1;cases h1;exact⟨_,h2,hi.imp id fun ⟨k,hk⟩=>⟨k,bY _ hk⟩⟩
def wP (base:Nat) (x y:Option (Nat×Mm)):Prop:=y=x∨∃b n l l',x=some (b,n,l)∧y=some (b,n,l++l')∧∀c k,some (c,k)∈l'→base≤c∨∃k',some (c,k')∈l
theorem wP.ext {base:Nat}{x y:Option (Nat×Mm)}(h:wP base x y):Ext x y:=h.imp id fun ⟨b,n,l,l',h1,h2,_⟩=>⟨b,n,l,l',h1,h2⟩
theorem wP.trans {base base':Nat}{x y z:Option (Nat×Mm)}(h:wP base x y) (h':wP base' y z) (hb:base≤base'):wP base x z:=by
 rcases h' with h' | ⟨b,n,l,l',h1,h2,h3⟩
 ·rw[h'];exact h
 ·rcases h with h | ⟨b2,n2,m,m',g1,g2,g3⟩
  ·exact .inr ⟨b,n,l,l',h.symm.trans h1,h2,fun c k hc=>(h3 c k hc).imp (fun h=>cK hb h) id⟩
  ·rw[g2] at h1;cases h1;refine .inr ⟨b,n,m,m'++l',g1,by rw[h2,aR],fun c k hc=>?_⟩;rcases dl.1 hc with hc | hc
   ·exact g3 c k hc
   ·rcases h3 c k hc with h | ⟨k',h⟩
    ·exact .inl (cK hb h)
    ·rcases dl.1 h with h | h
     ·exact .inr ⟨k',h⟩
     ·exact g3 c k' h
theorem wP.YI {base:Nat}{x y:Option (Nat×Mm)}(h:wP base x y){b c:Nat}{m':Mm}(hy:y=some (c,m')) (hi:In b c m'):base≤b∨∃m,x=some (c,m)∧In b c m:=by
 rcases h with h | ⟨b',n,l,l',h1,h2,h3⟩
 ·exact .inr ⟨m',h.symm.trans hy,hi⟩
 ·rw[hy] at h2;cases h2;rcases hi with hi | ⟨k,hk⟩
  ·exact .inr ⟨_,h1,.inl hi⟩
  ·rcases dl.1 hk with hk | hk
   ·exact .inr ⟨_,h1,.inr ⟨k,hk⟩⟩
   ·rcases h3 b k hk with h | ⟨k',h⟩
    ·exact .inl h
    ·exact .inr ⟨_,h1,.inr ⟨k',h⟩⟩
theorem aU.qA {O:Nat→Prop}{base:Nat}{w:World}{μ μ':Mu}{g:G}{v:Value}(h:aU O base w μ g v)
  (hμ:∀k,g.cv k=true→Ext (μ k) (μ' k)):aU O base w μ' g v:=by
 induction h with
 | aF h=>exact .aF h
 | fr h=>exact .fr h
 | loc h off b m hm=>let ⟨m',h1,_⟩:=(hμ h (by simp[G.cv])).get hm;exact .loc h off b m' h1
 | gk h sz hm=>exact .gk h sz ((hμ h (by simp[G.cv])).nil hm)
 | aL h sz off n b m cap hm hn hc=>let ⟨m',h1,h2,_⟩:=(hμ h (by simp[G.cv])).get hm;exact .aL h sz off n b m' cap h1 hn (by rw[h2];exact hc)
 | @fq h sz off0 b m ks hm hpos=>
  obtain⟨⟨m1,ks'⟩,h1,h2,_⟩:=(hμ h (by simp[G.cv])).get hm;have h2:m1=m:=h2;subst h2;exact .fq h sz off0 b m1 h1 hpos
 | agg cells us hl hr ih=>
  exact .agg cells us hl fun j g v hg hv=>ih j g v hg hv fun k hk=>hμ k (by
   simp only[G.cv];exact G.rC (aj hg) hk)
 | bB cells us hl hr ih=>
  exact .bB cells us hl fun j g v hg hv=>ih j g v hg hv fun k hk=>hμ k (by
   simp only[G.cv];exact G.rC (aj hg) hk)
 | ba f cells us hl hr ih=>
  exact .ba f cells us hl fun j g v hg hv=>ih j g v hg hv fun k hk=>hμ k (by
   simp only[G.cv];exact G.rC (aj hg) hk)
 | cW h b m hm=>let ⟨m',h1,_⟩:=(hμ h (by simp[G.cv])).get hm;exact .cW h b m' h1
 | kp h i off b m c n hm hk=>let ⟨m',h1,_,h3⟩:=(hμ h (by simp[G.cv])).get hm;exact .kp h i off b m' c n h1 (h3 i _ hk)
 | mh h i sz x cap hi=>exact .mh h i sz x cap hi
 | ks h i sz n b m c k cap hm hk hn hc=>let ⟨m',h1,_,h3⟩:=(hμ h (by simp[G.cv])).get hm;exact .ks h i sz n b m' c k cap h1 (h3 i _ hk) hn hc
 | eN h b m hm=>let ⟨m',h1,_⟩:=(hμ h (by simp[G.cv])).get hm;exact .eN h b m' h1
theorem aU.gS {O:Nat→Prop}{base:Nat}{w:World}{μ μ':Mu}{g:G}{v:Value}(h:aU O base w μ g v)
  (hμ:∀k,g.cv k=true→μ' k=μ k):aU O base w μ' g v:=h.qA fun k hk=>.inl (hμ k hk)
end Go.AM
/-
 AM,part B:the relation of a state to a frame and a world;judgments;the rules of control.
-/
namespace Go.AM
structure Cx where
 X:Nat→Prop
 A:Nat→Prop
 base:Nat
 w0:World
 ro:Option Nat
 fD:Mu
def pinned (h:Nat):Bool:=Nat.ble 1000 h
def Own (st:List (Nat×av)) (μ:Mu) (b:Nat):Prop:=∃h k c m,ay st h=some k∧μ h=some (c,m)∧In b c m
theorem Own.root {st:List (Nat×av)}{μ:Mu}{h b:Nat}{k:av}{m:Mm}(h1:ay st h=some k) (h2:μ h=some (b,m)):Own st μ b:=⟨h,k,b,m,h1,h2,.self b m⟩
def Cx.O (cx:Cx) (st:List (Nat×av)) (μ:Mu):Nat→Prop:=fun b=>cx.X b∨Own st μ b
def cZ (O:Nat→Prop) (base:Nat) (w:World) (μ:Mu) (k:av) (g:G) (v:Value):Prop:=
 match k.pure with
 | true=>bH (bif k.fresh then ir O base else O) w g v
 | false=>aU O base w μ g v
theorem cZ.mono {O O':Nat→Prop}{base:Nat}{w w':World}{μ:Mu}{k:av}{g:G}{v:Value}(h:cZ O base w μ k g v)
  (hk:Kept O w w') (hO:∀b,b<w.heap.size→¬O b→¬O' b):cZ O' base w' μ k g v:=by
 unfold cZ at *;cases hp:k.pure with
 | false=>rw[hp] at h;exact aU.mono h hk hO (aG _)
 | true=>
  rw[hp] at h;cases hf:k.fresh with
  | false=>rw[hf] at h;exact bH.mono h hk hO
  | true=>
   rw[hf] at h;refine bH.mono h ⟨hk.size,fun b hb hn=>hk.block b hb fun ho=>hn (.inr ho)⟩ ?_;intro b hb1 hn ho;rcases ho with ho | ho
   ·exact hn (.inl ho)
   ·exact hO b hb1 (fun h=>hn (.inr h)) ho
def av.out (k:av):G→G
 | .val v=>.val v
 | g=>bif k.pure&&k.fresh then .fr g else g
theorem cZ.out {O:Nat→Prop}{base:Nat}{w:World}{μ:Mu}{k:av}{g:G}{v:Value}(h:cZ O base w μ k g v):aU O base w μ (k.out g) v:=by
 have key:aU O base w μ (bif k.pure&&k.fresh then .fr g else g) v:=by
  unfold cZ at h;cases hp:k.pure with
  | false=>rw[hp] at h;exact h
  | true=>
   rw[hp] at h;cases hf:k.fresh with
   | false=>rw[hf] at h;exact .aF h
   | true=>rw[hf] at h;exact .fr h
 cases g with
 | val u=>
  show aU O base w μ (.val u) v;unfold cZ at h;cases hp:k.pure with
  | false=>rw[hp] at h;exact h
  | true=>rw[hp] at h;dsimp only at h;cases h;exact .aF (.val _)
 | _=>exact key
def Dt (O:Nat→Prop) (base:Nat) (w:World) (μ:Mu) (k:av) (lp:Lp) (b:Nat):Prop:=
 ∃(D:Nat×FuncId) (vs:Array Value),w.heap[b]?=some (.loop {state:=if lp.nU.isNone then .ready else .done,pending:=lp.nU,fn:=D.2,tmps:=vs,params:=lp.ps,assign:=lp.assign,body:=lp.body,defers:=D.1})∧
  vs.size=lp.N∧k.ew=false∧k.pure=false∧∀(j t:Nat) (g:G),lp.aw[j]?=some t→k.cells[j]?=some g→∃v,vs[t]?=some v∧aU O base w μ g v
def Hu (O:Nat→Prop) (base:Nat) (w:World) (k:av) (d:Dp) (b:Nat) (m:Mm):Prop:=
 d.φ (bif k.fresh then ir O base else O) w b m∧k.pure=true∧k.cells=[]∧(k.ew=true→base≤b)
def aV (O:Nat→Prop) (base:Nat) (w:World) (μ:Mu) (k:av):Option (Nat×Mm)→Prop
 | none=>k.cells=[]∧match k.lp with
  | none=>True
  | some (.loop _)=>False
  | some (.deep d)=>d.jb∧k.pure=true
 | some (b,m)=>match k.lp with
  | none=>m.2=[]∧∃cs:Array Value,w.heap[b]?=some (.cells cs k.bI (0,0))∧cs.size=m.1∧k.cells.length≤m.1∧(k.ew=true→base≤b)∧(k.sz≠0→m.1≤maxLen*k.sz)∧
   ∀(j:Nat) (g:G),k.cells[j]?=some g→∃v,cs[j]?=some v∧cZ O base w μ k g v
  | some (.loop lp)=>Dt O base w μ k lp b
  | some (.deep d)=>Hu O base w k d b m
theorem aV.nil {O:Nat→Prop}{base:Nat}{w:World}{μ:Mu}{k:av}(h1:k.cells=[]) (h2:k.lp=none):aV O base w μ k none:=⟨h1,by rw[h2];trivial⟩
theorem aV.yL {O O':Nat→Prop}{base base':Nat}{w w':World}{μ μ':Mu}{k k':av}(h:aV O base w μ k none) (h1:k'.cells=k.cells) (h2:k'.lp=k.lp) (h3:k'.pure=k.pure):aV O' base' w' μ' k' none:=by
 unfold aV at h⊢;rw[h1,h2,h3];exact h
theorem aV.deep {O:Nat→Prop}{base:Nat}{w:World}{μ:Mu}{k:av}{d:Dp}{b:Nat}{m:Mm}(hl:k.lp=some (.deep d)):aV O base w μ k (some (b,m))↔Hu O base w k d b m:=by
 unfold aV;rw[hl]
theorem aV.loop {O:Nat→Prop}{base:Nat}{w:World}{μ:Mu}{k:av}{lp:Lp}{b:Nat}{m:Mm}(hl:k.lp=some (.loop lp)):aV O base w μ k (some (b,m))↔Dt O base w μ k lp b:=by
 unfold aV;rw[hl]
theorem ir.mono {O O':Nat→Prop}{base:Nat}{w w':World}{f:Bool}(hk:Kept O w w') (hO:∀b,b<w.heap.size→¬O b→¬O' b):
  Kept (bif f then ir O base else O) w w'∧∀b,b<w.heap.size→¬(bif f then ir O base else O) b→¬(bif f then ir O' base else O') b:=by
 cases f with
 | false=>exact⟨hk,hO⟩
 | true=>
  refine⟨⟨hk.size,fun b hb hn=>hk.block b hb fun ho=>hn (.inr ho)⟩,fun b hb1 hn ho=>?_⟩;rcases ho with ho | ho
  ·exact hn (.inl ho)
  ·exact hO b hb1 (fun h=>hn (.inr h)) ho
theorem Hu.mono {O O':Nat→Prop}{base:Nat}{w w':World}{k:av}{d:Dp}{b:Nat}{m:Mm}(h:Hu O base w k d b m)
  (hb:∀x,In x b m→w'.heap[x]?=w.heap[x]?) (hk:Kept O w w') (hO:∀b,b<w.heap.size→¬O b→¬O' b):Hu O' base w' k d b m:=by
 obtain⟨h1,h2,h3,h4⟩:=h;obtain⟨a1,a2⟩:=ir.mono (f:=k.fresh) (base:=base) hk hO;exact⟨d.mono h1 a1 a2 hb,h2,h3,h4⟩
theorem aV.cells {O:Nat→Prop}{base:Nat}{w:World}{μ:Mu}{k:av}{b:Nat}{m:Mm}(h:aV O base w μ k (some (b,m))) (hl:k.lp=none):
  ∃cs:Array Value,w.heap[b]?=some (.cells cs k.bI (0,0))∧cs.size=m.1∧k.cells.length≤m.1∧(k.ew=true→base≤b)∧(k.sz≠0→m.1≤maxLen*k.sz)∧
   ∀(j:Nat) (g:G),k.cells[j]?=some g→∃v,cs[j]?=some v∧cZ O base w μ k g v:=by
 unfold aV at h;rw[hl] at h;exact h.2
theorem aV.nf {O:Nat→Prop}{base:Nat}{w:World}{μ:Mu}{k:av}{b:Nat}{m:Mm}(h:aV O base w μ k (some (b,m))) (hl:k.lp=none):m.2=[]:=by
 unfold aV at h;rw[hl] at h;exact h.1
theorem aV.mk {O:Nat→Prop}{base:Nat}{w:World}{μ:Mu}{k:av}{b:Nat}{m:Mm}(hl:k.lp=none) (hk:m.2=[])
  (h:∃cs:Array Value,w.heap[b]?=some (.cells cs k.bI (0,0))∧cs.size=m.1∧k.cells.length≤m.1∧(k.ew=true→base≤b)∧(k.sz≠0→m.1≤maxLen*k.sz)∧
   ∀(j:Nat) (g:G),k.cells[j]?=some g→∃v,cs[j]?=some v∧cZ O base w μ k g v):aV O base w μ k (some (b,m)):=by
 unfold aV;rw[hl];exact⟨hk,h⟩
theorem aV.heap {O:Nat→Prop}{base:Nat}{w:World}{μ:Mu}{k:av}{b:Nat}{m:Mm}(h:aV O base w μ k (some (b,m))):
  (∃o,w.heap[b]?=some o)∧(k.ew=true→base≤b):=by
 cases hl:k.lp with
 | none=>obtain⟨cs,h1,_,_,h2,_⟩:=h.cells hl;exact⟨⟨_,h1⟩,h2⟩
 | some kd=>
  cases kd with
  | loop lp=>
   obtain⟨D,vs,h1,_,h2,_⟩:=(aV.loop hl).1 h;exact⟨⟨_,h1⟩,fun h=>by rw[h2] at h;cases h⟩
  | deep d=>
   obtain⟨h1,_,_,h4⟩:=(aV.deep hl).1 h;exact⟨⟨_,Array.getElem?_eq_getElem (d.live h1 b (.self b m))⟩,h4⟩
theorem aV.mono {O O':Nat→Prop}{base:Nat}{w w':World}{μ:Mu}{k:av}{x:Option (Nat×Mm)}(h:aV O base w μ k x)
  (hb:∀b m,x=some (b,m)→∀y,In y b m→w'.heap[y]?=w.heap[y]?) (hk:Kept O w w') (hO:∀b,b<w.heap.size→¬O b→¬O' b):aV O' base w' μ k x:=by
 cases x with
 | none=>exact h.yL rfl rfl rfl
 | some bm=>
  obtain⟨b,m⟩:=bm;have hbb:=hb b m rfl b (.self b m);cases hl:k.lp with
  | none=>
   obtain⟨cs,h2,h3,h4,h6,h8,h5⟩:=h.cells hl;exact .mk hl (h.nf hl) ⟨cs,hbb.trans h2,h3,h4,h6,h8,fun j g hg=>let ⟨v,hv,hr⟩:=h5 j g hg;⟨v,hv,hr.mono hk hO⟩⟩
  | some kd=>
   cases kd with
   | loop lp=>
    obtain⟨D,vs,h1,h2,h3,h4,h5⟩:=(aV.loop hl).1 h;exact(aV.loop hl).2 ⟨D,vs,hbb.trans h1,h2,h3,h4,fun j t g ht hg=>let ⟨v,hv,hr⟩:=h5 j t g ht hg;⟨v,hv,hr.mono hk hO (aG _)⟩⟩
   | deep d=>exact(aV.deep hl).2 (((aV.deep hl).1 h).mono (hb b m rfl) hk hO)
theorem aV.qA {O:Nat→Prop}{base:Nat}{w:World}{μ μ':Mu}{k:av}{x:Option (Nat×Mm)}(h:aV O base w μ k x)
  (hμ:k.pure=false→∀g,g∈k.cells→∀y,g.cv y=true→Ext (μ y) (μ' y)):aV O base w μ' k x:=by
 cases x with
 | none=>exact h
 | some bm=>
  obtain⟨b,m⟩:=bm;cases hl:k.lp with
  | none=>
   obtain⟨cs,h2,h3,h4,h6,h8,h5⟩:=h.cells hl;refine .mk hl (h.nf hl) ⟨cs,h2,h3,h4,h6,h8,fun j g hg=>?_⟩;obtain⟨v,hv,hr⟩:=h5 j g hg;refine⟨v,hv,?_⟩;unfold cZ at hr⊢;cases hp:k.pure with
   | true=>rw[hp] at hr;exact hr
   | false=>rw[hp] at hr;exact aU.qA hr (hμ hp g (aj hg))
  | some kd=>
   cases kd with
   | loop lp=>
    obtain⟨D,vs,h1,h2,h3,h4,h5⟩:=(aV.loop hl).1 h;exact(aV.loop hl).2 ⟨D,vs,h1,h2,h3,h4,fun j t g ht hg=>let ⟨v,hv,hr⟩:=h5 j t g ht hg;⟨v,hv,hr.qA (hμ h4 g (aj hg))⟩⟩
   | deep d=>exact(aV.deep hl).2 ((aV.deep hl).1 h)
theorem aV.gS {O:Nat→Prop}{base:Nat}{w:World}{μ μ':Mu}{k:av}{x:Option (Nat×Mm)}(h:aV O base w μ k x)
  (hμ:k.pure=false→∀g,g∈k.cells→∀y,g.cv y=true→μ' y=μ y):aV O base w μ' k x:=h.qA fun hp g hg y hy=>.inl (hμ hp g hg y hy)
def IZ (A:Nat→Prop) (base:Nat) (w:World):Prop:=∀p,p∈Wp→p.1<base∧¬A p.1∧∃cs e f,w.heap[p.1]?=some (.cells cs e f)∧p.2 cs
structure cI (cx:Cx) (μ:Mu) (st:List (Nat×av)) (w:World):Prop where
 en:∀h k,ay st h=some k→aV (cx.O st μ) cx.base w μ k (μ h)
 de:∀h h' k k' x b m b' m',ay st h=some k→ay st h'=some k'→μ h=some (b,m)→μ h'=some (b',m')→In x b m→In x b' m'→h=h'
 cq:∀h k b m x,ay st h=some k→μ h=some (b,m)→In x b m→¬cx.X x∧(cx.base≤x∨cx.A x)∧x<w.heap.size∧(k.ew=true→cx.base≤x)
 fD:∀h k,ay st h=some k→pinned h=true→wP cx.base (cx.fD h) (μ h)
 fg:∀b,cx.X b→b<cx.base
 hb:cx.base≤w.heap.size
 os:w.os=cx.w0.os
 tape:w.tape=cx.w0.tape
 output:w.output=cx.w0.output
 dq:∀b,b<cx.base→¬cx.A b→w.heap[b]?=cx.w0.heap[b]?
 gl:IZ cx.A cx.base cx.w0
theorem cI.inj {cx:Cx}{μ:Mu}{st:List (Nat×av)}{w:World}(hr:cI cx μ st w):∀h h' k k' b m m',ay st h=some k→ay st h'=some k'→μ h=some (b,m)→μ h'=some (b,m')→h=h':=
 fun h h' k k' b m m' h1 h2 h3 h4=>hr.de h h' k k' b b m b m' h1 h2 h3 h4 (.self b m) (.self b m')
theorem cI.Wo {cx:Cx}{μ:Mu}{st:List (Nat×av)}{w:World}(hr:cI cx μ st w){A:Nat→Prop}(hA:∀b,A b→cx.base≤b∨cx.A b):IZ A w.heap.size w:=fun p hp=>by
 obtain⟨h1,h2,cs,e,f,h3,h4⟩:=hr.gl p hp;refine⟨cJ h1 hr.hb,fun ha=>?_,cs,e,f,(hr.dq p.1 h1 h2).trans h3,h4⟩;rcases hA _ ha with h | h
 ·omega
 ·exact h2 h
theorem cI.out {cx:Cx}{μ:Mu}{st:List (Nat×av)}{w:World}(hr:cI cx μ st w):∀h k b m,ay st h=some k→μ h=some (b,m)→¬cx.X b∧(cx.base≤b∨cx.A b):=
 fun h k b m h1 h2=>let ⟨a,b,_⟩:=hr.cq h k b m b h1 h2 (.self b m);⟨a,b⟩
inductive iG (O:Nat→Prop) (base:Nat) (w:World) (μ:Mu):List Deferred→List G→Prop
 | nil:iG O base w μ [] []
 | mark {D:Nat}{ds:List Deferred}{gs:List G}(h1:¬O D) (h2:base≤D) (h3:D<w.heap.size) (h4:w.heap[D]?=some (.deferred (some []))) (h5:∀d∈ds,d.target≠.collected D) (h6:iG O base w μ ds gs):
   iG O base w μ ({target:=.collected D,args:=#[]}::ds) gs
 | ba {f:FuncId}{cs:List G}{us:Array Value}{ds:List Deferred}{gs:List G}(h1:aU O base w μ (.ba f cs) (.func (.func f) #[] us)) (h2:iG O base w μ ds gs):
   iG O base w μ ({target:=.fn (.func f) us,args:=#[]}::ds) (.ba f cs::gs)
theorem iG.mono {O O':Nat→Prop}{base:Nat}{w w':World}{μ:Mu}{ds:List Deferred}{gs:List G}(h:iG O base w μ ds gs)
  (hk:Kept O w w') (hO:∀b,b<w.heap.size→¬O b→¬O' b):iG O' base w' μ ds gs:=by
 induction h with
 | nil=>exact .nil
 | mark h1 h2 h3 h4 h5 h6 ih=>exact .mark (hO _ h3 h1) h2 (cJ h3 hk.size) ((hk.block _ h3 h1).trans h4) h5 ih
 | ba h1 h2 ih=>exact .ba (h1.mono hk hO (aG _)) ih
def qn (h:Nat):List G→Bool
 | []=>true
 | g::r=>!(g.cv h)&&qn h r
theorem pP {h:Nat}{gs:List G}(hf:qn h gs=true){g:G}(hg:g∈gs):g.cv h=false:=by
 induction gs with
 | nil=>cases hg
 | cons x r ih=>
  simp only[qn,af,aS] at hf;cases hg with
  | head=>exact hf.1
  | tail _ hm=>exact ih hf.2 hm
theorem iG.qA {O:Nat→Prop}{base:Nat}{w:World}{μ μ':Mu}{ds:List Deferred}{gs:List G}(h:iG O base w μ ds gs)
  (hμ:∀g,g∈gs→∀y,g.cv y=true→Ext (μ y) (μ' y)):iG O base w μ' ds gs:=by
 induction h with
 | nil=>exact .nil
 | mark h1 h2 h3 h4 h5 h6 ih=>exact .mark h1 h2 h3 h4 h5 (ih hμ)
 | ba h1 h2 ih=>exact .ba (h1.qA (hμ _ ar)) (ih fun g hg=>hμ g (ap _ hg))
theorem iG.gS {O:Nat→Prop}{base:Nat}{w:World}{μ μ':Mu}{ds:List Deferred}{gs:List G}(h:iG O base w μ ds gs)
  (hμ:∀g,g∈gs→∀y,g.cv y=true→μ' y=μ y):iG O base w μ' ds gs:=h.qA fun g hg y hy=>.inl (hμ g hg y hy)
structure Rel (N:Nat) (cx:Cx) (μ:Mu) (s:St) (a:Act) (w:World):Prop where
 st:cI cx μ s.st w
 nd:iG (cx.O s.st μ) cx.base w μ a.defers s.df
 sz:a.tmps.size=N
 fr:∀t g,get s.fr t=some g→∃v,a.tmps[t]?=some v∧aU (cx.O s.st μ) cx.base w μ g v
def lift (N:Nat) (cx:Cx) (Q:Exit→St→Prop):Exit→Act→World→Prop
 | .outgrown,_,_=>False
 | e,a,w=>∃μ s,Rel N cx μ s a w∧Q e s
def FF (ro:Option Nat):Fence:={Fence.wide with round:=ro}
def GW (P:Program) (N:Nat) (cx:Cx) (c:Code) (Q:Exit→St→Prop) (s:St):Prop:=∀μ a w,Rel N cx μ s a w→c.wpIn (FF cx.ro) 0 P (lift N cx Q) a w
def WB (next:St→Prop) (Q:Exit→St→Prop):Exit→St→Prop
 | .normal,s=>next s
 | e,s=>Q e s
def zm (id:Nat) (Q:Exit→St→Prop):Exit→St→Prop
 | .exit id',s=>if id'=id then Q .normal s else Q (.exit id') s
 | e,s=>Q e s
def KQ (fr:List (Nat×G)):List (Nat×G)→Prop
 | []=>True
 | (t,g)::r=>get fr t=some g∧KQ fr r
def pe (st:List (Nat×av)):List (Nat×av)→Prop
 | []=>True
 | (t,g)::r=>ay st t=some g∧pe st r
def Sub (s s':St):Prop:=KQ s.fr s'.fr∧pe s.st s'.st∧s.df=s'.df
theorem KQ.get {fr fr':List (Nat×G)}(h:KQ fr fr'){t:Nat}{g:G}(hg:get fr' t=some g):get fr t=some g:=by
 induction fr' with
 | nil=>cases hg
 | cons x r ih=>
  obtain⟨k,g'⟩:=x;obtain⟨h1,h2⟩:=h;simp only[AM.get] at hg;cases hk:Nat.beq k t with
  | true=>rw[hk] at hg;have:=ab hk;subst this;simp at hg;subst hg;exact h1
  | false=>rw[hk] at hg;exact ih h2 hg
theorem pe.get {fr fr':List (Nat×av)}(h:pe fr fr'){t:Nat}{g:av}(hg:ay fr' t=some g):ay fr t=some g:=by
 induction fr' with
 | nil=>cases hg
 | cons x r ih=>
  obtain⟨k,g'⟩:=x;obtain⟨h1,h2⟩:=h;simp only[ay] at hg;cases hk:Nat.beq k t with
  | true=>rw[hk] at hg;have:=ab hk;subst this;simp at hg;subst hg;exact h1
  | false=>rw[hk] at hg;exact ih h2 hg
theorem Own.sub {st st':List (Nat×av)}{μ:Mu}(h:pe st st'){b:Nat}:Own st' μ b→Own st μ b:=
 fun ⟨x,k,c,m,h1,h2⟩=>⟨x,k,c,m,h.get h1,h2⟩
theorem cI.sub {cx : Cx} {μ : Mu} {st st' : List (Nat × av)} {w : World} (h : cI cx μ st w) (hs : pe st st') : cI cx μ st' w := by
  have hO : ∀ b, b < w.heap.size → ¬ cx.O st μ b → ¬ cx.O st' μ b := fun b _ hn ho => hn (ho.imp id (Own.sub hs))
  exact { en := fun x k hk => (h.en x k (hs.get hk)).mono (fun _ _ _ _ _ => rfl) (Kept.refl _ _) hO, de := fun x x' k k' y b m b' m' h1 h2 => h.de x x' k k' y b m b' m' (hs.get h1) (hs.get h2),
          cq := fun x k b m y h1 h2 => h.cq x k b m y (hs.get h1) h2, fD := fun x k h1 h2 => h.fD x k (hs.get h1) h2, fg := h.fg, hb := h.hb, os := h.os, tape := h.tape, output := h.output, gl := h.gl, dq := h.dq }
theorem Rel.sub {N:Nat}{cx:Cx}{μ:Mu}{s s':St}{a:Act}{w:World}(h:Rel N cx μ s a w) (hs:Sub s s'):Rel N cx μ s' a w:=by
 have hO:∀b,b<w.heap.size→¬cx.O s.st μ b→¬cx.O s'.st μ b:=fun b _ hn ho=>hn (ho.imp id (Own.sub hs.2.1));refine {st:=h.st.sub hs.2.1,nd:=hs.2.2▸h.nd.mono (Kept.refl _ _) hO,sz:=h.sz,fr:=?_};intro t g hg;obtain⟨v,hv,hr⟩:=h.fr t g (hs.1.get hg);exact⟨v,hv,hr.mono (Kept.refl _ _) hO (aG _)⟩
section
variable {P:Program}{N:Nat}{cx:Cx}{Q:Exit→St→Prop}{s:St}
theorem Sy {Q Q':Exit→St→Prop}(h:∀e s,Q e s→Q' e s){e:Exit}{a:Act}{w:World}(hl:lift N cx Q e a w):lift N cx Q' e a w:=by
 cases e <;> first | exact hl.elim | exact(let ⟨μ,s,hr,hq⟩:=hl;⟨μ,s,hr,h _ _ hq⟩) | exact(let ⟨μ,s,h1,h2,h3,hq⟩:=hl;⟨μ,s,h1,h2,h3,h _ _ hq⟩)
theorem GW.mono {c:Code}{Q':Exit→St→Prop}(h:GW P N cx c Q s) (hq:∀e s,Q e s→Q' e s):GW P N cx c Q' s:=
 fun μ a w hr=>wpIn_mono (h μ a w hr) fun _ _ _ hl=>Sy hq hl
theorem GW.xM {c:Code}(s':St) (hs:Sub s s') (h:GW P N cx c Q s'):GW P N cx c Q s:=fun μ a w hr=>h μ a w (hr.sub hs)
theorem GW.skip (h:Q .normal s):GW P N cx .skip Q s:=fun μ _ _ hr=>wpIn_skip ⟨μ,s,hr,h⟩
theorem GW.ret (h:Q .ret s):GW P N cx .ret Q s:=fun μ _ _ hr=>wpIn_ret ⟨μ,s,hr,h⟩
theorem GW.exit {id:Nat}(h:Q (.exit id) s):GW P N cx (.exit id) Q s:=fun μ _ _ hr=>wpIn_exit ⟨μ,s,hr,h⟩
theorem GW.seq {x y:Code}(h:GW P N cx x (WB (GW P N cx y Q) Q) s):GW P N cx (.seq x y) Q s:=fun μ a w hr=>
 wpIn_seq (wpIn_mono (h μ a w hr) fun e a' w' hl=>by
  cases e with
  | normal=>obtain⟨μ',s',hr',hq⟩:=hl;exact hq μ' a' w' hr'
  | outgrown=>exact hl.elim
  | _=>exact hl)
theorem GW.block {id:Nat}{c:Code}(h:GW P N cx c (zm id Q) s):GW P N cx (.block id c) Q s:=fun μ a w hr=>
 wpIn_block (wpIn_mono (h μ a w hr) fun e a' w' hl=>by
  cases e with
  | exit id'=>
   obtain⟨μ',s',hr',hq⟩:=hl;simp only[zm,Exit.inBlock] at hq⊢
   by_cases hid:id'=id
   ·simp only[hid,if_true] at hq⊢;exact⟨μ',s',hr',hq⟩
   ·simp only[hid,if_false] at hq⊢;exact⟨μ',s',hr',hq⟩
  | outgrown=>exact hl.elim
  | _=>exact hl)
theorem Rel.TP {N:Nat}{cx:Cx}{μ:Mu}{s:St}{a:Act}{w:World}(h:Rel N cx μ s a w){t:Nat}{v:Value}(hg:get s.fr t=some (.val v)):a.eval (.tmp t)=v:=by
 obtain⟨u,hu,hr⟩:=h.fr t _ hg;cases hr with
 | aF hr=>cases hr;simp[Act.eval,hu]
theorem GW.cond {t:Nat}{x y:Code}{b:Bool}(hg:get s.fr t=some (.val (.bool b))) (h1:b=true→GW P N cx x Q s) (h2:b=false→GW P N cx y Q s):
  GW P N cx (.cond (.tmp t) x y) Q s:=fun μ a w hr=>
 wpIn_cond_split (hr.TP hg) (fun e=>h1 e μ a w hr) (fun e=>h2 e μ a w hr)
theorem FH {F:Fence}{n:Nat}{R:Exit→Act→World→Prop}{a:Act}{w:World}{c:Code}(I:Nat→Act→World→Prop) (n₀:Nat) (h₀:I n₀ a w)
  (round:∀k a w,I k a w→c.wpIn F n P (Exit.then (fun a' w'=>∃k',k'<k∧I k' a' w') R) a w):(Code.loop c).wpIn F n P R a w:=
 wpIn_loop (fun a w=>∃k,I k a w) (fun a w=>leastOf fun k=>I k a w) ⟨n₀,h₀⟩ fun a w hI=>
  wpIn_mono (round _ a w (leastOf_spec hI).1) fun e a' w' hq=>by
   cases e with
   | normal=>
    obtain⟨k',hlt,hI'⟩:=hq;exact⟨⟨k',hI'⟩,Nat.lt_of_le_of_lt ((leastOf_spec ⟨k',hI'⟩).2 k' hI') hlt⟩
   | _=>exact hq
theorem GW.loop {σ:Type}{c:Code}(E:σ→St) (I:σ→Prop) (m:σ→Nat) (x0:σ) (h0:I x0)
  (hr:∀x,I x→GW P N cx c (WB (fun s=>∃x',I x'∧m x'<m x∧Sub s (E x')) Q) (E x)):GW P N cx (.loop c) Q (E x0):=by
 intro μ a w hrel;refine FH (fun n a w=>∃x μ,I x∧m x=n∧Rel N cx μ (E x) a w) (m x0) ⟨x0,μ,h0,rfl,hrel⟩ ?_;rintro n a w ⟨x,μ,hI,rfl,hrel⟩;refine wpIn_mono (hr x hI μ a w hrel) fun e a' w' hl=>?_;cases e with
 | normal=>obtain⟨μ',s',hr',x',hI',hm,hs⟩:=hl;exact⟨m x',hm,x',μ',hI',rfl,hr'.sub hs⟩
 | outgrown=>exact hl.elim
 | _=>exact hl
def tg:List Oper→Bool
 | []=>true
 | o::r=>(match o.op with | .defer _=>false | _=>true)&&tg r
theorem NO {l:List Oper}(h:tg l=true){o:Oper}(ho:o∈l) (c:Call):o.op≠.defer c:=by
 induction l with
 | nil=>cases ho
 | cons x r ih=>
  simp only[tg,af] at h;cases ho with
  | head=>intro e;rw[e] at h;cases h.1
  | tail _ hm=>exact ih h.2 hm
theorem AD {ro:Option Nat}{n:Nat}{f:FuncId}{args:Array Value}{w:World}{R:Ending→World→Prop}:CallsIn (FF ro) n P f args w R↔Calls P f args w R:=by
 cases ro with
 | none=>exact callsIn_wide
 | some l=>exact(callsIn_wide (n:=n) (P:=P) (f:=f) (args:=args) (w:=w) (R:=R))
theorem RQ {ro:Option Nat}{n:Nat}{row:String}{args:Array Value}{w:World}{R:Value→World→Prop}(h:Rows P row args w R):RowsIn (FF ro) n P row args w R:=fun c cs _=>by
 obtain⟨v,w',hr,hs⟩:=h c cs;exact⟨v,w',hr,stepsIn_wide.2 hs⟩
theorem F1 {ro:Option Nat}{n:Nat}{o:Oper}{a:Act}{w:World}{K:Act→World→Prop}{R:Exit→Act→World→Prop}(hd:∀c,o.op≠.defer c) (h:o.wp P a w K R):o.wpIn (FF ro) n P a w K R:=by
 refine⟨fun _ _=>trivial,?_⟩;rw[Oper.semAt_eq _ _ _ hd];unfold Oper.wp at h;generalize (execOp a.eval o).run P w=r at h;cases r with
 | ok x w'=>
  cases x <;> first | exact h | exact h.elim | exact⟨(fun hx=>by cases hx),AD.2 h⟩ | exact⟨(fun hx=>by cases hx),RQ h⟩
 | halt x w'=>cases x <;> first | exact h | exact h.elim
theorem Me:¬LetsOut (lift N cx Q):=fun ⟨_,_,h⟩=>h
def GL (P:Program) (N:Nat) (cx:Cx) (ops:Array Oper) (Q:Exit→St→Prop) (rest:List Oper) (s:St):Prop:=
 ∀μ a w,Rel N cx μ s a w→wpListIn (FF cx.ro) 0 P ops (lift N cx Q) rest a w
theorem GW.region {id:Nat}{l:List Oper}(h:GL P N cx l.toArray Q l s):GW P N cx (.region id l.toArray false) Q s:=fun μ a w hr=>wpIn_region_lit (h μ a w hr)
theorem GL.nil {ops:Array Oper}(h:Q .normal s):GL P N cx ops Q [] s:=fun μ _ _ hr=>⟨μ,s,hr,h⟩
def St.put (s:St) (d:Nat) (g:G):St:={s with fr:=(d,g)::s.fr}
theorem iS (t k:Nat) (g:G) (r:List (Nat×G)):get ((k,g)::r) t=bif Nat.beq k t then some g else get r t:=rfl
theorem Rel.put {μ:Mu}{a:Act}{w:World}(h:Rel N cx μ s a w){d:Nat}{g:G}{v:Value}(hd:d<N) (hv:aU (cx.O s.st μ) cx.base w μ g v):
  Rel N cx μ (s.put d g) (a.put (some d) v) w:=by
 refine {st:=h.st,nd:=h.nd,sz:=by simp[Act.put,h.sz],fr:=?_};intro t g' hg;have hsz:=h.sz;simp only[St.put,iS] at hg
 by_cases e:d=t
 ·subst e;rw[aW,cond_true] at hg;cases hg;exact⟨v,by simp only[Act.put];rw[Array.getElem?_setIfInBounds_self_of_lt (by omega)],hv⟩
 ·have:Nat.beq d t=false:=by
   cases h3:Nat.beq d t with
   | false=>rfl
   | true=>exact absurd (ab h3) e
  rw[this,cond_false] at hg;obtain⟨u,hu,hr⟩:=h.fr t g' hg;exact⟨u,by simp only[Act.put];rw[gR (by omega)];exact hu,hr⟩
def del:List (Nat×G)→Nat→List (Nat×G)
 | [],_=>[]
 | (k,g)::r,t=>bif Nat.beq k t then del r t else(k,g)::del r t
def Hv (W:List Nat) (st:List (Nat×av)) (μ:Mu) (b:Nat):Prop:=∀h k c m,h∈W→ay st h=some k→μ h=some (c,m)→¬In b c m
theorem Hv.ne {W:List Nat}{st:List (Nat×av)}{μ:Mu}{b:Nat}(hn:Hv W st μ b):∀h k m,h∈W→ay st h=some k→μ h≠some (b,m):=fun h k m h1 h2 h3=>hn h k b m h1 h2 h3 (.self b m)
def fI (P:Program) (W:List Nat) (s:St) (o:Oper) (g:G):Prop:=
 ∀(N:Nat) (cx:Cx) (μ:Mu) (a:Act) (w:World),Rel N cx μ s a w→∃v,aU (cx.O s.st μ) cx.base w μ g v∧
  ∀w',w.heap.size≤w'.heap.size→(∀b,b<w.heap.size→Hv W s.st μ b→w'.heap[b]?=w.heap[b]?)→(execOp a.eval o).run P w'=.ok (.value v) w'
def ej (ops:Array Oper) (s:St):Option (Nat×Bool)→Option Bool
 | none=>some true
 | some (j,want)=>match (ops[j]?).bind (·.dst) with
  | some d=>match get s.fr d with
   | some (.val (.bool b))=>some (b==want)
   | some (.bB [])=>some false
   | _=>none
  | none=>none
theorem fB {ops:Array Oper}{μ:Mu}{a:Act}{w:World}(h:Rel N cx μ s a w){o:Oper}{b:Bool}(hg:ej ops s o.guard=some b):Region.wanted o (yielded ops a.tmps)=b:=by
 unfold Region.wanted;cases hgd:o.guard with
 | none=>rw[hgd] at hg;simpa[ej] using hg
 | some jw=>
  obtain⟨j,want⟩:=jw;rw[hgd] at hg;simp only[ej] at hg;cases hd:(ops[j]?).bind (·.dst) with
  | none=>rw[hd] at hg;cases hg
  | some d=>
   simp only[hd] at hg;cases hf:get s.fr d with
   | none=>simp[hf] at hg
   | some g=>
    simp only[hf] at hg;cases g with
    | val v=>
     cases v with
     | bool c=>
      simp only[km] at hg;obtain⟨u,hu,hr⟩:=h.fr d _ hf;cases hr with
      | aF hr=>
       cases hr;cases ho:ops[j]? with
       | none=>rw[ho] at hd;cases hd
       | some oj=>
        rw[ho] at hd;simp only[aa] at hd;simp only[yielded,ho,hd,hu,aa];subst hg;simp
     | _=>cases hg
    | bB l=>
     cases l with
     | cons _ _=>cases hg
     | nil=>
      simp only[km] at hg;subst hg;obtain⟨u,hu,hr⟩:=h.fr d _ hf;have hu':u=.tuple #[]:=by
       cases hr with
       | aF hr=>cases hr
       | bB _ us hl _=>
        obtain rfl:us=[]:=bu (by simpa using hl);rfl
      subst hu';cases ho:ops[j]? with
      | none=>rw[ho] at hd;cases hd
      | some oj=>
       rw[ho] at hd;simp only[aa] at hd;simp only[yielded,ho,hd,hu,aa];simp
    | _=>cases hg
theorem Ai {ρ:Operand→Value}{o:Oper}{v:Value}{w w':World}(h:(execOp ρ o).run P w=.ok (.value v) w') (c:Call):o.op≠.defer c:=by
 intro e;obtain⟨d,op,ty,pos,after,guard⟩:=o;cases e;simp only[execOp,Sem.run_bind] at h;cases hr:(resolve ρ c ty).run P w with
 | ok x w1=>rw[hr] at h;simp at h
 | halt x w1=>rw[hr] at h;cases h
theorem GL.yield {ops:Array Oper}{rest:List Oper}{o:Oper}{d:Nat}{g:G}(hw:ej ops s o.guard=some true) (hd:o.dst=some d) (hN:d<N)
  (hy:fI P [] s o g) (h:GL P N cx ops Q rest (s.put d g)):GL P N cx ops Q (o::rest) s:=by
 intro μ a w hr;obtain⟨v,hv,hrun⟩:=hy N cx μ a w hr;have hrun:=hrun w (aG _) (fun _ _ _=>rfl);unfold wpListIn;rw[if_pos (fB hr hw)];refine F1 (Ai hrun) ?_;unfold Oper.wp;rw[hrun];show wpListIn (FF cx.ro) 0 P ops (lift N cx Q) rest (a.put o.dst v) w;rw[hd];exact h μ _ w (hr.put hN hv)
theorem Rel.R3 {μ : Mu} {a : Act} {w : World} (h : Rel N cx μ s a w) (d : Nat) : Rel N cx μ { s with fr := del s.fr d } (a.put (some d) undef) w := by
 refine { st := h.st, nd := h.nd, sz := by simp [Act.put, h.sz], fr := ?_ }
 intro t g hg
 have key : ∀ fr : List (Nat × G), get (del fr d) t = some g → d ≠ t ∧ get fr t = some g := by
  intro fr
  induction fr with
  | nil => intro h; cases h
  | cons x r ih =>
   obtain ⟨k, g'⟩ := x
   intro hq
   simp only [del] at hq
   cases hk : Nat.beq k d with
   | true =>
    rw [hk, cond_true] at hq
    obtain ⟨h1, h2⟩ := ih hq
    refine ⟨h1, ?_⟩
    have := ab hk
    subst this
    have h3 : Nat.beq k t = false := by
     cases h3 : Nat.beq k t with
     | false => rfl
     | true => exact absurd (ab h3) h1
    rw [iS, h3]; exact h2
   | false =>
    rw [hk, cond_false, iS] at hq
    rw [iS]
    cases h3 : Nat.beq k t with
    | true =>
     rw [h3, cond_true] at hq
     have := ab h3
     subst this
     refine ⟨?_, hq⟩
     intro e
     subst e
     rw [aW] at hk
     cases hk
    | false => rw [h3, cond_false] at hq; exact ih hq
 obtain ⟨hne, hg'⟩ := key s.fr hg
 obtain ⟨u, hu, hr⟩ := h.fr t g hg'
 exact ⟨u, by simp only [Act.put]; rw [gR hne]; exact hu, hr⟩
theorem GL.pass {ops : Array Oper} {rest : List Oper} {o : Oper} (hw : ej ops s o.guard = some false) (h : GL P N cx ops Q rest { s with fr := match o.dst with | some d => del s.fr d | none => s.fr }) :
  GL P N cx ops Q (o :: rest) s := by
 intro μ a w hr
 unfold wpListIn
 rw [if_neg (by rw [fB hr hw]; simp)]
 refine ⟨fun _ _ => trivial, ?_⟩
 cases hd : o.dst with
 | none =>
  rw [hd] at h
  exact h μ a w hr
 | some d =>
  rw [hd] at h
  exact h μ _ w (hr.R3 d)
end
end Go.AM
/-
 AM,part C:operations that yield a value and leave the world alone.
-/
namespace Go.AM
def ev (s:St):Operand→Option G
 | .tmp t=>get s.fr t
 | .const v=>some (.val v)
 | .func f=>some (.ba f [])
 | .global _=>none
section
variable {P:Program}{N:Nat}{cx:Cx}{s:St}
theorem Rel.ev {μ:Mu}{a:Act}{w:World}(h:Rel N cx μ s a w){x:Operand}{g:G}(he:ev s x=some g):aU (cx.O s.st μ) cx.base w μ g (a.eval x):=by
 cases x with
 | tmp t=>
  obtain⟨v,hv,hr⟩:=h.fr t g he;simpa[Act.eval,hv] using hr
 | const v=>cases he;exact .aF (.val _)
 | func f=>cases he;have h:=aU.ba (O:=cx.O s.st μ) (base:=cx.base) (w:=w) (μ:=μ) f [] [] rfl (fun j g v hg=>by simp at hg);rw[VE] at h;exact h
 | global g=>cases he
theorem Rel.val {μ:Mu}{a:Act}{w:World}(h:Rel N cx μ s a w){x:Operand}{v:Value}(he:AM.ev s x=some (.val v)):a.eval x=v:=by
 cases h.ev he with
 | aF hr=>cases hr;rfl
def PY (P:Program) (s:St) (o:Oper) (g:G):Prop:=
 ∀(N:Nat) (cx:Cx) (μ:Mu) (a:Act) (w:World),Rel N cx μ s a w→∃v,aU (cx.O s.st μ) cx.base w μ g v∧∀w',(execOp a.eval o).run P w'=.ok (.value v) w'
theorem PY.yield {o:Oper}{g:G}(h:PY P s o g) (W:List Nat):fI P W s o g:=fun N cx μ a w hr=>
 let ⟨v,hv,hrun⟩:=h N cx μ a w hr
 ⟨v,hv,fun w' _ _=>hrun w'⟩
variable {dst:Option Tmp}{ty:TypeId}{pos:String}{after:Array Edge}{guard:Option (Nat×Bool)}
theorem PY.move {x:Operand}{g:G}(he:ev s x=some g):PY P s ⟨dst,.move x,ty,pos,after,guard⟩ g:=fun _ _ _ _ _ hr=>⟨_,hr.ev he,fun _=>rfl⟩
theorem PY.assign {x:Operand}{g:G}(he:ev s x=some g):PY P s ⟨dst,.assign x,ty,pos,after,guard⟩ g:=fun _ _ _ _ _ hr=>⟨_,hr.ev he,fun _=>rfl⟩
theorem PY.ZE {c x y:Operand}{g:G}(hc:ev s c=some (.val (.bool true))) (he:ev s x=some g):PY P s ⟨dst,.pick c x y,ty,pos,after,guard⟩ g:=fun _ _ _ _ _ hr=>by
 refine⟨_,hr.ev he,fun w'=>?_⟩;have h1:=hr.val hc;simp[execOp,h1,asBool]
theorem PY.ZF {c x y:Operand}{g:G}(hc:ev s c=some (.val (.bool false))) (he:ev s y=some g):PY P s ⟨dst,.pick c x y,ty,pos,after,guard⟩ g:=fun _ _ _ _ _ hr=>by
 refine⟨_,hr.ev he,fun w'=>?_⟩;have h1:=hr.val hc;simp[execOp,h1,asBool]
def Fx:BinOp→Value→Value→Option Value
 | .add,.int k a,.int k' b=>if k=k' then some (.int k (k.wrap (a+b))) else none
 | .sub,.int k a,.int k' b=>if k=k' then some (.int k (k.wrap (a-b))) else none
 | .mul,.int k a,.int k' b=>if k=k' then some (.int k (k.wrap (a*b))) else none
 | .eql,.int k a,.int k' b=>if k=k' then some (.bool (a==b)) else none
 | .neq,.int k a,.int k' b=>if k=k' then some (.bool (a !=b)) else none
 | .lss,.int k a,.int k' b=>if k=k' then some (.bool (decide (a<b))) else none
 | .leq,.int k a,.int k' b=>if k=k' then some (.bool (decide (a≤b))) else none
 | .gtr,.int k a,.int k' b=>if k=k' then some (.bool (decide (a>b))) else none
 | .geq,.int k a,.int k' b=>if k=k' then some (.bool (decide (a≥b))) else none
 | .and,.int k a,.int k' b=>if k=k' then some (.int k (k.wrap ((BitVec.ofInt k.bits a &&& BitVec.ofInt k.bits b).toNat:Int))) else none
 | .or,.int k a,.int k' b=>if k=k' then some (.int k (k.wrap ((BitVec.ofInt k.bits a ||| BitVec.ofInt k.bits b).toNat:Int))) else none
 | .eql,.string a,.string b=>some (.bool (a.toList==b.toList))
 | .neq,.string a,.string b=>some (.bool (!(a.toList==b.toList)))
 | .lss,.string a,.string b=>some (.bool (Op.bytesLess a.toList b.toList))
 | _,_,_=>none
theorem VR {op : BinOp} {x y r : Value} (h : Fx op x y = some r) (t : TypeId) (xo yo : Operand) (w : World) : (do eqGuard op t xo yo x y; binOp op t x y : Sem Value).run P w = .ok r w := by
  unfold Fx at h
  split at h <;> first
    | (split at h
       · rename_i hk; subst hk; cases h; simp [eqGuard, binOp, Op.intArith, Op.intCmp, Op.intBits]
       · cases h)
    | (cases h; simp [eqGuard, binOp, Op.stringOp])
    | cases h
theorem PY.bin {op:BinOp}{t t':TypeId}{x y:Operand}{vx vy r:Value}(hx:ev s x=some (.val vx)) (hy:ev s y=some (.val vy)) (hr:Fx op vx vy=some r):
  PY P s ⟨dst,.binOp op t x y t',ty,pos,after,guard⟩ (.val r):=fun _ _ _ _ _ hrel=>by
 refine⟨r,.aF (.val r),fun w'=>?_⟩;have:=VR (P:=P) hr t x y w';simp only[execOp,hrel.val hx,hrel.val hy,Sem.run_bind,this,Result.andThen_ok,Sem.run_pure]
theorem PY.quo {t t':TypeId}{x y:Operand}{k:IntKind}{a b:Int}(hx:ev s x=some (.val (.int k a))) (hy:ev s y=some (.val (.int k b))) (hb:b≠0):
  PY P s ⟨dst,.binOp .quo t x y t',ty,pos,after,guard⟩ (.val (.int k (k.wrap (a.tdiv b)))):=fun _ _ _ _ _ hrel=>by
 refine⟨_,.aF (.val _),fun w'=>?_⟩;simp[execOp,hrel.val hx,hrel.val hy,eqGuard,binOp,Op.intDiv,hb]
theorem PY.rem {t t':TypeId}{x y:Operand}{k:IntKind}{a b:Int}(hx:ev s x=some (.val (.int k a))) (hy:ev s y=some (.val (.int k b))) (hb:b≠0):
  PY P s ⟨dst,.binOp .rem t x y t',ty,pos,after,guard⟩ (.val (.int k (a.tmod b))):=fun _ _ _ _ _ hrel=>by
 refine⟨_,.aF (.val _),fun w'=>?_⟩;simp[execOp,hrel.val hx,hrel.val hy,eqGuard,binOp,Op.intDiv,hb]
theorem PY.shr {t t':TypeId}{x y:Operand}{k k':IntKind}{a b:Int}(hx:ev s x=some (.val (.int k a))) (hy:ev s y=some (.val (.int k' b))) (hb:0≤b):
  PY P s ⟨dst,.binOp .shr t x y t',ty,pos,after,guard⟩ (.val (.int k (a.fdiv (2^(min b.toNat k.bits))))):=fun _ _ _ _ _ hrel=>by
 refine⟨_,.aF (.val _),fun w'=>?_⟩;simp[execOp,hrel.val hx,hrel.val hy,eqGuard,binOp,Op.shift,show ¬b<0 by omega]
theorem PY.shl {t t':TypeId}{x y:Operand}{k k':IntKind}{a b:Int}(hx:ev s x=some (.val (.int k a))) (hy:ev s y=some (.val (.int k' b))) (hb:0≤b):
  PY P s ⟨dst,.binOp .shl t x y t',ty,pos,after,guard⟩ (.val (.int k (k.wrap (a*2^(min b.toNat k.bits))))):=fun _ _ _ _ _ hrel=>by
 refine⟨_,.aF (.val _),fun w'=>?_⟩;simp[execOp,hrel.val hx,hrel.val hy,eqGuard,binOp,Op.shift,show ¬b<0 by omega]
def Z0:UnOp→Value→Option Value
 | .not,.bool b=>some (.bool (!b))
 | .neg,.int k a=>some (.int k (k.wrap (0-a)))
 | _,_=>none
theorem PY.un {op:UnOp}{t:TypeId}{x:Operand}{vx r:Value}(hx:ev s x=some (.val vx)) (hr:Z0 op vx=some r):
  PY P s ⟨dst,.unOp op t x,ty,pos,after,guard⟩ (.val r):=fun _ _ _ _ _ hrel=>by
 refine⟨r,.aF (.val r),fun w'=>?_⟩;unfold Z0 at hr;split at hr <;> cases hr <;> simp[execOp,hrel.val hx,Op.unary,Op.intArith]
theorem PY.conv {t t':TypeId}{x:Operand}{k k':IntKind}{a:Int}{d:TypeDesc}(hx:ev s x=some (.val (.int k' a))) (hs:P.underlying t=some d) (ht:P.underlying t'=some (.int k)):
  PY P s ⟨dst,.convert t t' x,ty,pos,after,guard⟩ (.val (.int k (k.wrap a))):=fun _ _ _ _ _ hrel=>by
 refine⟨_,.aF (.val _),fun w'=>?_⟩;simp[execOp,hrel.val hx,convert,run_underlying hs,run_underlying ht,Conv.intToInt]
theorem PY.ZV {t t':TypeId}{x:Operand}{b:ByteArray}{d:TypeDesc}(hx:ev s x=some (.val (.string b))) (hs:P.underlying t=some d) (ht:P.underlying t'=some .string):
  PY P s ⟨dst,.convert t t' x,ty,pos,after,guard⟩ (.val (.string b)):=fun _ _ _ _ _ hrel=>by
 refine⟨_,.aF (.val _),fun w'=>?_⟩;simp[execOp,hrel.val hx,convert,run_underlying hs,run_underlying ht]
def Qr:G→Option Int
 | .sl n _=>some n
 | .fr (.sl n _)=>some n
 | .aL _ _ _ n=>some n
 | .ks _ _ _ n=>some n
 | .val (.slice none 0 0)=>some 0
 | _=>none
theorem PY.len {t:TypeId}{x:Operand}{g:G}{n:Int}{e:TypeId}(hx:ev s x=some g) (hn:Qr g=some n) (ht:P.underlying t=some (.slice e)):
  PY P s ⟨dst,.call ⟨.builtin .len,#[x],#[t]⟩,ty,pos,after,guard⟩ (.val (.int .i64 n)):=fun _ cx μ a w hrel=>by
 refine⟨_,.aF (.val _),fun w'=>?_⟩;have h:=hrel.ev hx;have sl:∀(O:Nat→Prop) (n:Nat) (cells:List G) (v:Value),bH O w (.sl n cells) v→∃b m c,v=.slice b m c∧m=n:=by
  intro O n cells v h;cases h with
  | nil=>exact⟨none,0,0,rfl,rfl⟩
  | jb a cap=>exact⟨some a,0,cap,rfl,rfl⟩
  | sl _ _ b off cap=>exact⟨_,n,cap,rfl,rfl⟩
 have key:∃b m c,a.eval x=.slice b m c∧(m:Int)=n:=by
  generalize a.eval x=v0 at h;cases g with
  | sl n' cells=>
   cases hn;cases h with
   | aF h=>obtain⟨b,m,c,e1,e2⟩:=sl _ _ _ _ h;exact⟨b,m,c,e1,by rw[e2]⟩
  | fr g=>
   cases h with
   | aF h=>cases h
   | fr h=>
    cases g with
    | sl n' cells=>cases hn;obtain⟨b,m,c,e1,e2⟩:=sl _ _ _ _ h;exact⟨b,m,c,e1,by rw[e2]⟩
    | _=>cases hn
  | aL h' sz off n'=>
   cases hn;cases h with
   | aF h=>cases h
   | gk=>exact⟨none,0,0,rfl,rfl⟩
   | aL _ _ _ _ b m cap=>exact⟨_,n',cap,rfl,rfl⟩
   | fq _ _ off0 b m _ _=>exact⟨_,0,0,rfl,rfl⟩
  | ks h' i sz n'=>
   cases hn;cases h with
   | aF h=>cases h
   | mh _ _ _ x cap=>exact⟨x,0,cap,rfl,rfl⟩
   | ks _ _ _ _ b m c k cap=>exact⟨_,n',cap,rfl,rfl⟩
  | val v=>
   cases h with
   | aF h=>
    cases h;cases v0 with
    | slice b m c=>
     cases b with
     | none=>cases m with
      | zero=>cases c with
       | zero=>cases hn;exact⟨none,0,0,rfl,rfl⟩
       | succ c=>cases hn
      | succ m=>cases hn
     | some b=>cases hn
    | _=>cases hn
  | _=>cases hn
 obtain⟨b,m,c,e1,e2⟩:=key;subst e2;simp[execOp,resolve,invoke,builtin,Builtin.len_,e1,run_underlying ht,goInt]
theorem PY.aak {t:TypeId}{x:Operand}{b:ByteArray}(hx:ev s x=some (.val (.string b))) (ht:P.underlying t=some .string):
  PY P s ⟨dst,.call ⟨.builtin .len,#[x],#[t]⟩,ty,pos,after,guard⟩ (.val (.int .i64 b.size)):=fun _ _ _ a w hrel=>by
 refine⟨_,.aF (.val _),fun w'=>?_⟩;simp[execOp,resolve,invoke,builtin,Builtin.len_,hrel.val hx,run_underlying ht,goInt]
theorem PY.min2 {ts:Array TypeId}{x y:Operand}{k k':IntKind}{a b:Int}(hx:ev s x=some (.val (.int k a))) (hy:ev s y=some (.val (.int k' b))):
  PY P s ⟨dst,.call ⟨.builtin .min,#[x,y],ts⟩,ty,pos,after,guard⟩ (.val (.int k (if b<a then b else a))):=fun _ _ _ _ _ hrel=>by
 refine⟨_,.aF (.val _),fun w'=>?_⟩;simp[execOp,resolve,invoke,builtin,Builtin.min_,Builtin.min2,hrel.val hx,hrel.val hy]
theorem PY.max2 {ts:Array TypeId}{x y:Operand}{k k':IntKind}{a b:Int}(hx:ev s x=some (.val (.int k a))) (hy:ev s y=some (.val (.int k' b))):
  PY P s ⟨dst,.call ⟨.builtin .max,#[x,y],ts⟩,ty,pos,after,guard⟩ (.val (.int k (if b>a then b else a))):=fun _ _ _ _ _ hrel=>by
 refine⟨_,.aF (.val _),fun w'=>?_⟩;simp[execOp,resolve,invoke,builtin,Builtin.max_,Builtin.max2,hrel.val hx,hrel.val hy]
theorem PY.extract {x:Operand}{i:Nat}{gs:List G}{g:G}(hx:ev s x=some (.bB gs)) (hg:gs[i]?=some g):PY P s ⟨dst,.extract x i,ty,pos,after,guard⟩ g:=fun _ _ _ a w hrel=>by
 have h:=hrel.ev hx;generalize hv:a.eval x=v at h;cases h with
 | aF h=>cases h
 | bB _ us hl hr=>
  have hi:i<us.length:=by
   have:=(ai.1 hg).1;omega
  refine⟨us[i],hr i g us[i] hg (ag hi),fun w'=>?_⟩;simp[execOp,hv,Instr.extract,hi]
theorem Addr.lz (b o n:Nat):(⟨b,o,none⟩:Addr).add n=⟨b,o+n,none⟩:=by unfold Addr.add;split <;> simp_all
theorem bH.Et {O:Nat→Prop}{w:World}{cells:List G}{b off:Nat}(n:Nat) (h:bH O w (.ptr cells) (.pointer (some ⟨b,off,none⟩))):
  bH O w (.ptr (cells.drop n)) (.pointer (some ⟨b,off+n,none⟩)):=by
 cases h with
 | ptr _ _ _ us hO hb hc hr=>
  refine .ptr _ b (off+n) (fun j=>us (n+j)) hO hb ?_ ?_
  ·intro j hj;rw[cf] at hj;have:=hc (n+j) (by omega);rw[←Nat.add_assoc] at this;exact this
  ·intro j g hg;rw[bE] at hg;exact hr (n+j) g hg
def YV (off:Nat):G→Option G
 | .loc h o=>some (.loc h (o+off))
 | .kp h i o=>some (.kp h i (o+off))
 | .ptr cs=>some (.ptr (cs.drop off))
 | .fr (.ptr cs)=>some (.fr (.ptr (cs.drop off)))
 | _=>none
theorem PY.field {t:TypeId}{x:Operand}{i sz:Nat}{fs:Array Field}{f:Field}{g g':G}(hx:ev s x=some g) (hg:YV f.offset g=some g')
  (ht:P.underlying t=some (.struct fs)) (hf:fs[i]?=some f) (hsz:∀w,(sizeOf f.type).run P w=.ok sz w) (h0:sz≠0):
  PY P s ⟨dst,.fieldAddr t x i,ty,pos,after,guard⟩ g':=fun _ cx μ a w hrel=>by
 have h:=hrel.ev hx;have key:∃b o,a.eval x=.pointer (some ⟨b,o,none⟩)∧aU (cx.O s.st μ) cx.base w μ g' (.pointer (some ⟨b,o+f.offset,none⟩)):=by
  generalize a.eval x=v at h;cases g with
  | loc hh o=>
   cases hg;cases h with
   | aF h=>cases h
   | loc _ _ b m hm=>exact⟨b,o,rfl,.loc hh _ b m hm⟩
  | kp hh i o=>
   cases hg;cases h with
   | aF h=>cases h
   | kp _ _ _ b m c n hm hk=>exact⟨c,o,rfl,.kp hh i _ b m c n hm hk⟩
  | ptr cs=>
   cases hg;cases h with
   | aF h=>
    cases h with
    | ptr _ b o us hO hb hc hr=>exact⟨b,o,rfl,.aF (bH.Et _ (.ptr cs b o us hO hb hc hr))⟩
  | fr g=>
   cases h with
   | aF h=>cases h
   | fr h=>
    cases g with
    | ptr cs=>
     cases hg;cases h with
     | ptr _ b o us hO hb hc hr=>exact⟨b,o,rfl,.fr (bH.Et _ (.ptr cs b o us hO hb hc hr))⟩
    | _=>cases hg
  | _=>cases hg
 obtain⟨b,o,e1,e2⟩:=key;refine⟨_,e2,fun w'=>?_⟩;simp[execOp,e1,Instr.fieldAt,Instr.sureAddr,run_underlying ht,hf,fieldPlace,hsz,h0,Addr.lz]
def Mz (i:Nat) (sz:Nat):G→Option (G×Nat)
 | .aL h sz' off n=>if sz'=sz then some (.loc h (off+i*sz),n) else none
 | .ks h j sz' n=>if sz'=sz then some (.kp h j (0+i*sz),n) else none
 | .sl n cs=>some (.ptr (cs.drop (i*sz)),n)
 | .fr (.sl n cs)=>some (.fr (.ptr (cs.drop (i*sz))),n)
 | _=>none
theorem PY.index {t e:TypeId}{x y:Operand}{sz:Nat}{k:IntKind}{i:Int}{n:Nat}{g g':G}(hx:ev s x=some g) (hy:ev s y=some (.val (.int k i))) (hg:Mz i.toNat sz g=some (g',n))
  (h0:0≤i) (hn:i<n) (ht:P.underlying t=some (.slice e)) (hsz:∀w,(sizeOf e).run P w=.ok sz w):
  PY P s ⟨dst,.indexAddr t x y,ty,pos,after,guard⟩ g':=fun _ cx μ a w hrel=>by
 have h:=hrel.ev hx;have sl:∀(O:Nat→Prop) (n:Nat) (cs:List G) (v:Value),i<n→bH O w (.sl n cs) v→∃b o c,v=.slice (some ⟨b,o,none⟩) n c∧bH O w (.ptr (cs.drop (i.toNat*sz))) (.pointer (some ⟨b,o+i.toNat*sz,none⟩)):=by
  intro O n cs v hn h;cases h with
  | nil=>omega
  | jb=>omega
  | sl _ _ b o cap us hn hO hb hc hr=>exact⟨b,o,cap,rfl,bH.Et _ (.ptr cs b o us hO hb hc hr)⟩
 have key:∃b o c,a.eval x=.slice (some ⟨b,o,none⟩) n c∧aU (cx.O s.st μ) cx.base w μ g' (.pointer (some ⟨b,o+i.toNat*sz,none⟩)):=by
  generalize a.eval x=v at h;cases g with
  | aL hh sz' o n'=>
   simp only[Mz] at hg;split at hg
   ·rename_i hs;cases hg;cases h with
    | aF h=>cases h
    | gk _ _ hm=>omega
    | fq _ _ off0 b m hm _=>omega
    | aL _ _ _ _ b m cap hm hn hc=>exact⟨b,o,cap,rfl,.loc hh _ b m hm⟩
   ·cases hg
  | ks hh j sz' n'=>
   simp only[Mz] at hg;split at hg
   ·rename_i hs;cases hg;cases h with
    | aF h=>cases h
    | mh _ _ _ x cap=>omega
    | ks _ _ _ _ b m c k cap hm hk hn hc=>exact⟨c,0,cap,rfl,.kp hh j _ b m c k hm hk⟩
   ·cases hg
  | sl n' cs=>
   cases hg;cases h with
   | aF h=>obtain⟨b,o,c,e1,e2⟩:=sl _ _ _ _ hn h;exact⟨b,o,c,e1,.aF e2⟩
  | fr g=>
   cases h with
   | aF h=>cases h
   | fr h=>
    cases g with
    | sl n' cs=>cases hg;obtain⟨b,o,c,e1,e2⟩:=sl _ _ _ _ hn h;exact⟨b,o,c,e1,.fr e2⟩
    | _=>cases hg
  | _=>cases hg
 obtain⟨b,o,c,e1,e2⟩:=key;refine⟨_,e2,fun w'=>?_⟩;simp[execOp,e1,hrel.val hy,Instr.indexAt,asIntOf,run_underlying ht,h0,hn,hsz,Addr.lz]
theorem PY.cat {t t':TypeId}{x y:Operand}{a b:ByteArray}(hx:ev s x=some (.val (.string a))) (hy:ev s y=some (.val (.string b))) (hc:((a.size+b.size:Nat):Int)≤9223372036854775807):
  PY P s ⟨dst,.binOp .add t x y t',ty,pos,after,guard⟩ (.val (.string (a++b))):=fun _ _ _ _ _ hrel=>by
 refine⟨_,.aF (.val _),fun w'=>?_⟩;have hm:¬((a.size+b.size:Nat):Int)>IntKind.i64.max:=by
  have:IntKind.i64.max=9223372036854775807:=by decide
  omega
 have h:(do eqGuard .add t x y (.string a) (.string b);binOp .add t (.string a) (.string b):Sem Value).run P w'=.ok (.string (a++b)) w':=by
  simp only[eqGuard,binOp,Op.stringOp,if_neg hm];rfl
 simp only[execOp,hrel.val hx,hrel.val hy,Sem.run_bind,h,Result.andThen_ok,Sem.run_pure]
theorem PY.T1 {t:TypeId}{x y:Operand}{k:IntKind}{i:Int}{b:ByteArray}{c:UInt8}(hx:ev s x=some (.val (.string b))) (hy:ev s y=some (.val (.int k i)))
  (h0:0≤i) (hc:b[i.toNat]?=some c) (ht:P.underlying t=some .string):
  PY P s ⟨dst,.index t x y,ty,pos,after,guard⟩ (.val (.int .u8 c.toNat)):=fun _ cx μ a w hrel=>by
 refine⟨_,.aF (.val _),fun w'=>?_⟩;simp[execOp,hrel.val hx,hrel.val hy,Instr.index,asIntOf,run_underlying ht,h0,hc]
theorem PY.makeFunc {f:FuncId}{caps:Array Operand}{gs:List G}(hb:tG.contains f=false) (hc:caps.toList.map (ev s)=gs.map some):PY P s ⟨dst,.makeFunc (.func f) #[] caps,ty,pos,after,guard⟩ (.ba f gs):=fun _ cx μ a w hrel=>by
 have hcv:sE f (caps.toList.map a.eval)=.func (.func f) #[] (caps.toList.map a.eval).toArray:=by unfold sE;rw[hb]
 refine⟨.func (.func f) #[] (caps.toList.map a.eval).toArray,hcv▸.ba f gs _ ?_ ?_,fun w'=>?_⟩
 ·have:=congrArg List.length hc;simpa using this
 ·intro j g v hg hv;have h1:(caps.toList.map (AM.ev s))[j]?=some (some g):=by rw[hc,ak,hg];rfl
  rw[ak] at h1 hv;cases hcj:caps.toList[j]? with
  | none=>rw[hcj] at hv;cases hv
  | some x=>
   rw[hcj] at h1 hv;simp only[cd,km] at h1 hv;subst hv;exact hrel.ev h1
 ·simp only[execOp,Instr.makeFunc,Sem.run_bind,Sem.run_pure,Result.andThen_ok,Array.map_empty];congr 3;rw[←iu]
theorem PY.Su {f:FuncId}{x:Operand}{g:G}(hb:tG.contains f=true) (hx:ev s x=some g):PY P s ⟨dst,.makeFunc (.func f) #[x] #[],ty,pos,after,guard⟩ (.ba f [g]):=fun _ cx μ a w hrel=>by
 have hcv:sE f [a.eval x]=.func (.func f) #[a.eval x] #[]:=by unfold sE;rw[hb]
 refine⟨.func (.func f) #[a.eval x] #[],hcv▸.ba f [g] [a.eval x] rfl ?_,fun w'=>?_⟩
 ·intro j g' v hg hv;cases j with
  | zero=>
   simp only[iX,km] at hg hv;subst hg;subst hv;exact hrel.ev hx
  | succ j=>simp at hg
 ·simp[execOp,Instr.makeFunc]
end
end Go.AM
/-
 AM,part D:loads,reslicing,values built of parts.
-/
namespace Go.AM
section
variable {P:Program}{N:Nat}{cx:Cx}{s:St}{W:List Nat}
variable {dst:Option Tmp}{ty:TypeId}{pos:String}{after:Array Edge}{guard:Option (Nat×Bool)}
def Rl (W:List Nat) (s:St) (μ:Mu) (w w':World):Prop:=
 w.heap.size≤w'.heap.size∧∀b,b<w.heap.size→Hv W s.st μ b→w'.heap[b]?=w.heap[b]?
theorem Rel.own {μ:Mu}{a:Act}{w:World}(hrel:Rel N cx μ s a w){h:Nat}{k:av}(hk:ay s.st h=some k){b:Nat}{m:Mm}(hm:μ h=some (b,m)) (hlp:k.lp=none):
  ∃cs:Array Value,w.heap[b]?=some (.cells cs k.bI (0,0))∧cs.size=m.1∧k.cells.length≤m.1∧(k.ew=true→cx.base≤b)∧(k.sz≠0→m.1≤maxLen*k.sz)∧
   ∀(j:Nat) (g:G),k.cells[j]?=some g→∃v,cs[j]?=some v∧cZ (cx.O s.st μ) cx.base w μ k g v:=by
 have:=hrel.st.en h k hk;rw[hm] at this;exact this.cells hlp
theorem Rel.agree {μ:Mu}{a:Act}{w w':World}(hrel:Rel N cx μ s a w){h:Nat}{k:av}(hk:ay s.st h=some k){b:Nat}{m:Mm}(hm:μ h=some (b,m))
  (hW:W.contains h=false) (hag:Rl W s μ w w') (hb:b<w.heap.size):w'.heap[b]?=w.heap[b]?:=by
 refine hag.2 b hb ?_;intro h' k' c' m' hin hk' hm' hi;have:=hrel.st.de h h' k k' b b m c' m' hk hk' hm hm' (.self b m) hi;subst this;simp at hW;exact hW hin
theorem Rel.loc {μ:Mu}{a:Act}{w:World}(hrel:Rel N cx μ s a w){x:Operand}{h off:Nat}(hx:AM.ev s x=some (.loc h off)):∃b m,a.eval x=.pointer (some ⟨b,off,none⟩)∧μ h=some (b,m):=by
 have hr:=hrel.ev hx;generalize a.eval x=v at hr;cases hr with
 | aF h=>cases h
 | loc _ _ b m hm=>exact⟨b,m,rfl,hm⟩
theorem cell_of {w:World}{b:Nat}{cs:Array Value}{e:TypeId}{f:Nat×Nat}(h:w.heap[b]?=some (.cells cs e f)) (j:Nat):w.cell? ⟨b,j,none⟩=cs[j]?:=by
 simp[World.cell?,h]
theorem dQ {w:World}{b:Nat}{o:Obj}(h:w.heap[b]?=some o):b<w.heap.size:=(gX.1 h).1
theorem YL.load {t:TypeId}{x:Operand}{h off:Nat}{k:av}{g g':G}(hx:ev s x=some (.loc h off)) (hk:ay s.st h=some k) (hg:k.cells[off]?=some g)
  (hag:∀w,(isAgg t).run P w=.ok false w) (hW:W.contains h=false) (hout:k.out g=g') (hlp:k.lp=none:=by rfl):fI P W s ⟨dst,.load t x,ty,pos,after,guard⟩ g':=fun N cx μ a w hrel=>by
 subst hout;obtain⟨b,m,e1,hm⟩:=hrel.loc hx;obtain⟨cs,h1,h2,h3,h4,_,h5⟩:=hrel.own hk hm hlp;obtain⟨v,hv,hr⟩:=h5 off g hg;refine⟨v,hr.out,fun w' hs hw'=>?_⟩;have hb:=hrel.agree hk hm hW ⟨hs,hw'⟩ (dQ h1);rw[h1] at hb;have hc:w'.cell? ⟨b,off,none⟩=some v:=by rw[cell_of hb,hv]
 simp[execOp,e1,Instr.loadAt,Instr.sureAddr,loadVar,hag,hc]
theorem YL.Df {t:TypeId}{x:Operand}{h off:Nat}{k:av}{g:G}(hx:ev s x=some (.loc h off)) (hk:ay s.st h=some k) (hg:k.cells[off]?=some g)
  (hag:∀w,(isAgg t).run P w=.ok false w) (hW:W.contains h=false) (hp:k.pure=false) (hlp:k.lp=none:=by rfl):fI P W s ⟨dst,.load t x,ty,pos,after,guard⟩ g:=
 YL.load hx hk hg hag hW (by cases g <;> simp[av.out,hp]) hlp
theorem qY {w:World}{b off:Nat}{cs:Array Value}{e:TypeId}{f:Nat×Nat}(h:w.heap[b]?=some (.cells cs e f)) (sz:Nat) (hl:off+sz≤cs.size):
  (loadCells ⟨b,off,none⟩ sz).run P w=.ok ((cs.toList.drop off).take sz).toArray w:=by
 have hlen:((cs.toList.drop off).take sz).length=sz:=by
  rw[br,cf,b9];omega
 have:=run_loadCells_list (P:=P) w ⟨b,off,none⟩ ((cs.toList.drop off).take sz) (fun j v hv=>by
  rw[Addr.lz,cell_of h];rw[bo] at hv;split at hv
  ·rw[bE,bq] at hv;exact hv
  ·cases hv)
 rw[hlen] at this;exact this
theorem YL.OD {t:TypeId}{x:Operand}{h off sz:Nat}{k:av}(hx:ev s x=some (.loc h off)) (hk:ay s.st h=some k) (hp:k.pure=false)
  (hag:∀w,(isAgg t).run P w=.ok true w) (hsz:∀w,(sizeOf t).run P w=.ok sz w) (hl:off+sz≤k.cells.length) (hW:W.contains h=false) (hlp:k.lp=none:=by rfl):
  fI P W s ⟨dst,.load t x,ty,pos,after,guard⟩ (.agg ((k.cells.drop off).take sz)):=fun N cx μ a w hrel=>by
 obtain⟨b,m,e1,hm⟩:=hrel.loc hx;obtain⟨cs,h1,h2,h3,h4,_,h5⟩:=hrel.own hk hm hlp;refine⟨.agg ((cs.toList.drop off).take sz).toArray,.agg _ _ ?_ ?_,fun w' hs hw'=>?_⟩
 ·simp only[br,cf,b9];omega
 ·intro j g v hg hv;rw[bo] at hg hv;split at hg
  ·rename_i hj;rw[if_pos hj,bE,bq] at hv;rw[bE] at hg;obtain⟨v',hv',hr⟩:=h5 _ g hg;rw[hv] at hv';cases hv';unfold cZ at hr;rw[hp] at hr;exact hr
  ·cases hg
 ·have hb:=hrel.agree hk hm hW ⟨hs,hw'⟩ (dQ h1);rw[h1] at hb;have hl2:=qY (P:=P) hb sz (show off+sz≤cs.size by omega);simp[execOp,e1,Instr.loadAt,Instr.sureAddr,loadVar,hag,hsz,hl2]
theorem YL.UJ {t:TypeId}{x:Operand}{h off sz:Nat}{k:av}(hx:ev s x=some (.loc h off)) (hk:ay s.st h=some k)
  (hag:∀w,(isAgg t).run P w=.ok true w) (hsz:∀w,(sizeOf t).run P w=.ok sz w) (hl:off+sz≤k.cells.length) (hW:W.contains h=false) (hlp:k.lp=none:=by rfl):
  fI P W s ⟨dst,.load t x,ty,pos,after,guard⟩ (.agg (((k.cells.drop off).take sz).map k.out)):=fun N cx μ a w hrel=>by
 obtain⟨b,m,e1,hm⟩:=hrel.loc hx;obtain⟨cs,h1,h2,h3,h4,_,h5⟩:=hrel.own hk hm hlp;refine⟨.agg ((cs.toList.drop off).take sz).toArray,.agg _ _ ?_ ?_,fun w' hs hw'=>?_⟩
 ·simp only[aN,br,cf,b9];omega
 ·intro j g v hg hv;rw[ak,bo] at hg;rw[bo] at hv;split at hg
  ·rename_i hj;rw[if_pos hj,bE,bq] at hv;rw[bE] at hg;cases hgg:k.cells[off+j]? with
   | none=>rw[hgg] at hg;cases hg
   | some g0=>
    rw[hgg] at hg;cases hg;obtain⟨v',hv',hr⟩:=h5 _ g0 hgg;rw[hv] at hv';cases hv';exact hr.out
  ·cases hg
 ·have hb:=hrel.agree hk hm hW ⟨hs,hw'⟩ (dQ h1);rw[h1] at hb;have hl2:=qY (P:=P) hb sz (show off+sz≤cs.size by omega);simp[execOp,e1,Instr.loadAt,Instr.sureAddr,loadVar,hag,hsz,hl2]
def DY:G→G
 | .val v=>.val v
 | g=>.fr g
theorem bH.DY {O:Nat→Prop}{base:Nat}{w:World}{μ:Mu}{g:G}{v:Value}(h:bH (ir O base) w g v):aU O base w μ (AM.DY g) v:=by
 cases g with
 | val u=>cases h;exact .aF (.val _)
 | _=>exact .fr h
theorem Rel.xr {μ:Mu}{a:Act}{w w':World}(_hrel:Rel N cx μ s a w){b:Nat}(hO:¬cx.O s.st μ b) (hb:b<w.heap.size) (hag:Rl W s μ w w'):w'.heap[b]?=w.heap[b]?:=
 hag.2 b hb fun h k c m _ hk hm hi=>hO (.inr ⟨h,k,c,m,hk,hm,hi⟩)
theorem YL.ptr {t:TypeId}{x:Operand}{cs:List G}{g:G}(hx:ev s x=some (.ptr cs)) (hg:cs[0]?=some g) (hag:∀w,(isAgg t).run P w=.ok false w):
  fI P W s ⟨dst,.load t x,ty,pos,after,guard⟩ g:=fun N cx μ a w hrel=>by
 have hr:=hrel.ev hx;generalize e1:a.eval x=v at hr;cases hr with
 | aF hr=>cases hr with
  | ptr _ b off us hO hb hc hrr=>
   refine⟨us 0,.aF (hrr 0 g hg),fun w' hs hw'=>?_⟩;have h0:0<cs.length:=(ai.1 hg).1;have hcell:w'.cell? ⟨b,off,none⟩=some (us 0):=by
    rw[World.cell?_of_block (w:=w) (hrel.xr hO hb ⟨hs,hw'⟩)];exact hc 0 h0
   simp[execOp,e1,Instr.loadAt,Instr.sureAddr,loadVar,hag,hcell]
theorem YL.aab {t:TypeId}{x:Operand}{cs:List G}{g g':G}(hx:ev s x=some (.fr (.ptr cs))) (hg:cs[0]?=some g) (hag:∀w,(isAgg t).run P w=.ok false w) (hout:DY g=g'):
  fI P W s ⟨dst,.load t x,ty,pos,after,guard⟩ g':=fun N cx μ a w hrel=>by
 subst hout;have hr:=hrel.ev hx;generalize e1:a.eval x=v at hr;cases hr with
 | aF hr=>cases hr
 | fr hr=>cases hr with
  | ptr _ b off us hO hb hc hrr=>
   refine⟨us 0,(hrr 0 g hg).DY,fun w' hs hw'=>?_⟩;have h0:0<cs.length:=(ai.1 hg).1;have hcell:w'.cell? ⟨b,off,none⟩=some (us 0):=by
    rw[World.cell?_of_block (w:=w) (hrel.xr (fun h=>hO (.inr h)) hb ⟨hs,hw'⟩)];exact hc 0 h0
   simp[execOp,e1,Instr.loadAt,Instr.sureAddr,loadVar,hag,hcell]
theorem YL.Yg {t:TypeId}{x:Operand}{cs:List G}{sz:Nat}(hx:ev s x=some (.ptr cs)) (hl:sz≤cs.length) (hag:∀w,(isAgg t).run P w=.ok true w) (hsz:∀w,(sizeOf t).run P w=.ok sz w):
  fI P W s ⟨dst,.load t x,ty,pos,after,guard⟩ (.agg (cs.take sz)):=fun N cx μ a w hrel=>by
 have hr:=hrel.ev hx;generalize e1:a.eval x=v at hr;cases hr with
 | aF hr=>cases hr with
  | ptr _ b off us hO hb hc hrr=>
   refine⟨.agg ((List.range sz).map us).toArray,.agg _ _ (by simp;omega) ?_,fun w' hs hw'=>?_⟩
   ·intro j g v hg hv;rw[bo] at hg;split at hg
    ·rename_i hj;simp[ak,dr hj] at hv;subst hv;exact .aF (hrr j g hg)
    ·cases hg
   ·have hcell:∀j,j<sz→w'.cell? ((⟨b,off,none⟩:Addr).add j)=some (us j):=fun j hj=>by
     rw[Addr.lz,World.cell?_of_block (w:=w) (hrel.xr hO hb ⟨hs,hw'⟩)];exact hc j (by omega)
    simp[execOp,e1,Instr.loadAt,Instr.sureAddr,loadVar,hag,hsz,run_loadCells w' ⟨b,off,none⟩ sz us hcell]
theorem YL.WZ {t:TypeId}{x:Operand}{cs:List G}{sz:Nat}(hx:ev s x=some (.fr (.ptr cs))) (hl:sz≤cs.length) (hag:∀w,(isAgg t).run P w=.ok true w) (hsz:∀w,(sizeOf t).run P w=.ok sz w):
  fI P W s ⟨dst,.load t x,ty,pos,after,guard⟩ (.agg ((cs.take sz).map DY)):=fun N cx μ a w hrel=>by
 have hr:=hrel.ev hx;generalize e1:a.eval x=v at hr;cases hr with
 | aF hr=>cases hr
 | fr hr=>cases hr with
  | ptr _ b off us hO hb hc hrr=>
   refine⟨.agg ((List.range sz).map us).toArray,.agg _ _ (by simp;omega) ?_,fun w' hs hw'=>?_⟩
   ·intro j g v hg hv;rw[ak,bo] at hg;split at hg
    ·rename_i hj;simp[ak,dr hj] at hv;subst hv;cases hcj:cs[j]? with
     | none=>rw[hcj] at hg;cases hg
     | some g0=>rw[hcj] at hg;cases hg;exact(hrr j g0 hcj).DY
    ·cases hg
   ·have hcell:∀j,j<sz→w'.cell? ((⟨b,off,none⟩:Addr).add j)=some (us j):=fun j hj=>by
     rw[Addr.lz,World.cell?_of_block (w:=w) (hrel.xr (fun h=>hO (.inr h)) hb ⟨hs,hw'⟩)];exact hc j (by omega)
    simp[execOp,e1,Instr.loadAt,Instr.sureAddr,loadVar,hag,hsz,run_loadCells w' ⟨b,off,none⟩ sz us hcell]
theorem PY.S6 {t:TypeId}{x:Operand}{i:Nat}{fs:Array Field}{f:Field}{gs:List G}{g:G}(hx:ev s x=some (.agg gs)) (ht:P.underlying t=some (.struct fs)) (hf:fs[i]?=some f)
  (hag:∀w,(isAgg f.type).run P w=.ok false w) (hg:gs[f.offset]?=some g):PY P s ⟨dst,.field t x i,ty,pos,after,guard⟩ g:=fun N cx μ a w hrel=>by
 have hr:=hrel.ev hx;generalize e1:a.eval x=v at hr;have key:∃us:List Value,v=.agg us.toArray∧∃u,us[f.offset]?=some u∧aU (cx.O s.st μ) cx.base w μ g u:=by
  cases hr with
  | aF hr=>cases hr with
   | agg _ us hl hr=>
    have hi:f.offset<us.length:=by have:=(ai.1 hg).1;omega
    exact⟨us,rfl,us[f.offset],ag hi,.aF (hr _ g _ hg (ag hi))⟩
  | agg _ us hl hr=>
   have hi:f.offset<us.length:=by have:=(ai.1 hg).1;omega
   exact⟨us,rfl,us[f.offset],ag hi,hr _ g _ hg (ag hi)⟩
 obtain⟨us,rfl,u,hu,hru⟩:=key;refine⟨u,hru,fun w'=>?_⟩;simp[execOp,e1,Instr.field,run_underlying ht,hf,asAgg,part,hag,hu]
theorem PY.nilCheck {x:Operand}{g:G}(hx:ev s x=some g) (hg:(match g with | .loc .. | .ptr _ | .fr (.ptr _) | .ba ..=>true | _=>false)=true):PY P s ⟨dst,.nilCheck x,ty,pos,after,guard⟩ g:=fun N cx μ a w hrel=>by
 have hr:=hrel.ev hx;refine⟨_,hr,fun w'=>?_⟩;generalize e1:a.eval x=v at hr;have hp:∀(O:Nat→Prop) (cs:List G) (v:Value),bH O w (.ptr cs) v→∃p,v=.pointer (some p):=by
  intro O cs v h;cases h with
  | ptr _ b off us=>exact⟨_,rfl⟩
 cases g with
 | loc h off=>cases hr with
  | aF h=>cases h
  | loc _ _ b m hm=>simp[execOp,e1]
 | ptr cs=>cases hr with
  | aF h=>obtain⟨p,rfl⟩:=hp _ _ _ h;simp[execOp,e1]
 | ba f cs=>cases hr with
  | aF h=>cases h
  | ba _ _ us hl hr=>unfold sE at e1⊢;split <;> simp_all [execOp]
 | fr g=>cases hr with
  | aF h=>cases h
  | fr h=>cases g with
   | ptr cs=>obtain⟨p,rfl⟩:=hp _ _ _ h;simp[execOp,e1]
   | _=>cases hg
 | _=>cases hg
end
end Go.AM
/-
 AM,part E:operations that change the world:how they are said;regions that draw their order.
-/
namespace Go.AM
structure Step (W:List Nat) (st:List (Nat×av)) (μ:Mu) (st':List (Nat×av)) (μ':Mu) (w w':World):Prop where
 size:w.heap.size≤w'.heap.size
 block:∀b,b<w.heap.size→Hv W st μ b→w'.heap[b]?=w.heap[b]?
 hand:∀h k' c' m' b,h∈W→ay st' h=some k'→μ' h=some (c',m')→In b c' m'→(∃h0 k c m,h0∈W∧ay st h0=some k∧μ h0=some (c,m)∧In b c m)∨w.heap.size≤b
def cm (P:Program) (W:List Nat) (s:St) (o:Oper) (T:St→Prop):Prop:=
 (∀c,o.op≠.defer c)∧∀(N:Nat) (cx:Cx) (μ:Mu) (a:Act) (w:World),Rel N cx μ s a w→(∀d,o.dst=some d→d<N)→∀(K:Act→World→Prop) (Q:Exit→Act→World→Prop),
  (∀μ' s' a' w',Rel N cx μ' s' a' w'→T s'→Step W s.st μ s'.st μ' w w'→K a' w')→o.wp P a w K Q
def nH (P:Program) (W:List Nat) (s:St) (o:Oper) (T:St→Prop) (Tp:List PanicEntry→St→Prop):Prop:=
 (∀c,o.op≠.defer c)∧∀(N:Nat) (cx:Cx) (μ:Mu) (a:Act) (w:World),Rel N cx μ s a w→(∀d,o.dst=some d→d<N)→∀(K:Act→World→Prop) (Q:Exit→Act→World→Prop),
  (∀μ' s' a' w',Rel N cx μ' s' a' w'→T s'→Step W s.st μ s'.st μ' w w'→K a' w')→(∀ch μ' s' w',Rel N cx μ' s' a w'→Tp ch s'→Q (.panic ch) a w')→o.wp P a w K Q
theorem cm.p {P:Program}{W:List Nat}{s:St}{o:Oper}{T:St→Prop}(h:cm P W s o T):nH P W s o T fun _ _=>False:=
 ⟨h.1,fun N cx μ a w hr hN K Q hK _=>h.2 N cx μ a w hr hN K Q hK⟩
section
variable {P:Program}{N:Nat}{cx:Cx}{Q:Exit→St→Prop}{s:St}{ops:Array Oper}
theorem GL.XD {rest:List Oper}{o:Oper}{W:List Nat}{T:St→Prop}{Tp:List PanicEntry→St→Prop}(hw:ej ops s o.guard=some true) (hN:∀d,o.dst=some d→d<N) (he:nH P W s o T Tp)
  (h:∀s',T s'→GL P N cx ops Q rest s') (hp:∀ch s',Tp ch s'→Q (.panic ch) s'):GL P N cx ops Q (o::rest) s:=by
 intro μ a w hr;unfold wpListIn;rw[if_pos (fB hr hw)];exact F1 he.1 (he.2 N cx μ a w hr hN (wpListIn (FF cx.ro) 0 P ops (lift N cx Q) rest) (lift N cx Q) (fun μ' s' a' w' hr' ht _=>h s' ht μ' a' w' hr') fun ch μ' s' w' hr' ht=>⟨μ',s',hr',hp ch s' ht⟩)
theorem GL.effect {rest:List Oper}{o:Oper}{W:List Nat}{T:St→Prop}(hw:ej ops s o.guard=some true) (hN:∀d,o.dst=some d→d<N) (he:cm P W s o T)
  (h:∀s',T s'→GL P N cx ops Q rest s'):GL P N cx ops Q (o::rest) s:=by
 intro μ a w hr;unfold wpListIn;rw[if_pos (fB hr hw)];exact F1 he.1 (he.2 N cx μ a w hr hN (wpListIn (FF cx.ro) 0 P ops (lift N cx Q) rest) (lift N cx Q) (fun μ' s' a' w' hr' ht _=>h s' ht μ' a' w' hr'))
def aav (W:List Nat) (st:List (Nat×av)) (μ:Mu) (b:Nat):Prop:=∃h k c m,h∈W∧ay st h=some k∧μ h=some (c,m)∧In b c m
structure Sw (ws:World) (Wb:Nat→Prop) (w:World):Prop where
 size:ws.heap.size≤w.heap.size
 block:∀b,b<ws.heap.size→¬Wb b→w.heap[b]?=ws.heap[b]?
def rM (P:Program) (N:Nat) (cx:Cx) (ops:Array Oper) (Q:Exit→St→Prop) (W:List Nat) (bG:Nat) (listed:Array Bool) (s:St):Prop:=
 ∀μ a w,Rel N cx μ s a w→wpAnyH P .any ops (lift N cx Q) (Sw w (aav W s.st μ)) bG listed a w
def fY (P:Program) (N:Nat) (cx:Cx) (ops:Array Oper) (Q:Exit→St→Prop) (W:List Nat) (bG:Nat) (listed:Array Bool) (s:St):Prop:=
 ∀ws Wb μ a w,Rel N cx μ s a w→Sw ws Wb w→(∀h k c m b,h∈W→ay s.st h=some k→μ h=some (c,m)→In b c m→Wb b∨ws.heap.size≤b)→
  wpAnyH P .any ops (lift N cx Q) (Sw ws Wb) bG listed a w
theorem cI.drew {μ:Mu}{st:List (Nat×av)}{w:World}(h:cI cx μ st w):cI cx μ st w.drew:=
 {en:=fun x k hx=>(h.en x k hx).mono (fun _ _ _ _ _=>rfl) ⟨aG _,fun _ _ _=>rfl⟩ (fun _ _ h=>h),de:=h.de,cq:=h.cq,fD:=h.fD,fg:=h.fg,hb:=h.hb,os:=h.os,tape:=h.tape,output:=h.output,gl:=h.gl,dq:=h.dq}
theorem Rel.drew {μ:Mu}{a:Act}{w:World}(h:Rel N cx μ s a w):Rel N cx μ s a w.drew:=
 {st:=h.st.drew,nd:=h.nd.mono ⟨aG _,fun _ _ _=>rfl⟩ (fun _ _ h=>h),sz:=h.sz,fr:=fun t g hg=>let ⟨v,hv,hr⟩:=h.fr t g hg;⟨v,hv,hr.mono ⟨aG _,fun _ _ _=>rfl⟩ (fun _ _ h=>h) (aG _)⟩}
theorem WD {ro:Option Nat}{n i:Nat}{K K':Act→World→Prop}{a:Act}{w:World}(hd:tg ops.toList=true) (hK:∀a w,K a w→K' a w)
  (h:wpOp P ops (lift N cx Q) i K a w):wpOpIn (FF ro) n P ops (lift N cx Q) i K' a w:=by
 unfold wpOp at h;unfold wpOpIn;cases ho:ops[i]? with
 | none=>rw[ho] at h;exact hK _ _ h
 | some o=>
  rw[ho] at h;dsimp only at h⊢;split
  ·rename_i hw;rw[if_pos hw] at h;rcases h with h | ⟨_,h⟩
   ·exact F1 (fun c=>NO hd (by rw[Array.mem_toList_iff];exact Array.mem_of_getElem? ho) c) (Oper.wp_mono hK h)
   ·exact absurd h Me
  ·rename_i hw;rw[if_neg hw] at h;exact⟨fun _ _=>trivial,hK _ _ h⟩
theorem KU {ro:Option Nat}{n:Nat}(hd:tg ops.toList=true):∀(bG:Nat) (listed:Array Bool) (a:Act) (w:World),wpAny P .any ops (lift N cx Q) bG listed a w→wpAnyIn (FF ro) n P .any ops (lift N cx Q) bG listed a w
 | 0,_,_,_,h=>h
 | bG+1,_,_,_,h=>⟨h.1,fun i hi=>WD hd (fun a w=>KU hd bG _ a w) (h.2 i hi)⟩
theorem GW.KN {id:Nat}(W:List Nat) (hm:P.follows .mixedOrders=true) (h:rM P N cx ops Q W ops.size (Array.replicate ops.size false) s) (hd:tg ops.toList=true:=by rfl):GW P N cx (.region id ops true) Q s:=by
 intro μ a w hr;exact wpIn_region_any hm (KU hd _ _ _ _ (wpAny_of_held _ _ _ _ (h μ a _ hr.drew)))
def NC (Q:Exit→St→Prop) (ds:List Nat):Prop:=∀c s,Q (.panic c) s→∀d,d∈ds→get s.fr d=none
def wx (ops:Array Oper):List Nat:=ops.toList.filterMap (·.dst)
theorem zQ {ops:Array Oper}{i:Nat}{o:Oper}{d:Nat}(hi:ops[i]?=some o) (hd:o.dst=some d):d∈wx ops:=
 List.mem_filterMap.2 ⟨o,by rw[Array.mem_toList_iff];exact Array.mem_of_getElem? hi,hd⟩
theorem vm {c:List PanicEntry}{a:Act}{d:Nat}{v:Value}{w:World}{ds:List Nat}(hp:NC Q ds) (hd:d∈ds):lift N cx Q (.panic c) (a.put (some d) v) w→lift N cx Q (.panic c) a w:=by
 rintro⟨μ,s,hr,hq⟩;refine⟨μ,s,{st:=hr.st,nd:=hr.nd,sz:=by have:=hr.sz;simpa[Act.put] using this,fr:=fun t g hg=>?_},hq⟩;obtain⟨u,hu,hru⟩:=hr.fr t g hg;have hne:d≠t:=fun e=>by subst e;rw[hp c s hq d hd] at hg;cases hg
 simp only[Act.put] at hu;rw[gR hne] at hu;exact⟨u,hu,hru⟩
theorem rM.take {W:List Nat}{bG:Nat}{listed:Array Bool}(i:Nat){o:Oper}{d:Nat}{g:G}(hp:NC Q (wx ops)) (hi:ops[i]?=some o) (hs:Region.noSelect ops=true) (hf:Region.free .any ops listed i=true)
  (hr:(Region.ready .any ops listed).contains i=true) (hw:ej ops s o.guard=some true) (hd:o.dst=some d) (hN:d<N) (hy:fI P W s o g)
  (h:rM P N cx ops Q W bG (listed.setIfInBounds i true) (s.put d g)):rM P N cx ops Q W (bG+1) listed s:=by
 intro μ a w hrel;obtain⟨v,hv,hrun⟩:=hy N cx μ a w hrel;refine wpAnyH_take (v:=v) hi hs hf hr (fun c a' w' h=>vm hp (zQ hi hd) (hd▸h)) ?_ ⟨aG _,fun _ _ _=>rfl⟩ ?_
 ·refine .inl ⟨fB hrel hw,fun w' hS=>?_⟩;exact hrun w' hS.size fun b hb hn=>hS.block b hb fun ⟨h,k,c,m,h1,h2,h3,h4⟩=>hn h k c m h1 h2 h3 h4
 ·rw[hd];exact h μ _ w (hrel.put hN hv)
theorem fY.done {W:List Nat}{bG:Nat}{listed:Array Bool}(hr:Region.ready .any ops listed=[]) (h:Q .normal s):fY P N cx ops Q W bG listed s:=
 fun _ _ μ _ _ hrel _ _=>wpAnyH_done hr ⟨μ,s,hrel,h⟩ bG
theorem rM.later {W:List Nat}{bG:Nat}{listed:Array Bool}(h:fY P N cx ops Q W bG listed s):rM P N cx ops Q W bG listed s:=fun μ a w hrel=>
 h w _ μ a w hrel ⟨aG _,fun _ _ _=>rfl⟩ (fun h k c m _ h1 h2 h3 h4=>.inl ⟨h,k,c,m,h1,h2,h3,h4⟩)
theorem fY.take {W:List Nat}{bG:Nat}{listed:Array Bool}(i:Nat){o:Oper}{d:Nat}{g:G}(hp:NC Q (wx ops)) (hi:ops[i]?=some o) (hs:Region.noSelect ops=true) (hf:Region.free .any ops listed i=true)
  (hr:(Region.ready .any ops listed).contains i=true) (hw:ej ops s o.guard=some true) (hd:o.dst=some d) (hN:d<N) (hy:PY P s o g)
  (h:fY P N cx ops Q W bG (listed.setIfInBounds i true) (s.put d g)):fY P N cx ops Q W (bG+1) listed s:=by
 intro ws Wb μ a w hrel hS hW;obtain⟨v,hv,hrun⟩:=hy N cx μ a w hrel;refine wpAnyH_take (v:=v) hi hs hf hr (fun c a' w' h=>vm hp (zQ hi hd) (hd▸h)) (.inl ⟨fB hrel hw,fun w' _=>hrun w'⟩) hS ?_;rw[hd];exact h ws Wb μ _ w (hrel.put hN hv) hS hW
theorem fY.aac {W:List Nat}{bG:Nat}{listed:Array Bool}(i:Nat){o:Oper}{d:Nat}{g:G}(hr:Region.ready .any ops listed=[i]) (hi:ops[i]?=some o)
  (hw:ej ops s o.guard=some true) (hd:o.dst=some d) (hN:d<N) (hy:fI P [] s o g)
  (h:fY P N cx ops Q W bG (listed.setIfInBounds i true) (s.put d g)):fY P N cx ops Q W (bG+1) listed s:=by
 intro ws Wb μ a w hrel hS hW;obtain⟨v,hv,hrun⟩:=hy N cx μ a w hrel;have hrun:=hrun w (aG _) (fun _ _ _=>rfl);refine wpAnyH_all hr (by simp) fun j hj=>?_;obtain rfl:j=i:=by simpa using hj
 unfold wpOp;simp only[hi];rw[if_pos (fB hrel hw)];refine .inl ?_;unfold Oper.wp;rw[hrun];show Sw ws Wb w∧_;refine⟨hS,?_⟩;rw[hd];exact h ws Wb μ _ w (hrel.put hN hv) hS hW
theorem fY.one {W:List Nat}{bG:Nat}{listed:Array Bool}(i:Nat){o:Oper}{T:St→Prop}(hr:Region.ready .any ops listed=[i]) (hi:ops[i]?=some o)
  (hw:ej ops s o.guard=some true) (hN:∀d,o.dst=some d→d<N) (he:cm P W s o T)
  (h:∀s',T s'→fY P N cx ops Q W bG (listed.setIfInBounds i true) s'):fY P N cx ops Q W (bG+1) listed s:=by
 intro ws Wb μ a w hrel hS hW;refine wpAnyH_all hr (by simp) fun j hj=>?_;obtain rfl:j=i:=by simpa using hj
 unfold wpOp;simp only[hi];rw[if_pos (fB hrel hw)];have:=he.2 N cx μ a w hrel hN (fun a' w'=>Sw ws Wb w'∧wpAnyH P .any ops (lift N cx Q) (Sw ws Wb) bG (listed.setIfInBounds j true) a' w') (lift N cx Q) ?_
 ·exact .inl this
 ·intro μ' s' a' w' hrel' ht hst;have hS':Sw ws Wb w':=by
   refine⟨cK hS.size hst.size,fun b hb hn=>?_⟩;rw[hst.block b (cJ hb hS.size) ?_]
   ·exact hS.block b hb hn
   ·intro h k c m h1 h2 h3 hi;rcases hW h k c m b h1 h2 h3 hi with h4 | h4
    ·exact hn h4
    ·omega
  refine⟨hS',h s' ht ws Wb μ' a' w' hrel' hS' ?_⟩;intro h k' c m b h1 h2 h3 hi;rcases hst.hand h k' c m b h1 h2 h3 hi with ⟨h0,k,c0,m0,hw0,h4,h5,h6⟩ | h4
  ·exact hW h0 k c0 m0 b hw0 h4 h5 h6
  ·exact .inr (cK hS.size h4)
theorem fY.aad {W:List Nat}{bG:Nat}{listed:Array Bool}(i:Nat){o:Oper}{T:St→Prop}{Tp:List PanicEntry→St→Prop}(hr:Region.ready .any ops listed=[i]) (hi:ops[i]?=some o)
  (hw:ej ops s o.guard=some true) (hN:∀d,o.dst=some d→d<N) (he:nH P W s o T Tp)
  (h:∀s',T s'→fY P N cx ops Q W bG (listed.setIfInBounds i true) s') (hp:∀ch s',Tp ch s'→Q (.panic ch) s'):fY P N cx ops Q W (bG+1) listed s:=by
 intro ws Wb μ a w hrel hS hW;refine wpAnyH_all hr (by simp) fun j hj=>?_;obtain rfl:j=i:=by simpa using hj
 unfold wpOp;simp only[hi];rw[if_pos (fB hrel hw)];have:=he.2 N cx μ a w hrel hN (fun a' w'=>Sw ws Wb w'∧wpAnyH P .any ops (lift N cx Q) (Sw ws Wb) bG (listed.setIfInBounds j true) a' w') (lift N cx Q) ?_ (fun ch μ' s' w' hr' ht=>⟨μ',s',hr',hp ch s' ht⟩)
 ·exact .inl this
 ·intro μ' s' a' w' hrel' ht hst;have hS':Sw ws Wb w':=by
   refine⟨cK hS.size hst.size,fun b hb hn=>?_⟩;rw[hst.block b (cJ hb hS.size) ?_]
   ·exact hS.block b hb hn
   ·intro h k c m h1 h2 h3 hi;rcases hW h k c m b h1 h2 h3 hi with h4 | h4
    ·exact hn h4
    ·omega
  refine⟨hS',h s' ht ws Wb μ' a' w' hrel' hS' ?_⟩;intro h k' c m b h1 h2 h3 hi;rcases hst.hand h k' c m b h1 h2 h3 hi with ⟨h0,k,c0,m0,hw0,h4,h5,h6⟩ | h4
  ·exact hW h0 k c0 m0 b hw0 h4 h5 h6
  ·exact .inr (cK hS.size h4)
end
end Go.AM
/-
 AM,part F:new blocks,stores.
-/
namespace Go.AM
def lk (μ:Mu) (h:Nat) (x:Option (Nat×Mm)):Mu:=fun k=>if k=h then x else μ k
theorem b7 (μ:Mu) (h:Nat) (x:Option (Nat×Mm)):lk μ h x h=x:=by simp[lk]
theorem aZ {μ:Mu}{h k:Nat}{x:Option (Nat×Mm)}(hne:k≠h):lk μ h x k=μ k:=by simp[lk,hne]
def Cf (h:Nat):List (Nat×G)→Bool
 | []=>true
 | (_,g)::r=>!(g.cv h)&&Cf h r
def xP (h:Nat):List (Nat×av)→Bool
 | []=>true
 | (_,k)::r=>(k.pure||!(G.cv.go h k.cells))&&xP h r
def fresh (s:St) (h:Nat):Bool:=(ay s.st h).isNone&&(Cf h s.fr&&(xP h s.st&&(qn h s.df&&Nat.blt h 1000)))
theorem j5 {h:Nat}(hl:Nat.blt h 1000=true):pinned h=false:=by
 unfold pinned;simp[gG] at hl;cases hb:Nat.ble 1000 h with
 | false=>rfl
 | true=>have:=fK hb;omega
theorem mX {h:Nat}{fr:List (Nat×G)}(hf:Cf h fr=true){t:Nat}{g:G}(hg:get fr t=some g):g.cv h=false:=by
 induction fr with
 | nil=>cases hg
 | cons x r ih=>
  obtain⟨k,g'⟩:=x;simp only[Cf,af,aS] at hf;rw[iS] at hg;cases hk:Nat.beq k t with
  | true=>rw[hk] at hg;cases hg;exact hf.1
  | false=>rw[hk] at hg;exact ih hf.2 hg
theorem J8 {h:Nat}{cs:List G}(hf:G.cv.go h cs=false){g:G}(hg:g∈cs):g.cv h=false:=by
 cases hh:g.cv h with
 | false=>rfl
 | true=>rw[G.rC hg hh] at hf;cases hf
theorem sY {h:Nat}{st:List (Nat×av)}(hf:xP h st=true){x:Nat}{k:av}(hk:ay st x=some k) (hp:k.pure=false){g:G}(hg:g∈k.cells):g.cv h=false:=by
 induction st with
 | nil=>cases hk
 | cons y r ih=>
  obtain⟨z,k'⟩:=y;simp only[xP,af] at hf;simp only[ay] at hk;cases hz:Nat.beq z x with
  | true=>
   rw[hz] at hk;cases hk;have:=hf.1;rw[hp,fW,aS] at this;exact J8 this hg
  | false=>rw[hz] at hk;exact ih hf.2 hk
theorem cZ.gS {O:Nat→Prop}{base:Nat}{w:World}{μ μ':Mu}{k:av}{g:G}{v:Value}(h:cZ O base w μ k g v)
  (hμ:k.pure=false→∀x,g.cv x=true→μ' x=μ x):cZ O base w μ' k g v:=by
 unfold cZ at *;cases hp:k.pure with
 | true=>rw[hp] at h;exact h
 | false=>rw[hp] at h;exact aU.gS h (hμ hp)
section
variable {P:Program}{N:Nat}{cx:Cx}{s:St}
variable {ty:TypeId}{pos:String}{after:Array Edge}{guard:Option (Nat×Bool)}
theorem p8 (O:Nat→Prop) (w:World) (o:Obj):Kept O w (w.alloc o):=⟨by simp,fun b hb _=>dO w o b hb⟩
theorem rr (h x:Nat) (k:av) (r:List (Nat×av)):ay ((h,k)::r) x=bif Nat.beq h x then some k else ay r x:=rfl
theorem dU (h:Nat) (k:av) (r:List (Nat×av)):ay ((h,k)::r) h=some k:=by rw[rr,aW];rfl
theorem aB {h x:Nat}(k:av) (r:List (Nat×av)) (hne:x≠h):ay ((h,k)::r) x=ay r x:=by
 rw[rr];cases hb:Nat.beq h x with
 | false=>rfl
 | true=>exact absurd (ab hb).symm hne
theorem cI.alloc {μ:Mu}{st:List (Nat×av)}{w:World}(h:cI cx μ st w){hd:Nat}{k:av}{cs:Array Value}(hfr:ay st hd=none) (hno:xP hd st=true) (hpn:pinned hd=false) (hlp:k.lp=none)
  (hlen:k.cells.length≤cs.size) (hbt:k.sz≠0→cs.size≤maxLen*k.sz) (hcells:∀(j:Nat) (g:G),k.cells[j]?=some g→∃v,cs[j]?=some v∧cZ (cx.O st μ) cx.base w μ k g v) (hk:k.pure=false→∀g,g∈k.cells→g.cv hd=false):
  cI cx (lk μ hd (some (w.heap.size,cs.size,[]))) ((hd,k)::st) (w.alloc (.cells cs k.bI))∧
  (∀b,b<w.heap.size→¬cx.O st μ b→¬cx.O ((hd,k)::st) (lk μ hd (some (w.heap.size,cs.size,[]))) b):=by
 have hO:∀b,b<w.heap.size→¬cx.O st μ b→¬cx.O ((hd,k)::st) (lk μ hd (some (w.heap.size,cs.size,[]))) b:=by
  intro b hb hn ho;rcases ho with ho | ⟨x,k',c,m,h1,h2,h3⟩
  ·exact hn (.inl ho)
  ·by_cases e:x=hd
   ·subst e;rw[b7] at h2;cases h2;rw[In.plain.1 h3] at hb;omega
   ·rw[aB k st e] at h1;rw[aZ e] at h2;exact hn (.inr ⟨x,k',c,m,h1,h2,h3⟩)
 have hlt:∀x k' b m y,ay st x=some k'→μ x=some (b,m)→In y b m→y<w.heap.size:=fun x k' b m y h1 h2 h3=>(h.cq x k' b m y h1 h2 h3).2.2.1;have hkept:=p8 (cx.O st μ) w (.cells cs k.bI);refine⟨{en:=?_,de:=?_,cq:=?_,fD:=?_,fg:=h.fg,hb:=?_,os:=h.os,tape:=h.tape,output:=h.output,gl:=h.gl,dq:=?_},hO⟩
 ·intro x k' h1
  by_cases e:x=hd
  ·subst e;rw[dU] at h1;cases h1;rw[b7];refine .mk hlp rfl ⟨cs,heap_alloc_new w _,rfl,hlen,fun _=>h.hb,hbt,fun j g hg=>?_⟩;obtain⟨v,hv,hr⟩:=hcells j g hg;refine⟨v,hv,(hr.mono hkept hO).gS fun hp y hy=>aZ ?_⟩;intro e;subst e;rw[hk hp g (aj hg)] at hy;cases hy
  ·rw[aB k st e] at h1;rw[aZ e];refine((h.en x k' h1).mono (fun b m hm y hy=>dO w _ y (hlt x k' b m y h1 hm hy)) hkept hO).gS fun hp g hg y hy=>aZ ?_;intro e;subst e;rw[sY hno h1 hp hg] at hy;cases hy
 ·intro x x' k1 k2 y b m b' m' h1 h2 h3 h4 h5 h6
  by_cases e:x=hd
  ·by_cases e':x'=hd
   ·rw[e,e']
   ·subst e;rw[b7] at h3;rw[aZ e'] at h4;rw[aB k st e'] at h2;cases h3;have:=hlt x' k2 _ m' y h2 h4 h6;rw[In.plain.1 h5] at this;omega
  ·by_cases e':x'=hd
   ·subst e';rw[b7] at h4;rw[aZ e] at h3;rw[aB k st e] at h1;cases h4;have:=hlt x k1 _ m y h1 h3 h5;rw[In.plain.1 h6] at this;omega
   ·rw[aB k st e] at h1;rw[aB k st e'] at h2;rw[aZ e] at h3;rw[aZ e'] at h4;exact h.de x x' k1 k2 y b m b' m' h1 h2 h3 h4 h5 h6
 ·intro x k' b m y h1 h2 h3
  by_cases e:x=hd
  ·subst e;rw[b7] at h2;cases h2;rw[In.plain.1 h3];refine⟨fun hx=>?_,.inl h.hb,by simp,fun _=>h.hb⟩;have:=h.fg _ hx;have:=h.hb;omega
  ·rw[aB k st e] at h1;rw[aZ e] at h2;obtain⟨a1,a2,a3,a4⟩:=h.cq x k' b m y h1 h2 h3;exact⟨a1,a2,by simp only[World.size_alloc];omega,a4⟩
 ·intro x k1 h1 h2
  by_cases e:x=hd
  ·subst e;rw[hpn] at h2;cases h2
  ·rw[aB k st e] at h1;rw[aZ e];exact h.fD x k1 h1 h2
 ·simp only[World.size_alloc];have:=h.hb;omega
 ·intro b hb hA;rw[dO w _ b (by have:=h.hb;omega)];exact h.dq b hb hA
theorem PA {μ:Mu}{st:List (Nat×av)}{w:World}{W:List Nat}{hd:Nat}{k:av}{cs:Array Value}(_hfr:ay st hd=none):
  Step W st μ ((hd,k)::st) (lk μ hd (some (w.heap.size,cs.size,[]))) w (w.alloc (.cells cs k.bI)):=by
 refine⟨by simp,fun b hb _=>dO w _ b hb,fun h k' c m b hw h1 hm hi=>?_⟩
 by_cases e:h=hd
 ·subst e;rw[b7] at hm;cases hm;exact .inr (by rw[In.plain.1 hi];exact aG _)
 ·rw[aB k st e] at h1;rw[aZ e] at hm;exact .inl ⟨h,k',c,m,hw,h1,hm,hi⟩
theorem Rel.alloc {μ : Mu} {a : Act} {w : World} (h : Rel N cx μ s a w) {hd : Nat} {k : av} {cs : Array Value} (hfr : fresh s hd = true)
  (hlp : k.lp = none) (hlen : k.cells.length ≤ cs.size) (hbt : k.sz ≠ 0 → cs.size ≤ maxLen * k.sz) (hcells : ∀ (j : Nat) (g : G), k.cells[j]? = some g → ∃ v, cs[j]? = some v ∧ cZ (cx.O s.st μ) cx.base w μ k g v) (hk : k.pure = false → ∀ g, g ∈ k.cells → g.cv hd = false) :
  Rel N cx (lk μ hd (some (w.heap.size, cs.size, []))) { fr := s.fr, st := (hd, k) :: s.st, df := s.df } a (w.alloc (.cells cs k.bI)) := by
 unfold fresh at hfr
 simp only [af, Option.isNone_iff_eq_none] at hfr
 obtain ⟨h1, h2, h3, h5, h6⟩ := hfr
 obtain ⟨h4, hO⟩ := h.st.alloc h1 h3 (j5 h6) hlp hlen hbt hcells hk
 refine { st := h4, nd := (h.nd.mono (p8 _ w _) hO).gS (fun g hg y hy => aZ fun e => by subst e; rw [pP h5 hg] at hy; cases hy), sz := h.sz, fr := fun t g hg => ?_ }
 obtain ⟨v, hv, hr⟩ := h.fr t g hg
 refine ⟨v, hv, (hr.mono (p8 _ w _) hO (aG _)).gS fun y hy => aZ ?_⟩
 intro e
 subst e
 rw [mX h2 hg] at hy
 cases hy
def cT:G→List G
 | .agg gs=>gs
 | .val v=>v.cells.toList.map .val
 | .fr (.agg gs)=>gs.map DY
 | g=>[g]
def Gv:G→Bool
 | .any=>false
 | .fr (.val _)=>false
 | .fr .any=>false
 | _=>true
theorem aU.cells {O:Nat→Prop}{base:Nat}{w:World}{μ:Mu}{g:G}{v:Value}(h:aU O base w μ g v) (hg:Gv g=true):
  v.cells.size=(cT g).length∧∀(j:Nat) (g':G),(cT g)[j]?=some g'→∃u,v.cells[j]?=some u∧aU O base w μ g' u:=by
 have one:∀(g:G) (v:Value),cT g=[g]→v.cells=#[v]→aU O base w μ g v→
   v.cells.size=(cT g).length∧∀(j:Nat) (g':G),(cT g)[j]?=some g'→∃u,v.cells[j]?=some u∧aU O base w μ g' u:=by
  intro g v h1 h2 h3;rw[h1,h2];refine⟨rfl,fun j g' hg'=>?_⟩;cases j with
  | zero=>cases hg';exact⟨v,rfl,h3⟩
  | succ j=>cases hg'
 have aggI:∀(O':Nat→Prop) (gs:List G) (v:Value),bH O' w (.agg gs) v→∃us:List Value,v=.agg us.toArray∧us.length=gs.length∧∀(j:Nat) (g:G) (v:Value),gs[j]?=some g→us[j]?=some v→bH O' w g v:=by
  intro O' gs v h;cases h with
  | agg _ us hl hr=>exact⟨us,rfl,hl,hr⟩
 cases g with
 | any=>cases hg
 | val u=>
  cases h with
  | aF h=>
   cases h;refine⟨by simp[cT],fun j g' hg'=>?_⟩;simp only[cT,ak,bq] at hg';cases hu:v.cells[j]? with
   | none=>rw[hu] at hg';cases hg'
   | some x=>rw[hu] at hg';cases hg';exact⟨x,rfl,.aF (.val _)⟩
 | agg gs=>
  have key:∃us:List Value,v=.agg us.toArray∧us.length=gs.length∧∀(j:Nat) (g:G) (v:Value),gs[j]?=some g→us[j]?=some v→aU O base w μ g v:=by
   cases h with
   | aF h=>obtain⟨us,e,hl,hr⟩:=aggI _ _ _ h;exact⟨us,e,hl,fun j g v h1 h2=>.aF (hr j g v h1 h2)⟩
   | agg _ us hl hr=>exact⟨us,rfl,hl,hr⟩
  obtain⟨us,rfl,hl,hr⟩:=key;refine⟨by simpa[Value.cells,cT] using hl,fun j g' hg'=>?_⟩;have hj:j<us.length:=by have:=(ai.1 hg').1;simp only[cT] at this;omega
  exact⟨us[j],by simp[Value.cells,hj],hr j g' _ hg' (ag hj)⟩
 | fr g=>
  cases h with
  | aF h=>cases h
  | fr h=>
   cases g with
   | agg gs=>
    obtain⟨us,rfl,hl,hr⟩:=aggI _ _ _ h;refine⟨by simpa[Value.cells,cT] using hl,fun j g' hg'=>?_⟩;simp only[cT,ak] at hg';cases hgj:gs[j]? with
    | none=>rw[hgj] at hg';cases hg'
    | some g0=>
     rw[hgj] at hg';cases hg';have hj:j<us.length:=by have:=(ai.1 hgj).1;omega
     exact⟨us[j],by simp[Value.cells,hj],(hr j g0 _ hgj (ag hj)).DY⟩
   | sl n cs=>cases h <;> exact one _ _ rfl rfl (.fr (by first | exact .nil | (constructor <;> assumption)))
   | ptr cs=>cases h <;> exact one _ _ rfl rfl (.fr (by constructor <;> assumption))
   | dw b=>exact one _ _ rfl (by cases h with | dw _ _ hb=>cases v <;> first | rfl | cases hb) (.fr h)
   | val u=>cases hg
   | any=>cases hg
   | _=>cases h
 | sl n cs=>
  cases h with
  | aF h=>exact one _ _ rfl (by cases h <;> rfl) (.aF h)
 | ptr cs=>
  cases h with
  | aF h=>exact one _ _ rfl (by cases h;rfl) (.aF h)
 | dw b=>
  cases h with
  | aF h=>exact one _ _ rfl (by cases h with | dw _ _ hb=>cases v <;> first | rfl | cases hb) (.aF h)
 | loc x off=>
  cases h with
  | aF h=>cases h
  | loc _ _ b m hm=>exact one _ _ rfl rfl (.loc x off b m hm)
 | aL x sz off n=>
  refine one _ _ rfl ?_ h;cases h with
  | aF h=>cases h
  | _=>rfl
 | ba f cs=>
  refine one _ _ rfl ?_ h;cases h with
  | aF h=>cases h
  | ba _ _ us=>obtain⟨A,B,e,_⟩:=IC f us;rw[e];rfl
 | bB cs=>
  refine one _ _ rfl ?_ h;cases h with
  | aF h=>cases h
  | _=>rfl
 | cW y=>
  refine one _ _ rfl ?_ h;cases h with
  | aF h=>cases h
  | _=>rfl
 | kp y i off=>
  refine one _ _ rfl ?_ h;cases h with
  | aF h=>cases h
  | _=>rfl
 | ks y i sz n=>
  refine one _ _ rfl ?_ h;cases h with
  | aF h=>cases h
  | _=>rfl
 | eN y=>
  refine one _ _ rfl ?_ h;cases h with
  | aF h=>cases h
  | _=>rfl
theorem DX {g g':G}{h:Nat}(hg':g'∈cT g) (hh:g'.cv h=true):g.cv h=true:=by
 cases g with
 | agg gs=>simp only[cT] at hg';simp only[G.cv];exact G.rC hg' hh
 | val v=>
  simp only[cT,fc] at hg';obtain⟨x,_,rfl⟩:=hg';cases hh
 | fr g=>
  have one:cT (.fr g)=[.fr g]→False:=fun e=>by
   rw[e,c8] at hg';subst hg';cases hh
  cases g with
  | agg gs=>
   simp only[cT,fc] at hg';obtain⟨x,_,rfl⟩:=hg';cases x <;> cases hh
  | _=>exact(one rfl).elim
 | _=>
  simp only[cT,c8] at hg';subst hg';exact hh
theorem O5 {x:Operand}{g:G}(he:AM.ev s x=some g){h:Nat}(hf:Cf h s.fr=true):g.cv h=false:=by
 cases x with
 | tmp t=>exact mX hf he
 | const v=>cases he;rfl
 | func f=>cases he;rfl
 | global g=>cases he
theorem cm.of {W:List Nat}{o:Oper}{d:Nat}{s1:St}{g:G}(hd:o.dst=some d) (di:∀c,o.op≠.defer c)
  (h:∀(N:Nat) (cx:Cx) (μ:Mu) (a:Act) (w:World),Rel N cx μ s a w→∃v μ' w',(execOp a.eval o).run P w=.ok (.value v) w'∧Rel N cx μ' s1 a w'∧
   aU (cx.O s1.st μ') cx.base w' μ' g v∧Step W s.st μ s1.st μ' w w'):cm P W s o (·=s1.put d g):=by
 refine⟨di,?_⟩;intro N cx μ a w hr hN K Q hK;obtain⟨v,μ',w',hrun,hr',hv,hst⟩:=h N cx μ a w hr;unfold Oper.wp;rw[hrun];show K (a.put o.dst v) w';rw[hd];exact hK μ' _ _ _ (hr'.put (hN d hd) hv) rfl hst
theorem cm.skip {W:List Nat}{o:Oper}{s1:St}(hd:o.dst=none) (di:∀c,o.op≠.defer c)
  (h:∀(N:Nat) (cx:Cx) (μ:Mu) (a:Act) (w:World),Rel N cx μ s a w→∃μ' w',(execOp a.eval o).run P w=.ok .skip w'∧Rel N cx μ' s1 a w'∧Step W s.st μ s1.st μ' w w'):cm P W s o (·=s1):=by
 refine⟨di,?_⟩;intro N cx μ a w hr hN K Q hK;obtain⟨μ',w',hrun,hr',hst⟩:=h N cx μ a w hr;unfold Oper.wp;rw[hrun];show K (a.put o.dst undef) w';rw[hd];exact hK μ' _ _ _ hr' rfl hst
theorem gr {h:Nat}(hf:fresh s h=true):ay s.st h=none∧Cf h s.fr=true∧xP h s.st=true∧qn h s.df=true∧Nat.blt h 1000=true:=by
 unfold fresh at hf;simpa only[af,Option.isNone_iff_eq_none] using hf
theorem Rel.tO {μ : Mu} {a : Act} {w : World} (h : Rel N cx μ s a w) {hd : Nat} (k : av) {cs : Array Value} (hfr : fresh s hd = true)
  (hlp : k.lp = none) (hlen : k.cells.length ≤ cs.size) (hbt : k.sz ≠ 0 → cs.size ≤ maxLen * k.sz) (hcells : ∀ (j : Nat) (g : G), k.cells[j]? = some g → ∃ v, cs[j]? = some v ∧ cZ (cx.O s.st μ) cx.base w μ k g v) (hk : k.pure = false → ∀ g, g ∈ k.cells → g.cv hd = false) (W : List Nat) :
  ∃ μ' w', w' = w.alloc (.cells cs k.bI) ∧ Rel N cx μ' { fr := s.fr, st := (hd, k) :: s.st, df := s.df } a w' ∧ μ' hd = some (w.heap.size, cs.size, []) ∧ Step W s.st μ ((hd, k) :: s.st) μ' w w' :=
 ⟨lk μ hd (some (w.heap.size, cs.size, [])), _, rfl, h.alloc hfr hlp hlen hbt hcells hk, b7 _ _ _, PA (gr hfr).1⟩
variable {W:List Nat}{d:Nat}
theorem EF.box {t:TypeId}{x:Operand}{g:G}(hd:Nat) (hx:ev s x=some g) (hok:Gv g=true) (hfr:fresh s hd=true):
  cm P W s ⟨some d,.box t x,ty,pos,after,guard⟩ (·={fr:=(d,.loc hd 0)::s.fr,st:=(hd,⟨t,false,true,false,0,cT g,none⟩)::s.st,df:=s.df}):=by
 refine cm.of (s1:={fr:=s.fr,st:=(hd,⟨t,false,true,false,0,cT g,none⟩)::s.st,df:=s.df}) (g:=.loc hd 0) rfl (fun _ h=>by cases h) ?_;intro N cx μ a w hr;have hv:=hr.ev hx;obtain⟨hl,hc⟩:=hv.cells hok;obtain⟨μ',w',rfl,h1,h2,h3⟩:=hr.tO (k:=⟨t,false,true,false,0,cT g,none⟩) (cs:=(a.eval x).cells) hfr rfl (by simp[hl]) (by simp) (fun j g' hg'=>hc j g' hg')
  (fun _ g' hg'=>by
   cases hh:g'.cv hd with
   | false=>rfl
   | true=>have:=DX hg' hh;rw[O5 hx (gr hfr).2.1] at this;cases this) W
 exact⟨_,μ',_,by simp[execOp,Instr.box,newVar,newRow],h1,.loc hd 0 _ _ h2,h3⟩
theorem EF.alloc {t:TypeId}{z:Value}(hd:Nat) (hz:∀w,(zeroValue t).run P w=.ok z w) (hfr:fresh s hd=true):
  cm P W s ⟨some d,.alloc t,ty,pos,after,guard⟩ (·={fr:=(d,.loc hd 0)::s.fr,st:=(hd,⟨t,false,true,false,0,z.cells.toList.map .val,none⟩)::s.st,df:=s.df}):=by
 refine cm.of (s1:={fr:=s.fr,st:=(hd,⟨t,false,true,false,0,z.cells.toList.map .val,none⟩)::s.st,df:=s.df}) (g:=.loc hd 0) rfl (fun _ h=>by cases h) ?_;intro N cx μ a w hr;obtain⟨μ',w',rfl,h1,h2,h3⟩:=hr.tO (k:=⟨t,false,true,false,0,z.cells.toList.map .val,none⟩) (cs:=z.cells) hfr rfl (by simp) (by simp)
  (fun j g' hg'=>by
   simp only[ak,bq] at hg';cases hu:z.cells[j]? with
   | none=>rw[hu] at hg';cases hg'
   | some u=>rw[hu] at hg';cases hg';exact⟨u,rfl,.aF (.val _)⟩)
  (fun _ g' hg'=>by
   simp only[fc] at hg';obtain⟨u,_,rfl⟩:=hg';rfl) W
 exact⟨_,μ',_,by simp[execOp,Instr.alloc,hz,newVar,newRow],h1,.loc hd 0 _ _ h2,h3⟩
end
end Go.AM
/-
 AM,part G:stores.
-/
namespace Go.AM
theorem Own.dF {st:List (Nat×av)}{μ:Mu}{h:Nat}{k k':av}(hk:ay st h=some k){b:Nat}:Own (dF st h k') μ b↔Own st μ b:=by
 constructor
 ·rintro⟨x,k1,c,m,h1,h2⟩
  by_cases e:x=h
  ·subst e;exact⟨x,k,c,m,hk,h2⟩
  ·rw[oT e] at h1;exact⟨x,k1,c,m,h1,h2⟩
 ·rintro⟨x,k1,c,m,h1,h2⟩
  by_cases e:x=h
  ·subst e;exact⟨x,k',c,m,s4 hk,h2⟩
  ·exact⟨x,k1,c,m,by rw[oT e];exact h1,h2⟩
def G.one:G→Bool
 | .val v=>v.oneCell'
 | .dw _=>true
 | .fr (.dw _)=>true
 | .fr (.sl _ _)=>true
 | .fr (.ptr _)=>true
 | .sl _ _=>true
 | .ptr _=>true
 | .loc _ _=>true
 | .aL _ _ _ _=>true
 | .ba _ _=>true
 | .cW _=>true
 | .kp _ _ _=>true
 | .ks _ _ _ _=>true
 | .eN _=>true
 | _=>false
theorem bH.one {O:Nat→Prop}{w:World}{g:G}{v:Value}(h:bH O w g v) (ho:g.one=true):v.oneCell'=true:=by
 cases h with
 | any v=>cases ho
 | val v=>exact ho
 | dw b v hb=>cases v <;> first | rfl | cases hb
 | nil=>rfl
 | jb=>rfl
 | sl _ _=>rfl
 | ptr _=>rfl
 | agg _ _ _ _=>cases ho
theorem aU.one {O:Nat→Prop}{base:Nat}{w:World}{μ:Mu}{g:G}{v:Value}(h:aU O base w μ g v) (ho:g.one=true):v.oneCell'=true:=by
 cases h with
 | aF h=>exact h.one ho
 | fr h=>
  rename_i g;cases g with
  | sl n cs=>exact h.one rfl
  | ptr cs=>exact h.one rfl
  | dw b=>exact h.one rfl
  | _=>cases ho
 | agg _ _ _ _=>cases ho
 | bB _ _ _ _=>cases ho
 | ba f _ us=>obtain⟨A,B,e,_⟩:=IC f us;rw[e];rfl
 | _=>rfl
theorem A2 {v:Value}(h:v.oneCell'=true):v.cells=#[v]:=by cases v <;> first | rfl | cases h
def MB:G→Option (G×Bool)
 | .val v=>some (.val v,true)
 | .dw b=>some (.dw b,true)
 | .fr (.dw b)=>some (.dw b,true)
 | .fr (.sl n cs)=>some (.sl n cs,true)
 | .fr (.ptr cs)=>some (.ptr cs,true)
 | .sl n cs=>some (.sl n cs,false)
 | .ptr cs=>some (.ptr cs,false)
 | _=>none
theorem Cb {O:Nat→Prop}{base:Nat}{w:World}{μ:Mu}{g g':G}{f:Bool}{v:Value}(h:aU O base w μ g v) (hi:MB g=some (g',f)):
  bH (bif f then ir O base else O) w g' v:=by
 have hval:∀(O':Nat→Prop),g=.val v→bH O' w (.val v) v:=fun _ _=>.val v;cases g with
 | val u=>
  cases hi;cases h with
  | aF h=>cases h;exact .val _
 | sl n cs=>
  cases hi;cases h with
  | aF h=>exact h
 | ptr cs=>
  cases hi;cases h with
  | aF h=>exact h
 | dw b=>
  cases hi;cases h with
  | aF h=>cases h with | dw _ _ hb=>exact .dw _ _ hb
 | fr g=>
  cases h with
  | aF h=>cases h
  | fr h=>
   cases g with
   | sl n cs=>cases hi;exact h
   | ptr cs=>cases hi;exact h
   | dw b=>cases hi;exact h
   | _=>cases hi
 | _=>cases hi
theorem bH.flag {O:Nat→Prop}{base:Nat}{w:World}{g:G}{v:Value}{f f':Bool}(h:bH (bif f then ir O base else O) w g v) (hf:f'=true→f=true):bH (bif f' then ir O base else O) w g v:=by
 cases f' with
 | true=>rw[hf rfl] at h;exact h
 | false=>
  cases f with
  | true=>exact h.Ot
  | false=>exact h
section
variable {P:Program}{N:Nat}{cx:Cx}{s:St}
theorem cI.write {μ:Mu}{st:List (Nat×av)}{w w':World}(h:cI cx μ st w){hh:Nat}{k k':av}{b:Nat}{m:Mm}{cs':Array Value}(hk:ay st hh=some k) (hm:μ hh=some (b,m))
  (hb':w'.heap[b]?=some (.cells cs' k'.bI (0,0))) (hs:cs'.size=m.1) (hsz:w'.heap.size=w.heap.size) (hoth:∀b',b'≠b→w'.heap[b']?=w.heap[b']?)
  (hos:w'.os=w.os) (htape:w'.tape=w.tape) (hout:w'.output=w.output) (hmine:k'.ew=true→k.ew=true) (hl:k'.cells.length≤m.1) (hbt:k'.sz≠0→m.1≤maxLen*k'.sz)
  (hc:∀(j:Nat) (g:G),k'.cells[j]?=some g→∃v,cs'[j]?=some v∧cZ (cx.O st μ) cx.base w μ k' g v) (hlp:k'.lp=none) (hlk:k.lp=none:=by assumption):
  cI cx μ (dF st hh k') w'∧Kept (cx.O st μ) w w'∧∀b,cx.O (dF st hh k') μ b↔cx.O st μ b:=by
 have hOO:∀b,cx.O (dF st hh k') μ b↔cx.O st μ b:=fun b=>or_congr Iff.rfl (Own.dF hk);have hown:cx.O st μ b:=.inr (.root hk hm);have hkept:Kept (cx.O st μ) w w':=⟨by rw[hsz];exact aG _,fun b' _ hn=>hoth b' fun e=>hn (e▸hown)⟩;have hO:∀b,b<w.heap.size→¬cx.O st μ b→¬cx.O (dF st hh k') μ b:=fun b _ hn ho=>hn ((hOO b).1 ho);obtain⟨hx,hbA⟩:=h.out hh k b m hk hm;have hkb:=h.en hh k hk;rw[hm] at hkb;obtain⟨_,hmb⟩:=hkb.heap;refine⟨{en:=?_,de:=?_,cq:=?_,fD:=?_,fg:=h.fg,hb:=by rw[hsz];exact h.hb,os:=hos.trans h.os,tape:=htape.trans h.tape,output:=hout.trans h.output,gl:=h.gl,dq:=?_},hkept,hOO⟩
 ·intro x k1 h1;rcases dm hk h1 with ⟨rfl,rfl⟩ | ⟨hne,h1⟩
  ·rw[hm];exact .mk hlp (hkb.nf hlk) ⟨cs',hb',hs,hl,fun hmn=>hmb (hmine hmn),hbt,fun j g hg=>let ⟨v,hv,hr⟩:=hc j g hg;⟨v,hv,hr.mono hkept hO⟩⟩
  ·exact(h.en x k1 h1).mono (fun b1 m1 hmx y hy=>hoth y fun e=>hne (h.de x hh k1 k y b1 m1 b m h1 hk hmx hm hy (.inl e))) hkept hO
 ·intro x x' k1 k2 y b1 m1 b2 m2 h1 h2;have f:∀x k1,ay (dF st hh k') x=some k1→∃k1,ay st x=some k1:=fun x k1 h1=>by
   rcases dm hk h1 with ⟨rfl,rfl⟩ | ⟨_,h1⟩
   ·exact⟨k,hk⟩
   ·exact⟨_,h1⟩
  obtain⟨k1',h1'⟩:=f x k1 h1;obtain⟨k2',h2'⟩:=f x' k2 h2;exact h.de x x' k1' k2' y b1 m1 b2 m2 h1' h2'
 ·intro x k1 b1 m1 y h1 h2 h3;rw[hsz];rcases dm hk h1 with ⟨rfl,rfl⟩ | ⟨_,h1⟩
  ·exact let ⟨a1,a2,a3,a4⟩:=h.cq x k b1 m1 y hk h2 h3;⟨a1,a2,a3,fun hm=>a4 (hmine hm)⟩
  ·exact h.cq x k1 b1 m1 y h1 h2 h3
 ·intro x k1 h1 h2;rcases dm hk h1 with ⟨rfl,rfl⟩ | ⟨_,h1⟩
  ·exact h.fD x k hk h2
  ·exact h.fD x k1 h1 h2
 ·intro b' hb1 hA;rw[hoth b' (fun e=>by subst e;exact hbA.elim (fun h1=>by omega) (fun h1=>hA h1))];exact h.dq b' hb1 hA
theorem Rel.write {μ:Mu}{a:Act}{w w':World}(h:Rel N cx μ s a w){hh:Nat}{k k':av}{b:Nat}{m:Mm}{cs':Array Value}(hk:ay s.st hh=some k) (hm:μ hh=some (b,m))
  (hb':w'.heap[b]?=some (.cells cs' k'.bI (0,0))) (hs:cs'.size=m.1) (hsz:w'.heap.size=w.heap.size) (hoth:∀b',b'≠b→w'.heap[b']?=w.heap[b']?)
  (hos:w'.os=w.os) (htape:w'.tape=w.tape) (hout:w'.output=w.output) (hmine:k'.ew=true→k.ew=true) (hl:k'.cells.length≤m.1) (hbt:k'.sz≠0→m.1≤maxLen*k'.sz)
  (hc:∀(j:Nat) (g:G),k'.cells[j]?=some g→∃v,cs'[j]?=some v∧cZ (cx.O s.st μ) cx.base w μ k' g v) (W:List Nat) (hW:W.contains hh=true) (hlp:k'.lp=none) (hlk:k.lp=none:=by assumption):
  Rel N cx μ {fr:=s.fr,st:=dF s.st hh k',df:=s.df} a w'∧Step W s.st μ (dF s.st hh k') μ w w':=by
 obtain⟨h1,h2,h3⟩:=h.st.write hk hm hb' hs hsz hoth hos htape hout hmine hl hbt hc hlp;refine⟨{st:=h1,nd:=h.nd.mono h2 (fun b _ hn ho=>hn ((h3 b).1 ho)),sz:=h.sz,fr:=fun t g hg=>?_},?_⟩
 ·obtain⟨v,hv,hr⟩:=h.fr t g hg;exact⟨v,hv,hr.mono h2 (fun b _ hn ho=>hn ((h3 b).1 ho)) (aG _)⟩
 ·refine⟨by rw[hsz];exact aG _,fun b' _ hn=>hoth b' fun e=>?_,fun x k1 c1 m1 y hw h1 h2 hy=>?_⟩
  ·subst e;exact hn.ne hh k m (by simpa using hW) hk hm
  ·rcases dm hk h1 with ⟨rfl,rfl⟩ | ⟨_,h1⟩
   ·exact .inl ⟨x,k,c1,m1,hw,hk,h2,hy⟩
   ·exact .inl ⟨x,k1,c1,m1,hw,h1,h2,hy⟩
variable {ty:TypeId}{pos:String}{after:Array Edge}{guard:Option (Nat×Bool)}{W:List Nat}
theorem qX {w:World}{g:Nat}{cs new:Array Value}{e:TypeId}{f:Nat×Nat}(h:w.heap[g]?=some (.cells cs e f)):(w.setRow g new).heap[g]?=some (.cells new e f):=setRow_heap w g cs new e f h
theorem setRow_size (w:World) (g:Nat) (new:Array Value):(w.setRow g new).heap.size=w.heap.size:=by simp[World.setRow]
theorem EF.Le {t:TypeId}{x y:Operand}{h off sz:Nat}{k:av}{g:G}{gs cells':List G}(hx:ev s x=some (.loc h off)) (hy:ev s y=some g) (hk:ay s.st h=some k) (hp:k.pure=false)
  (hok:Gv g=true) (hgs:cT g=gs) (hone:gs.all G.one=true) (hl:gs.length=sz) (hsz:∀w,(sizeOf t).run P w=.ok sz w) (hoff:off+sz≤k.cells.length) (hW:W.contains h=true)
  (hc':k.cells.take off++gs++k.cells.drop (off+sz)=cells') (hlp:k.lp=none:=by rfl):
  cm P W s ⟨none,.store t x y,ty,pos,after,guard⟩ (·={fr:=s.fr,st:=dF s.st h {k with cells:=cells'},df:=s.df}):=by
 refine cm.skip rfl (fun _ h=>by cases h) ?_;intro N cx μ a w hr;obtain⟨b,m,e1,hm⟩:=hr.loc hx;obtain⟨cs,h1,h2,h3,h4,hbt,h5⟩:=hr.own hk hm hlp;obtain⟨hvl,hvc⟩:=(hr.ev hy).cells hok;rw[hgs] at hvl hvc;have hlen:(a.eval y).cells.toList.length=sz:=by rw[b9,hvl,hl]
 have hrun:=run_storeCells_at P b off k.bI (a.eval y).cells.toList 0 cs w h1 (by rw[hlen];omega) (fun v hv=>by
  obtain⟨j,hj⟩:=cA hv;have hjl:j<gs.length:=by
   have:=(ai.1 hj).1;omega
  obtain⟨u,hu,hru⟩:=hvc j gs[j] (ag hjl);rw[bq] at hj;rw[hj] at hu;cases hu;exact hru.one (dB.1 hone _ (fQ hjl)))
 rw[fZ,hlen] at hrun;refine⟨μ,w.setRow b (cs.toList.take off++(a.eval y).cells.toList++cs.toList.drop (off+sz)).toArray,?_,?_⟩
 ·simp only[execOp,Instr.storeAt,Instr.sureAddr,e1,storeVar,hsz,Sem.run_bind,Sem.run_pure,Result.andThen_ok];rw[if_neg (by rw[hvl,hl];simp)];rw[hrun];rfl
 ·subst hc';refine hr.write (k':={k with cells:=k.cells.take off++gs++k.cells.drop (off+sz)}) hk hm (qX h1) ?_ (setRow_size _ _ _) (fun b' hb'=>setRow_other w b b' _ hb') rfl rfl rfl id ?_ hbt ?_ W hW hlp
  ·simp only[List.size_toArray,aI,br,cf,b9,hvl,hl];omega
  ·simp only[aI,br,cf,hl];omega
  ·intro j g' hg';have kO:∀(j:Nat),(cs.toList.take off++(a.eval y).cells.toList++cs.toList.drop (off+sz)).toArray[j]?=if j<off then cs[j]? else if j<off+sz then(a.eval y).cells[j-off]? else cs[j]?:=by
    intro j;rw[List.getElem?_toArray,aR,bS,br,b9,iN (by omega:off≤cs.size)];split
    ·rename_i hj;rw[bo,if_pos hj,bq]
    ·rw[bS,hlen];split
     ·rename_i hj1 hj2;rw[if_pos (by omega),bq]
     ·rename_i hj1 hj2;rw[if_neg (by omega),bE,bq];congr 1;omega
   dsimp only at hg';rw[aR,bS,br,iN (by omega:off≤k.cells.length)] at hg';rw[kO];split at hg'
   ·rename_i hj;rw[if_pos hj];rw[bo,if_pos hj] at hg';obtain⟨v,hv,hrv⟩:=h5 j g' hg';refine⟨v,hv,?_⟩;unfold cZ at hrv⊢;rw[hp] at hrv⊢;exact hrv
   ·rename_i hj;rw[if_neg hj];rw[bS,hl] at hg';split at hg'
    ·rename_i hj2;rw[if_pos (by omega)];obtain⟨v,hv,hrv⟩:=hvc _ g' hg';refine⟨v,hv,?_⟩;unfold cZ;rw[hp];exact hrv
    ·rename_i hj2;rw[if_neg (by omega)];rw[bE] at hg';have:off+sz+(j-off-sz)=j:=by omega
     rw[this] at hg';obtain⟨v,hv,hrv⟩:=h5 j g' hg';refine⟨v,hv,?_⟩;unfold cZ at hrv⊢;rw[hp] at hrv⊢;exact hrv
end
end Go.AM
/-
 AM,part H:a nil slice taken in hand;slices written out;append.
-/
namespace Go.AM
section
variable {P:Program}{N:Nat}{cx:Cx}{s:St}
variable {dst:Option Tmp}{ty:TypeId}{pos:String}{after:Array Edge}{guard:Option (Nat×Bool)}{W:List Nat}{d:Nat}
theorem cI.yM {μ:Mu}{st:List (Nat×av)}{w:World}(h:cI cx μ st w){hd:Nat}{k:av}(hfr:ay st hd=none) (hno:xP hd st=true) (hpn:pinned hd=false) (hk:∀O base w μ,aV O base w μ k none):
  cI cx (lk μ hd none) ((hd,k)::st) w∧(∀b,¬cx.O st μ b→¬cx.O ((hd,k)::st) (lk μ hd none) b):=by
 have hO:∀b,¬cx.O st μ b→¬cx.O ((hd,k)::st) (lk μ hd none) b:=by
  intro b hn ho;rcases ho with ho | ⟨x,k',c,m,h1,h2,h3⟩
  ·exact hn (.inl ho)
  ·by_cases e:x=hd
   ·subst e;rw[b7] at h2;cases h2
   ·rw[aB k st e] at h1;rw[aZ e] at h2;exact hn (.inr ⟨x,k',c,m,h1,h2,h3⟩)
 refine⟨{en:=?_,de:=?_,cq:=?_,fD:=?_,fg:=h.fg,hb:=h.hb,os:=h.os,tape:=h.tape,output:=h.output,gl:=h.gl,dq:=h.dq},hO⟩
 ·intro x k' h1
  by_cases e:x=hd
  ·subst e;rw[dU] at h1;cases h1;rw[b7];exact hk _ _ _ _
  ·rw[aB k st e] at h1;rw[aZ e];refine((h.en x k' h1).mono (fun _ _ _ _ _=>rfl) (Kept.refl _ _) (fun b _=>hO b)).gS fun hp g hg y hy=>aZ ?_;intro e;subst e;rw[sY hno h1 hp hg] at hy;cases hy
 ·intro x x' k1 k2 y b m b' m' h1 h2 h3 h4;have e:x≠hd:=fun e=>by subst e;rw[b7] at h3;cases h3
  have e':x'≠hd:=fun e=>by subst e;rw[b7] at h4;cases h4
  rw[aB k st e] at h1;rw[aB k st e'] at h2;rw[aZ e] at h3;rw[aZ e'] at h4;exact h.de x x' k1 k2 y b m b' m' h1 h2 h3 h4
 ·intro x k' b m y h1 h2;have e:x≠hd:=fun e=>by subst e;rw[b7] at h2;cases h2
  rw[aB k st e] at h1;rw[aZ e] at h2;exact h.cq x k' b m y h1 h2
 ·intro x k1 h1 h2
  by_cases e:x=hd
  ·subst e;rw[hpn] at h2;cases h2
  ·rw[aB k st e] at h1;rw[aZ e];exact h.fD x k1 h1 h2
theorem cI.F7 {μ:Mu}{st:List (Nat×av)}{w:World}(h:cI cx μ st w){hd:Nat}{k:av}(hfr:ay st hd=none) (hno:xP hd st=true) (hpn:pinned hd=false) (hk:k.cells=[]) (hlp:k.lp=none):
  cI cx (lk μ hd none) ((hd,k)::st) w∧(∀b,¬cx.O st μ b→¬cx.O ((hd,k)::st) (lk μ hd none) b):=h.yM hfr hno hpn fun _ _ _ _=>.nil hk hlp
theorem Rel.pb {μ:Mu}{a:Act}{w:World}(h:Rel N cx μ s a w){t:Nat}(hd:Nat) (k:av) (hg:get s.fr t=some (.val (.slice none 0 0))) (hf:fresh s hd=true) (hk:k.cells=[]) (hlp:k.lp=none):
  ∃μ',Rel N cx μ' {fr:=(t,.aL hd k.sz 0 0)::s.fr,st:=(hd,k)::s.st,df:=s.df} a w:=by
 obtain⟨h1,h2,h3,h5,h6⟩:=gr hf;obtain⟨h4,hO⟩:=h.st.F7 h1 h3 (j5 h6) hk hlp;refine⟨lk μ hd none,{st:=h4,nd:=(h.nd.mono (Kept.refl _ _) (fun b _=>hO b)).gS (fun g hg y hy=>aZ fun e=>by subst e;rw[pP h5 hg] at hy;cases hy),sz:=h.sz,fr:=fun t' g hg'=>?_}⟩;rw[iS] at hg';cases hb:Nat.beq t t' with
 | true=>
  rw[hb] at hg';cases hg';have:=ab hb;subst this;obtain⟨v,hv,hr⟩:=h.fr t _ hg;cases hr with
  | aF hr=>cases hr;exact⟨_,hv,.gk hd k.sz (b7 _ _ _)⟩
 | false=>
  rw[hb] at hg';obtain⟨v,hv,hr⟩:=h.fr t' g hg';refine⟨v,hv,(hr.mono (Kept.refl _ _) (fun b _=>hO b) (aG _)).gS fun y hy=>aZ ?_⟩;intro e;subst e;rw[mX h2 hg'] at hy;cases hy
theorem GW.pb {c:Code}{Q:Exit→St→Prop}(t hd:Nat) (e:TypeId) (sz:Nat) (hg:get s.fr t=some (.val (.slice none 0 0))) (hf:fresh s hd=true)
  (h:GW P N cx c Q {fr:=(t,.aL hd sz 0 0)::s.fr,st:=(hd,⟨e,true,true,true,sz,[],none⟩)::s.st,df:=s.df}):GW P N cx c Q s:=fun _ a w hr=>
 let ⟨μ',h'⟩:=hr.pb hd ⟨e,true,true,true,sz,[],none⟩ hg hf rfl rfl
 h μ' a w h'
def MK (s:St):List (Nat×Operand)→Nat→Option (List G)
 | [],_=>some []
 | (i,x)::r,j=>match Nat.beq i j,ev s x,MK s r (j+1) with
  | true,some g,some gs=>some (g::gs)
  | _,_,_=>none
theorem MJ {μ:Mu}{a:Act}{w:World}(h:Rel N cx μ s a w):∀(l:List (Nat×Operand)) (j:Nat) (gs:List G),MK s l j=some gs→
  l.map (fun x=>(x.1,a.eval x.2))=((l.map (fun x=>a.eval x.2)).zipIdx j).map (fun x=>(x.2,x.1))∧gs.length=l.length∧
  ∀(i:Nat) (g:G) (v:Value),gs[i]?=some g→(l.map (fun x=>a.eval x.2))[i]?=some v→(∃x,AM.ev s x=some g∧a.eval x=v)
 | [],_,gs,he=>by cases he;exact⟨rfl,rfl,fun i g v h=>by simp at h⟩
 | (i,x)::r,j,gs,he=>by
  simp only[MK] at he;cases hb:Nat.beq i j with
  | false=>rw[hb] at he;cases he
  | true=>
   rw[hb] at he;cases hx:AM.ev s x with
   | none=>rw[hx] at he;cases he
   | some g=>
    rw[hx] at he;cases hr:MK s r (j+1) with
    | none=>rw[hr] at he;cases he
    | some gs'=>
     rw[hr] at he;cases he;obtain⟨h1,h2,h3⟩:=MJ h r (j+1) gs' hr;have:=ab hb;subst this;refine⟨by simp only[bc,List.zipIdx_cons,h1],by simp[h2],?_⟩;intro n g' v hg hv;cases n with
     | zero=>simp only[bc,iX,km] at hg hv;subst hg hv;exact⟨x,hx,rfl⟩
     | succ n=>simp only[bc,kq] at hg hv;exact h3 n g' v hg hv
def rz (sz:Nat):List G→Bool
 | []=>true
 | g::r=>Gv g&&Nat.beq (cT g).length sz&&rz sz r
theorem tU {sz:Nat}:∀{gs:List G},rz sz gs=true→∀g∈gs,Gv g=true∧(cT g).length=sz
 | [],_,_,h=>by cases h
 | g::r,h,x,hx=>by
  simp only[rz,af] at h;cases hx with
  | head=>exact⟨h.1.1,ab h.1.2⟩
  | tail _ hx=>exact tU h.2 x hx
theorem tX {α β:Type}(f:α→List β) (sz:Nat) (hsz:0<sz):∀(l:List α),(∀x∈l,(f x).length=sz)→∀j,(l.flatMap f)[j]?=(l[j/sz]?).bind (fun x=>(f x)[j%sz]?)
 | [],_,j=>by simp
 | x::l,h,j=>by
  have hx:=h x ar;rw[b6]
  by_cases hj:j<sz
  ·rw[eL (by omega),Nat.div_eq_of_lt hj,Nat.mod_eq_of_lt hj];rfl
  ·have h1:j/sz=(j-sz)/sz+1:=by
    conv=>lhs;rw[←Nat.sub_add_cancel (Nat.le_of_not_lt hj)]
    rw[Nat.add_div_right _ hsz]
   have h2:j%sz=(j-sz)%sz:=by
    conv=>lhs;rw[←Nat.sub_add_cancel (Nat.le_of_not_lt hj)]
    rw[Nat.add_mod_right]
   rw[gV (by omega),hx,tX f sz hsz l (fun y hy=>h y (ap _ hy)) (j-sz),h1,h2,kq]
theorem EF.buildSlice {t e : TypeId} {n sz : Nat} {parts : Array (Nat × Operand)} {gs : List G} {z : Value} {bt : Nat} (hd : Nat) (hgs : MK s parts.toList 0 = some gs) (hn : gs.length = n) (ht : P.underlying t = some (.slice e))
    (hi : (P.info? e).map (fun i => (i.zero, i.size, i.bytes)) = some (some z, sz, bt)) (h0 : 0 < n * sz) (hsmall : n * sz ≤ 16777216) (hok : rz sz gs = true) (hfr : fresh s hd = true) :
    cm P W s ⟨some d, .buildSlice t n parts, ty, pos, after, guard⟩ (· = { fr := (d, .aL hd sz 0 n) :: s.fr, st := (hd, ⟨e, false, true, false, sz, gs.flatMap cT, none⟩) :: s.st, df := s.df }) := by
  refine cm.of (s1 := { fr := s.fr, st := (hd, ⟨e, false, true, false, sz, gs.flatMap cT, none⟩) :: s.st, df := s.df }) (g := .aL hd sz 0 n) rfl (fun _ h => by cases h) ?_
  intro N cx μ a w hr
  obtain ⟨i, hi1, hi2⟩ := az.1 hi
  simp only [qt] at hi2
  obtain ⟨hz, hs1, hb1⟩ := hi2
  have hsz : 0 < sz := by rcases jP sz with h | h; · rw [h] at h0; omega
                          · exact h
  obtain ⟨e1, e2, e3⟩ := MJ hr parts.toList 0 gs hgs
  generalize hvs : parts.toList.map (fun x => a.eval x.2) = vs at e1 e3
  have hvl : vs.length = n := by rw [← hvs, aN, ← e2, hn]
  have kO : ∀ (j : Nat) (v : Value), vs[j]? = some v → ∃ g, gs[j]? = some g ∧ v.cells.size = (cT g).length ∧ (cT g).length = sz ∧ ∀ (j : Nat) (g' : G), (cT g)[j]? = some g' → ∃ u, v.cells[j]? = some u ∧ aU (cx.O s.st μ) cx.base w μ g' u := by
    intro j v hv
    have hj : j < gs.length := by have := (ai.1 hv).1; omega
    have hg := ag hj
    obtain ⟨x, hx, hxv⟩ := e3 j _ v hg hv
    obtain ⟨ok1, ok2⟩ := tU hok _ (fQ hj)
    obtain ⟨c1, c2⟩ := (hr.ev hx).cells ok1
    rw [hxv] at c1 c2
    exact ⟨_, hg, c1, ok2, c2⟩
  have hvsz : ∀ v ∈ vs, v.cells.size = sz := by
    intro v hv
    obtain ⟨j, hj⟩ := cA hv
    obtain ⟨g, _, h1, h2, _⟩ := kO j v hj
    rw [h1, h2]
  have hfill := Go.Great.fill_whole hsz vs ((Array.range (n * sz)).map (z.cells[· % z.cells.size]!)) hvsz (by simp [hvl])
  have hparts : (parts.map fun (x : Nat × Operand) => (x.1, a.eval x.2)).toList = (vs.zipIdx 0).map fun x => (x.2, x.1) := by
    rw [iu]; exact e1
  have hrun := Go.run_buildSlice (P := P) w t e n (parts.map fun (x : Nat × Operand) => (x.1, a.eval x.2)) (vs.flatMap fun v => v.cells.toList).toArray i z ht hi1 hz (by rw [hs1]; omega) (by rw [hs1]; omega) (by rw [hs1, hparts]; exact hfill)
  have hlen : (vs.flatMap fun v => v.cells.toList).toArray.size = n * sz := by
    rw [List.size_toArray, List.length_flatMap]
    have : vs.map (fun v => v.cells.toList.length) = List.replicate n sz := by
      rw [← hvl]
      apply List.ext_getElem
      · simp
      · intro j h1 h2
        simp only [List.getElem_map, List.getElem_replicate, b9]
        exact hvsz _ (fQ _)
    rw [this, List.sum_replicate_nat]
  have hlenG : (gs.flatMap cT).length = n * sz := by
    rw [List.length_flatMap]
    have : gs.map (fun g => (cT g).length) = List.replicate n sz := by
      rw [← hn]
      apply List.ext_getElem
      · simp
      · intro j h1 h2
        simp only [List.getElem_map, List.getElem_replicate]
        exact (tU hok _ (fQ _)).2
    rw [this, List.sum_replicate_nat]
  obtain ⟨μ', w', rfl, h1, h2, h3⟩ := hr.tO (k := ⟨e, false, true, false, sz, gs.flatMap cT, none⟩) (cs := (vs.flatMap fun v => v.cells.toList).toArray) hfr rfl (by rw [hlen]; simp only; rw [hlenG]; exact aG _) (fun _ => by
      rw [hlen]
      have h1 : n ≤ n * sz := Nat.le_mul_of_pos_right n hsz
      exact bW sz (cK h1 (cK hsmall (by decide))))
    (fun j g' hg' => by
      dsimp only at hg'
      rw [tX cT sz hsz gs (fun g hg => (tU hok g hg).2) j] at hg'
      cases hgj : gs[j / sz]? with
      | none => rw [hgj] at hg'; cases hg'
      | some g =>
        rw [hgj] at hg'
        simp only [aa] at hg'
        have hj : j / sz < vs.length := by have := (ai.1 hgj).1; omega
        obtain ⟨g2, hg2, _, _, hc⟩ := kO (j / sz) _ (ag hj)
        rw [hgj] at hg2
        cases hg2
        obtain ⟨u, hu, hru⟩ := hc (j % sz) g' hg'
        refine ⟨u, ?_, hru⟩
        rw [List.getElem?_toArray, Go.Great.flat_get hsz vs hvsz j, ag hj]
        exact hu)
    (fun _ g' hg' => by
      obtain ⟨g, hg, hg'⟩ := pW.1 hg'
      cases hh : g'.cv hd with
      | false => rfl
      | true =>
        have := DX hg' hh
        obtain ⟨j, hj⟩ := cA hg
        have hjl : j < vs.length := by have := (ai.1 hj).1; omega
        obtain ⟨x, hx, _⟩ := e3 j g _ hj (ag hjl)
        rw [O5 hx (gr hfr).2.1] at this
        cases this) W
  rw [hlen] at h2
  refine ⟨_, μ', _, ?_, h1, .aL hd sz 0 n _ _ n h2 (aG _) (by omega), h3⟩
  simp [execOp, hrun]
end
end Go.AM
/-
 AM,part I:append.
-/
namespace Go.AM
def xt:List G→Option (List G×Bool)
 | []=>some ([],true)
 | g::r=>match MB g,xt r with
  | some (g',f),some (r',f')=>some (g'::r',f&&f')
  | _,_=>none
def z8 (st:List (Nat×av)) (sz:Nat):G→Option (List G×Nat×Bool)
 | .sl m cs=>some (cs,m,false)
 | .fr (.sl m cs)=>some (cs,m,true)
 | .aL h2 _ off m=>match ay st h2 with
  | some k2=>match k2.lp with
   | some _=>none
   | none=>match k2.pure with
    | true=>some ((k2.cells.drop off).take (m*sz),m,k2.fresh)
    | false=>match xt ((k2.cells.drop off).take (m*sz)) with
     | some (l,f)=>some (l,m,f)
     | none=>none
  | none=>none
 | .val (.slice none 0 0)=>some ([],0,true)
 | _=>none
theorem Ca:∀{gs gs':List G}{f:Bool},xt gs=some (gs',f)→gs'.length=gs.length∧∀(j:Nat) (g':G),gs'[j]?=some g'→∃g f',gs[j]?=some g∧MB g=some (g',f')∧(f=true→f'=true)
 | [],_,_,h=>by cases h;exact⟨rfl,fun j g h=>by simp at h⟩
 | g::r,gs',f,h=>by
  simp only[xt] at h;cases h1:MB g with
  | none=>rw[h1] at h;cases h
  | some x=>
   obtain⟨g1,f1⟩:=x;rw[h1] at h;cases h2:xt r with
   | none=>rw[h2] at h;cases h
   | some y=>
    obtain⟨r1,f2⟩:=y;rw[h2] at h;cases h;obtain⟨h3,h4⟩:=Ca h2;refine⟨by simp[h3],fun j g' hg'=>?_⟩;cases j with
    | zero=>simp only[iX,km] at hg';subst hg';exact⟨g,f1,rfl,h1,fun h=>by simp at h;exact h.1⟩
    | succ j=>
     simp only[kq] at hg'⊢;obtain⟨g2,f',e1,e2,e3⟩:=h4 j g' hg';exact⟨g2,f',e1,e2,fun h=>by simp at h;exact e3 h.2⟩
section
variable {P:Program}{N:Nat}{cx:Cx}{s:St}
theorem Rel.src {μ:Mu}{a:Act}{w:World}(hr:Rel N cx μ s a w){y:Operand}{gy:G}{m sz:Nat}{newsG:List G}{f:Bool}(hy:AM.ev s y=some gy) (hs:z8 s.st sz gy=some (newsG,m,f))
  (hl:newsG.length=m*sz) (hone:∀g,g∈newsG→g.one=true):
  ((∃o c,a.eval y=.slice o 0 c)∧m=0)∨∃(b off c:Nat) (news:List Value),a.eval y=.slice (some ⟨b,off,none⟩) m c∧news.length=m*sz∧(∀(j:Nat) (u:Value),news[j]?=some u→w.cell? ⟨b,off+j,none⟩=some u)∧(∀u∈news,u.oneCell'=true)∧
   (∀(j:Nat) (g:G),newsG[j]?=some g→∃u,news[j]?=some u∧bH (bif f then ir (cx.O s.st μ) cx.base else cx.O s.st μ) w g u)∧
   (∀h k m',ay s.st h=some k→μ h=some (b,m')→gy.cv h=true):=by
 have hv:=hr.ev hy;generalize a.eval y=v at hv;have aF:∀(O:Nat→Prop) (n:Nat) (cs:List G),cs.length=n*sz→(∀g,g∈cs→g.one=true)→bH O w (.sl n cs) v→(∀b,¬O b→¬cx.O s.st μ b)→
   ((∃o c,v=.slice o 0 c)∧n=0)∨∃(b off c:Nat) (news:List Value),v=.slice (some ⟨b,off,none⟩) n c∧news.length=n*sz∧(∀(j:Nat) (u:Value),news[j]?=some u→w.cell? ⟨b,off+j,none⟩=some u)∧(∀u∈news,u.oneCell'=true)∧
   (∀(j:Nat) (g:G),cs[j]?=some g→∃u,news[j]?=some u∧bH O w g u)∧¬cx.O s.st μ b:=by
  intro O n cs hl hone h hO;cases h with
  | nil=>exact .inl ⟨⟨none,0,rfl⟩,rfl⟩
  | jb o c=>exact .inl ⟨⟨some o,c,rfl⟩,rfl⟩
  | sl _ _ b off cap us hn hOb hb hc hrr=>
   refine .inr ⟨b,off,cap,(List.range cs.length).map us,rfl,by simp[hl],?_,?_,?_,hO b hOb⟩
   ·intro j u hu;rw[ak] at hu;cases hj:(List.range cs.length)[j]? with
    | none=>rw[hj] at hu;cases hu
    | some i=>
     rw[hj] at hu;have hjl:=(ai.1 hj).1;rw[jm] at hjl;rw[dr hjl] at hj;cases hj;cases hu;exact hc j hjl
   ·intro u hu;obtain⟨j,hj,rfl⟩:=fc.1 hu;rw[gx] at hj;exact(hrr j _ (ag hj)).one (hone _ (fQ hj))
   ·intro j g hg;have hj:=(ai.1 hg).1;exact⟨us j,by rw[ak,dr hj];rfl,hrr j g hg⟩
 cases gy with
 | sl n cs=>
  cases hs;cases hv with
  | aF h=>
   rcases aF _ _ _ hl hone h (fun _ h=>h) with h | ⟨b,off,c,news,h1,h2,h3,h4,h5,h6⟩
   ·exact .inl h
   ·exact .inr ⟨b,off,c,news,h1,h2,h3,h4,h5,fun h k m' h7 h8=>absurd (.inr (.root h7 h8)) h6⟩
 | fr g=>
  cases hv with
  | aF h=>cases h
  | fr h=>
   cases g with
   | sl n cs=>
    cases hs;rcases aF _ _ _ hl hone h (fun _ hn ho=>hn (.inr ho)) with h | ⟨b,off,c,news,h1,h2,h3,h4,h5,h6⟩
    ·exact .inl h
    ·exact .inr ⟨b,off,c,news,h1,h2,h3,h4,h5,fun h k m' h7 h8=>absurd (.inr (.root h7 h8)) h6⟩
   | _=>cases hs
 | val u=>
  cases hv with
  | aF h=>
   cases h;cases v with
   | slice b n c=>cases b with
    | none=>cases n with
     | zero=>cases c with
      | zero=>cases hs;exact .inl ⟨⟨none,0,rfl⟩,rfl⟩
      | succ c=>cases hs
     | succ n=>cases hs
    | some b=>cases hs
   | _=>cases hs
 | aL h2 sz2 off n=>
  simp only[z8] at hs;cases hk:ay s.st h2 with
  | none=>rw[hk] at hs;cases hs
  | some k2=>
   rw[hk] at hs;dsimp only at hs;cases hlp2:k2.lp with
   | some lp=>rw[hlp2] at hs;cases hs
   | none=>
   rw[hlp2] at hs;dsimp only at hs;have own:∀b m0 cap,v=.slice (some ⟨b,off,none⟩) n cap→μ h2=some (b,m0)→(∀b off c,v=.slice (some ⟨b,off,none⟩) n c→n=m)→
     ∃(b off c:Nat) (news:List Value),v=.slice (some ⟨b,off,none⟩) m c∧news.length=m*sz∧(∀(j:Nat) (u:Value),news[j]?=some u→w.cell? ⟨b,off+j,none⟩=some u)∧(∀u∈news,u.oneCell'=true)∧
      (∀(j:Nat) (g:G),newsG[j]?=some g→∃u,news[j]?=some u∧bH (bif f then ir (cx.O s.st μ) cx.base else cx.O s.st μ) w g u)∧
      (∀h k m',ay s.st h=some k→μ h=some (b,m')→(G.aL h2 sz2 off n).cv h=true):=by
    intro b m0 cap hv hm hnm;obtain rfl:=hnm b off cap hv;obtain⟨cs,c1,c2,c3,c4,c6,c5⟩:=hr.own hk hm hlp2;have rd:∀(j:Nat) (g:G),newsG[j]?=some g→∃u,cs[off+j]?=some u∧bH (bif f then ir (cx.O s.st μ) cx.base else cx.O s.st μ) w g u:=by
     intro j g hg;cases hp:k2.pure with
     | true=>
      rw[hp] at hs;cases hs;rw[bo] at hg;split at hg
      ·rw[bE] at hg;obtain⟨u,hu,hru⟩:=c5 _ g hg;unfold cZ at hru;rw[hp] at hru;exact⟨u,hu,hru⟩
      ·cases hg
     | false=>
      rw[hp] at hs;dsimp only at hs;cases hi:xt ((k2.cells.drop off).take (n*sz)) with
      | none=>rw[hi] at hs;cases hs
      | some x=>
       obtain⟨l,f0⟩:=x;rw[hi] at hs;cases hs;obtain⟨_,h4⟩:=Ca hi;obtain⟨g0,f',e1,e2,e3⟩:=h4 j g hg;rw[bo] at e1;split at e1
       ·rw[bE] at e1;obtain⟨u,hu,hru⟩:=c5 _ g0 e1;unfold cZ at hru;rw[hp] at hru;exact⟨u,hu,(Cb hru e2).flag e3⟩
       ·cases e1
    have hall:∀j,j<n*sz→∃u,cs[off+j]?=some u∧u.oneCell'=true:=by
     intro j hj;have hj':j<newsG.length:=by omega
     obtain⟨u,hu,hru⟩:=rd j _ (ag hj');exact⟨u,hu,hru.one (hone _ (fQ hj'))⟩
    have hlen:n*sz=0∨off+n*sz≤cs.size:=by
     rcases jP (n*sz) with h | h
     ·exact .inl h
     ·obtain⟨u,hu,_⟩:=hall (n*sz-1) (by omega);have:=(gX.1 hu).1;exact .inr (by omega)
    refine⟨b,off,cap,(cs.toList.drop off).take (n*sz),hv,?_,?_,?_,?_,?_⟩
    ·rw[br,cf,b9];omega
    ·intro j u hu;rw[bo] at hu;split at hu
     ·rw[bE,bq] at hu;rw[cell_of c1];exact hu
     ·cases hu
    ·intro u hu;obtain⟨j,hj⟩:=cA hu;rw[bo] at hj;split at hj
     ·rename_i hlt;rw[bE,bq] at hj;obtain⟨u',hu',ho⟩:=hall j hlt;rw[hj] at hu';cases hu';exact ho
     ·cases hj
    ·intro j g hg;obtain⟨u,hu,hru⟩:=rd j g hg;have hj:j<n*sz:=by have:=(ai.1 hg).1;omega
     exact⟨u,by rw[bo,if_pos hj,bE,bq];exact hu,hru⟩
    ·intro h k m' h7 h8;have:=hr.st.inj h2 h k2 k b m0 m' hk h7 hm h8;subst this;simp[G.cv]
   have hnm:n=m:=by
    cases hp:k2.pure with
    | true=>rw[hp] at hs;cases hs;rfl
    | false=>
     rw[hp] at hs;dsimp only at hs;cases hi:xt ((k2.cells.drop off).take (n*sz)) with
     | none=>rw[hi] at hs;cases hs
     | some x=>rw[hi] at hs;cases hs;rfl
   cases hv with
   | aF h=>cases h
   | gk _ _ hm=>exact .inl ⟨⟨none,0,rfl⟩,hnm.symm⟩
   | aL _ _ _ _ b m0 cap hm hn hc=>exact .inr (own b m0 cap rfl hm fun _ _ _ _=>hnm)
   | fq _ _ off0 b m0 hm _=>
    subst hnm;refine .inr ⟨b,off0,0,[],rfl,by simp,fun j u hu=>by simp at hu,fun u hu=>(by cases hu),fun j g hg=>?_,?_⟩
    ·have:=(ai.1 hg).1;omega
    ·intro h k m' h7 h8;have:=hr.st.inj h2 h k2 k b _ m' hk h7 hm h8;subst this;simp[G.cv]
 | _=>cases hs
def tW (h:Nat) (g:G):G:=bif g.cv h then .any else g
def nA (h:Nat):List (Nat×G)→List (Nat×G)
 | []=>[]
 | (t,g)::r=>(t,tW h g)::nA h r
def gA (h:Nat):List (Nat×av)→List (Nat×av)
 | []=>[]
 | (x,k)::r=>(x,bif k.pure then k else {k with cells:=k.cells.map (tW h)})::gA h r
theorem Ab {h:Nat}{fr:List (Nat×G)}{t:Nat}{g:G}(hg:get (nA h fr) t=some g):∃g0,get fr t=some g0∧g=tW h g0:=by
 induction fr with
 | nil=>cases hg
 | cons x r ih=>
  obtain⟨k,g'⟩:=x;simp only[nA,iS] at hg⊢;cases hb:Nat.beq k t with
  | true=>rw[hb] at hg;cases hg;exact⟨g',rfl,rfl⟩
  | false=>rw[hb] at hg;exact ih hg
theorem dM {h:Nat}{st:List (Nat×av)}{t:Nat}{k:av}(hg:ay (gA h st) t=some k):∃k0,ay st t=some k0∧k=bif k0.pure then k0 else {k0 with cells:=k0.cells.map (tW h)}:=by
 induction st with
 | nil=>cases hg
 | cons x r ih=>
  obtain⟨y,k'⟩:=x;simp only[gA,rr] at hg⊢;cases hb:Nat.beq y t with
  | true=>rw[hb] at hg;cases hg;exact⟨k',rfl,rfl⟩
  | false=>rw[hb] at hg;exact ih hg
theorem sk {O:Nat→Prop}{base:Nat}{w:World}{μ μ':Mu}{h:Nat}{g:G}{v:Value}(hv:aU O base w μ g v) (hμ:∀k,k≠h→μ' k=μ k):aU O base w μ' (tW h g) v:=by
 unfold tW;cases hh:g.cv h with
 | true=>exact .aF (.any _)
 | false=>exact hv.gS fun k hk=>hμ k fun e=>by subst e;rw[hh] at hk;cases hk
def Wj (h:Nat) (k:av):av:=bif k.pure then k else {k with cells:=k.cells.map (tW h)}
theorem aV.kill {O:Nat→Prop}{base:Nat}{w:World}{μ μ':Mu}{k:av}{x:Option (Nat×Mm)}(hb:aV O base w μ k x) (h:Nat) (hμ:∀y,y≠h→μ' y=μ y):aV O base w μ' (Wj h k) x:=by
 unfold Wj;cases hp:k.pure with
 | true=>exact hb.gS fun hp'=>by rw[hp] at hp';cases hp'
 | false=>
  simp only[cond_false];cases x with
  | none=>
   obtain⟨h1,h2⟩:=hb;refine⟨by simp[h1],?_⟩;dsimp only;split at h2
   ·trivial
   ·exact h2.elim
   ·rw[hp] at h2;cases h2.2
  | some bm=>
   obtain⟨b,m⟩:=bm;cases hl:k.lp with
   | none=>
    obtain⟨cs1,h4,h5,h6,h7,h8,h9⟩:=hb.cells hl;refine .mk rfl (hb.nf hl) ⟨cs1,h4,h5,by simpa using h6,h7,h8,fun j g hg=>?_⟩;dsimp only at hg;rw[ak] at hg;cases hg0:k.cells[j]? with
    | none=>rw[hg0] at hg;cases hg
    | some g0=>
     rw[hg0] at hg;cases hg;obtain⟨v,hv,hrv⟩:=h9 j g0 hg0;refine⟨v,hv,?_⟩;unfold cZ at hrv⊢;rw[hp] at hrv;simp only;exact sk hrv hμ
   | some kd=>
    cases kd with
    | deep d=>have:=((aV.deep hl).1 hb).2.1;rw[hp] at this;cases this
    | loop lp=>
     obtain⟨D,vs,h1,h2,h3,h4,h5⟩:=(aV.loop hl).1 hb;refine(aV.loop rfl).2 ⟨D,vs,h1,h2,h3,rfl,fun j t g ht hg=>?_⟩;dsimp only at hg;rw[ak] at hg;cases hg0:k.cells[j]? with
     | none=>rw[hg0] at hg;cases hg
     | some g0=>
      rw[hg0] at hg;cases hg;obtain⟨v,hv,hrv⟩:=h5 j t g0 ht hg0;exact⟨v,hv,sk hrv hμ⟩
theorem Rel.RZ {μ : Mu} {a : Act} {w w' : World} (hr : Rel N cx μ s a w) {h : Nat} {k k' : av} {b' m' : Nat} {cs' : Array Value} (hk : ay s.st h = some k)
    (hnew : (∃ m, μ h = some (b', m)) ∨ w.heap.size ≤ b') (hb' : w'.heap[b']? = some (.cells cs' k'.bI (0, 0))) (hs : cs'.size = m') (hsz : w.heap.size ≤ w'.heap.size)
    (hoth : ∀ b, b < w.heap.size → (∀ m, μ h ≠ some (b, m)) → w'.heap[b]? = w.heap[b]?) (hos : w'.os = w.os) (htape : w'.tape = w.tape) (hout : w'.output = w.output)
    (hmine : k'.ew = true → k.ew = true) (hpure : k'.pure = true) (hl : k'.cells.length ≤ m') (hbt : k'.sz ≠ 0 → m' ≤ maxLen * k'.sz)
    (hc : ∀ (j : Nat) (g : G), k'.cells[j]? = some g → ∃ v, cs'[j]? = some v ∧ cZ (cx.O s.st μ) cx.base w μ k' g v) (W : List Nat) (hW : W.contains h = true) (hlp : k'.lp = none) (hpn : pinned h = false) (hdf : qn h s.df = true) :
    Rel N cx (lk μ h (some (b', m', []))) { fr := nA h s.fr, st := (h, k') :: gA h s.st, df := s.df } a w' ∧ Step W s.st μ ((h, k') :: gA h s.st) (lk μ h (some (b', m', []))) w w' := by
  have hO : ∀ b, b < w.heap.size → ¬ cx.O s.st μ b → ¬ cx.O ((h, k') :: gA h s.st) (lk μ h (some (b', m', []))) b := by
    intro b hb hn ho
    rcases ho with ho | ⟨x, k1, c, m, h1, h2, h2i⟩
    · exact hn (.inl ho)
    · by_cases e : x = h
      · subst e
        rw [b7] at h2
        cases h2
        obtain rfl := In.plain.1 h2i
        rcases hnew with ⟨m0, h3⟩ | h3
        · exact hn (.inr (.root hk h3))
        · omega
      · rw [aB _ _ e] at h1
        rw [aZ e] at h2
        obtain ⟨k0, h3, _⟩ := dM h1
        exact hn (.inr ⟨x, k0, c, m, h3, h2, h2i⟩)
  have hkept : Kept (cx.O s.st μ) w w' := ⟨hsz, fun b hb hn => hoth b hb fun m hm => hn (.inr (.root hk hm))⟩
  have hlt : ∀ x k1 b m y, ay s.st x = some k1 → μ x = some (b, m) → In y b m → y < w.heap.size := fun x k1 b m y h1 h2 h3 => (hr.st.cq x k1 b m y h1 h2 h3).2.2.1
  have hsep : ∀ x k1 b m, x ≠ h → ay s.st x = some k1 → μ x = some (b, m) → ¬ In b' b m := by
    intro x k1 b m hne h1 h2 e
    rcases hnew with ⟨m0, h3⟩ | h3
    · exact hne (hr.st.de x h k1 k b' b m b' m0 h1 hk h2 h3 e (.self _ _))
    · have := hlt x k1 b m b' h1 h2 e; omega
  refine ⟨{ st := { en := ?_, de := ?_, cq := ?_, fD := ?_, fg := hr.st.fg, hb := cK hr.st.hb hsz, os := hos.trans hr.st.os, tape := htape.trans hr.st.tape, output := hout.trans hr.st.output, gl := hr.st.gl, dq := ?_ }, nd := (hr.nd.mono hkept hO).gS (fun g hg y hy => aZ fun e => by subst e; rw [pP hdf hg] at hy; cases hy), sz := hr.sz, fr := ?_ }, ?_⟩
  · intro x k1 h1
    by_cases e : x = h
    · subst e
      rw [dU] at h1
      cases h1
      rw [b7]
      refine .mk hlp rfl ⟨cs', hb', hs, hl, fun hmn => ?_, hbt, fun j g hg => ?_⟩
      · rcases hnew with ⟨m0, h3⟩ | h3
        · have h4 := hr.st.en x k hk
          rw [h3] at h4
          exact h4.heap.2 (hmine hmn)
        · have := hr.st.hb; omega
      · obtain ⟨v, hv, hrv⟩ := hc j g hg
        exact ⟨v, hv, (hrv.mono hkept hO).gS fun hp => by rw [hpure] at hp; cases hp⟩
    · rw [aB _ _ e] at h1
      rw [aZ e]
      obtain ⟨k0, h2, rfl⟩ := dM h1
      exact ((hr.st.en x k0 h2).mono (fun b m hm y hy => hoth y (hlt x k0 b m y h2 hm hy) fun m0 hm0 => e (hr.st.de x h k0 k y b m y m0 h2 hk hm hm0 hy (.self _ _))) hkept hO).kill h fun y hy => aZ hy
  · intro x x' k1 k2 y b m b2 m2 h1 h2 h3 h4 hi hi'
    by_cases e : x = h
    · by_cases e' : x' = h
      · rw [e, e']
      · subst e
        rw [b7] at h3
        cases h3
        rw [aZ e'] at h4
        rw [aB _ _ e'] at h2
        obtain ⟨k0, h5, _⟩ := dM h2
        exact absurd (In.plain.1 hi ▸ hi') (hsep x' k0 _ m2 e' h5 h4)
    · by_cases e' : x' = h
      · subst e'
        rw [b7] at h4
        cases h4
        rw [aZ e] at h3
        rw [aB _ _ e] at h1
        obtain ⟨k0, h5, _⟩ := dM h1
        exact absurd (In.plain.1 hi' ▸ hi) (hsep x k0 _ m e h5 h3)
      · rw [aZ e] at h3
        rw [aZ e'] at h4
        rw [aB _ _ e] at h1
        rw [aB _ _ e'] at h2
        obtain ⟨k0, h5, _⟩ := dM h1
        obtain ⟨k0', h5', _⟩ := dM h2
        exact hr.st.de x x' k0 k0' y b m b2 m2 h5 h5' h3 h4 hi hi'
  · intro x k1 b m y h1 h2 hi
    by_cases e : x = h
    · subst e
      rw [b7] at h2
      cases h2
      obtain rfl := In.plain.1 hi
      have hlt' : y < w'.heap.size := dQ hb'
      rcases hnew with ⟨m0, h3⟩ | h3
      · obtain ⟨a1, a2, _, a4⟩ := hr.st.cq x k _ m0 _ hk h3 (.self _ _)
        exact ⟨a1, a2, hlt', fun hm => a4 (hmine (by rw [dU] at h1; cases h1; exact hm))⟩
      · have := hr.st.hb
        exact ⟨fun hx => by have := hr.st.fg _ hx; omega, .inl (by omega), hlt', fun _ => by omega⟩
    · rw [aB _ _ e] at h1
      rw [aZ e] at h2
      obtain ⟨k0, h5, rfl⟩ := dM h1
      obtain ⟨a1, a2, a3, a4⟩ := hr.st.cq x k0 b m y h5 h2 hi
      exact ⟨a1, a2, cJ a3 hsz, fun hm => a4 (by cases hp : k0.pure <;> simp only [hp] at hm <;> exact hm)⟩
  · intro x k1 h1 h2
    by_cases e : x = h
    · subst e; rw [hpn] at h2; cases h2
    · rw [aB _ _ e] at h1
      rw [aZ e]
      obtain ⟨k0, h5, _⟩ := dM h1
      exact hr.st.fD x k0 h5 h2
  · intro b hb hA
    rw [hoth b (by have := hr.st.hb; omega) fun m hm => ?_]
    · exact hr.st.dq b hb hA
    · obtain ⟨_, h1⟩ := hr.st.out h k b m hk hm
      rcases h1 with h1 | h1
      · omega
      · exact hA h1
  · intro t g hg
    obtain ⟨g0, h1, rfl⟩ := Ab hg
    obtain ⟨v, hv, hrv⟩ := hr.fr t g0 h1
    exact ⟨v, hv, sk (hrv.mono hkept hO (aG _)) fun k hk => aZ hk⟩
  · refine ⟨hsz, fun b hb hn => hoth b hb fun m hm => hn.ne h k m (by simpa using hW) hk hm, fun x k1 b m y hw h1 h2 hi => ?_⟩
    by_cases e : x = h
    · subst e
      rw [b7] at h2
      cases h2
      obtain rfl := In.plain.1 hi
      rcases hnew with ⟨m0, h3⟩ | h3
      · exact .inl ⟨x, k, y, m0, hw, hk, h3, .self _ _⟩
      · exact .inr h3
    · rw [aB _ _ e] at h1
      rw [aZ e] at h2
      obtain ⟨k0, h5, _⟩ := dM h1
      exact .inl ⟨x, k0, b, m, hw, h5, h2, hi⟩
end
end Go.AM
/-
 AM,part J:append,the operation.
-/
namespace Go.AM
section
variable {P:Program}{N:Nat}{cx:Cx}{s:St}
theorem Rel.kill {μ:Mu}{a:Act}{w:World}(hr:Rel N cx μ s a w) (h:Nat):Rel N cx μ {fr:=nA h s.fr,st:=gA h s.st,df:=s.df} a w:=by
 have hO:∀b,¬cx.O s.st μ b→¬cx.O (gA h s.st) μ b:=by
  rintro b hn (ho | ⟨x,k1,c,m,h1,h2,hi⟩)
  ·exact hn (.inl ho)
  ·obtain⟨k0,h3,_⟩:=dM h1;exact hn (.inr ⟨x,k0,c,m,h3,h2,hi⟩)
 refine {st:={en:=?_,de:=?_,cq:=?_,fD:=?_,fg:=hr.st.fg,hb:=hr.st.hb,os:=hr.st.os,tape:=hr.st.tape,output:=hr.st.output,gl:=hr.st.gl,dq:=hr.st.dq},nd:=hr.nd.mono (Kept.refl _ _) (fun b _=>hO b),sz:=hr.sz,fr:=?_}
 ·intro x k1 h1;obtain⟨k0,h2,rfl⟩:=dM h1;exact((hr.st.en x k0 h2).mono (fun _ _ _ _ _=>rfl) (Kept.refl _ _) (fun b _=>hO b)).kill h fun _ _=>rfl
 ·intro x x' k1 k2 y b m b2 m2 h1 h2 h3 h4;obtain⟨k0,h5,_⟩:=dM h1;obtain⟨k0',h5',_⟩:=dM h2;exact hr.st.de x x' k0 k0' y b m b2 m2 h5 h5' h3 h4
 ·intro x k1 b m y h1 h2;obtain⟨k0,h5,rfl⟩:=dM h1;exact fun hi=>let ⟨a1,a2,a3,a4⟩:=hr.st.cq x k0 b m y h5 h2 hi;⟨a1,a2,a3,fun hm=>a4 (by cases hp:k0.pure <;> simp only[hp] at hm <;> exact hm)⟩
 ·intro x k1 h1 h2;obtain⟨k0,h5,_⟩:=dM h1;exact hr.st.fD x k0 h5 h2
 ·intro t g hg;obtain⟨g0,h1,rfl⟩:=Ab hg;obtain⟨v,hv,hrv⟩:=hr.fr t g0 h1;exact⟨v,hv,sk (hrv.mono (Kept.refl _ _) (fun b _=>hO b) (aG _)) fun k hk=>rfl⟩
theorem Rel.V9 {μ:Mu}{a:Act}{w:World}(hr:Rel N cx μ s a w){h:Nat}{k k':av}(hk:ay s.st h=some k) (he:k'.bI=k.bI) (hp:k'.pure=k.pure) (hmine:k'.ew=true→k.ew=true)
  (hf:k'.fresh=true→k.fresh=true) (hsz:k'.sz=k.sz) (hc:k'.cells=k.cells) (hlp:k.lp=none) (hlp':k'.lp=none):Rel N cx μ {fr:=s.fr,st:=(h,k')::s.st,df:=s.df} a w:=by
 have key:∀x k1,ay ((h,k')::s.st) x=some k1→∃k0,ay s.st x=some k0:=by
  intro x k1 h1
  by_cases e:x=h
  ·subst e;exact⟨k,hk⟩
  ·rw[aB _ _ e] at h1;exact⟨k1,h1⟩
 have hO:∀b,¬cx.O s.st μ b→¬cx.O ((h,k')::s.st) μ b:=by
  rintro b hn (ho | ⟨x,k1,c,m,h1,h2,hi⟩)
  ·exact hn (.inl ho)
  ·obtain⟨k0,h3⟩:=key x k1 h1;exact hn (.inr ⟨x,k0,c,m,h3,h2,hi⟩)
 refine {st:={en:=?_,de:=?_,cq:=?_,fD:=?_,fg:=hr.st.fg,hb:=hr.st.hb,os:=hr.st.os,tape:=hr.st.tape,output:=hr.st.output,gl:=hr.st.gl,dq:=hr.st.dq},nd:=hr.nd.mono (Kept.refl _ _) (fun b _=>hO b),sz:=hr.sz,fr:=?_}
 ·intro x k1 h1
  by_cases e:x=h
  ·subst e;rw[dU] at h1;cases h1;have h3:=hr.st.en x k hk;cases hm:μ x with
   | none=>rw[hm] at h3;obtain⟨h3,_⟩:=h3;exact .nil (by rw[hc];exact h3) hlp'
   | some bm=>
    obtain⟨b,m⟩:=bm;rw[hm] at h3;obtain⟨cs1,h4,h5,h6,h7,h8,h9⟩:=h3.cells hlp;refine .mk hlp' (h3.nf hlp) ⟨cs1,by rw[he];exact h4,h5,by rw[hc];exact h6,fun h=>h7 (hmine h),by rw[hsz];exact h8,fun j g hg=>?_⟩;rw[hc] at hg;obtain⟨v,hv,hrv⟩:=h9 j g hg;refine⟨v,hv,?_⟩;have hrv':=hrv.mono (Kept.refl _ _) fun b _=>hO b;unfold cZ at hrv'⊢;rw[hp];cases hpp:k.pure with
    | true=>rw[hpp] at hrv';exact hrv'.flag hf
    | false=>rw[hpp] at hrv';exact hrv'
  ·rw[aB _ _ e] at h1;exact(hr.st.en x k1 h1).mono (fun _ _ _ _ _=>rfl) (Kept.refl _ _) (fun b _=>hO b)
 ·intro x x' k1 k2 y b m b2 m2 h1 h2 h3 h4;obtain⟨k0,h5⟩:=key x k1 h1;obtain⟨k0',h5'⟩:=key x' k2 h2;exact hr.st.de x x' k0 k0' y b m b2 m2 h5 h5' h3 h4
 ·intro x k1 b m y h1 h2;intro hi
  by_cases e:x=h
  ·subst e;rw[dU] at h1;cases h1;obtain⟨a1,a2,a3,a4⟩:=hr.st.cq x k b m y hk h2 hi;exact⟨a1,a2,a3,fun hm=>a4 (hmine hm)⟩
  ·rw[aB _ _ e] at h1;exact hr.st.cq x k1 b m y h1 h2 hi
 ·intro x k1 h1 h2;obtain⟨k0,h5⟩:=key x k1 h1;exact hr.st.fD x k0 h5 h2
 ·intro t g hg;obtain⟨v,hv,hrv⟩:=hr.fr t g hg;exact⟨v,hv,hrv.mono (Kept.refl _ _) (fun b _=>hO b) (aG _)⟩
theorem vT {h x:Nat}{st:List (Nat×av)}{k:av}(hk:ay st x=some k) (hp:k.pure=true):ay (gA h st) x=some k:=by
 induction st with
 | nil=>cases hk
 | cons y r ih=>
  obtain⟨z,k'⟩:=y;simp only[gA,rr] at hk⊢;cases hb:Nat.beq z x with
  | true=>rw[hb] at hk;cases hk;simp[hp]
  | false=>rw[hb] at hk;exact ih hk
variable {ty:TypeId}{pos:String}{after:Array Edge}{guard:Option (Nat×Bool)}{W:List Nat}{d:Nat}
theorem El (w:World) (t ty e:TypeId) (i:TypeInfo) (ht:P.underlying t=some (.slice e)) (hi:P.info? e=some i) (b:Option Addr) (n cap:Nat) (hn:n≤cap) (b2:Option Addr) (c2:Nat):
  (Builtin.append_ #[t,t] ty #[.slice b n cap,.slice b2 0 c2]).run P w=.ok (.slice b n cap) w:=by
 have hf:(Builtin.firstCells i.size 0 (.slice b2 0 c2)).run P w=.ok #[] w:=by
  cases b2 with
  | none=>simp[Builtin.firstCells]
  | some a=>simp[Builtin.firstCells,loadCells,loadCellsFrom]
 cases b with
 | none=>simp[Builtin.append_,run_underlying ht,sizeOf,typeInfo,hi,Builtin.lenOf,hn,hf]
 | some a=>simp[Builtin.append_,run_underlying ht,sizeOf,typeInfo,hi,Builtin.lenOf,hn,hf,storeCells]
theorem EF.append {t e : TypeId} {x y : Operand} {h sz n bt m : Nat} {k : av} {gy : G} {newsG : List G} {f : Bool} {z : Value} (hx : ev s x = some (.aL h sz 0 n)) (hy : ev s y = some gy) (hk : ay s.st h = some k)
    (hp : k.pure = true) (hety : k.bI = e) (hksz : k.sz = sz) (hfull : k.cells.length = n * sz) (hsrc : z8 s.st sz gy = some (newsG, m, f)) (hlen : newsG.length = m * sz)
    (hone : ∀ g, g ∈ newsG → g.one = true) (hap : gy.cv h = false) (ht : P.underlying t = some (.slice e)) (hi : (P.info? e).map (fun i => (i.zero, i.size, i.bytes)) = some (some z, sz, bt))
    (hzs : z.cells.size = sz) (hsz : 0 < sz) (uM : n + m ≤ maxLen) (hbound : (n + m) * bt ≤ 140737488355328) (hW : W.contains h = true) (hlp : k.lp = none := by rfl) (hpn : pinned h = false := by rfl) (hdf : qn h s.df = true := by rfl) :
    cm P W s ⟨some d, .call ⟨.builtin .append, #[x, y], #[t, t]⟩, ty, pos, after, guard⟩
      (· = { fr := (d, .aL h sz 0 (n + m)) :: nA h s.fr, st := (h, { k with fresh := k.fresh && f, cells := k.cells ++ newsG }) :: gA h s.st, df := s.df }) := by
  subst hety hksz
  refine ⟨(fun _ h => by cases h), ?_⟩
  intro N cx μ a w hr hN K Q hK
  obtain ⟨i, hi1, hi2⟩ := az.1 hi
  simp only [qt] at hi2
  obtain ⟨hz, hs1, hb1⟩ := hi2
  have hv : (a.eval x = .slice none 0 0 ∧ n = 0 ∧ μ h = none ∧ k.cells = []) ∨
      ∃ b cap m0 cs, a.eval x = .slice (some ⟨b, 0, none⟩) n cap ∧ n ≤ cap ∧ μ h = some (b, m0) ∧ cap * k.sz = m0.1 ∧ w.heap[b]? = some (.cells cs k.bI (0, 0)) ∧ cs.size = m0.1 ∧ m0.1 ≤ maxLen * k.sz ∧
        ∀ (j : Nat) (g : G), k.cells[j]? = some g → ∃ v, cs[j]? = some v ∧ cZ (cx.O s.st μ) cx.base w μ k g v := by
    have hv := hr.ev hx
    generalize a.eval x = v at hv
    cases hv with
    | aF h => cases h
    | gk _ _ hm =>
      have := hr.st.en h k hk
      rw [hm] at this
      exact .inl ⟨rfl, rfl, hm, this.1⟩
    | aL _ _ _ _ b m0 cap hm hn hc =>
      obtain ⟨cs, h1, h2, h3, h4, h5, h6⟩ := hr.own hk hm hlp
      exact .inr ⟨b, cap, m0, cs, rfl, hn, hm, by omega, h1, h2, h5 (by omega), h6⟩
    | fq _ _ off0 b _ hm hpos => exact absurd hpos (mT _)
  have idle : ∀ (b2 : Option Addr) (c2 : Nat), m = 0 → a.eval y = .slice b2 0 c2 → (Oper.wp P ⟨some d, .call ⟨.builtin .append, #[x, y], #[t, t]⟩, ty, pos, after, guard⟩ a w K Q) := by
    intro b2 c2 hm0 hyv
    subst hm0
    have hnil : newsG = [] := bu (by simpa using hlen)
    subst hnil
    have hxv : ∃ b n' cap, a.eval x = .slice b n cap ∧ n ≤ cap ∧ n' = n ∧ aU (cx.O s.st μ) cx.base w μ (.aL h k.sz 0 n) (.slice b n cap) := by
      have hv' := hr.ev hx
      rcases hv with ⟨h1, h2, _⟩ | ⟨b, cap, m0, cs, h1, h2, _⟩
      · subst h2; rw [h1] at hv' ⊢; exact ⟨none, 0, 0, rfl, aG _, rfl, hv'⟩
      · rw [h1] at hv' ⊢; exact ⟨_, n, cap, rfl, h2, rfl, hv'⟩
    obtain ⟨b, n', cap, h1, h2, rfl, h3⟩ := hxv
    have hrun := El (P := P) w t ty k.bI i ht hi1 b n' cap h2 b2 c2
    unfold Oper.wp
    have : (execOp a.eval ⟨some d, .call ⟨.builtin .append, #[x, y], #[t, t]⟩, ty, pos, after, guard⟩).run P w = .ok (.value (.slice b n' cap)) w := by
      simp only [execOp, resolve, invoke, builtin, Sem.run_bind, Sem.run_pure, Result.andThen_ok, List.map_toArray, bc, rN, h1, hyv, hrun]
    rw [this]
    have hk2 := vT (h := h) hk hp
    have hr2 := (hr.kill h).V9 (k' := { k with fresh := k.fresh && f, cells := k.cells ++ [] }) hk2 rfl rfl id (fun h => by simp at h; exact h.1) rfl (by simp) hlp hlp
    refine hK μ _ _ w (hr2.put (d := d) (g := .aL h k.sz 0 (n' + 0)) (hN d rfl) ?_) rfl ?_
    · have h4 : aU (cx.O ((h, { k with fresh := k.fresh && f, cells := k.cells ++ [] }) :: gA h s.st) μ) cx.base w μ (.aL h k.sz 0 n') (.slice b n' cap) := by
        cases h3 with
        | aF h => cases h
        | gk _ _ hm => exact .gk _ _ hm
        | aL _ _ _ _ b m0 cap hm hn hc => exact .aL _ _ _ _ b m0 cap hm hn hc
        | fq _ _ off0 b _ hm hpos => exact .fq _ _ off0 b _ hm hpos
      exact h4
    · refine ⟨aG _, fun _ _ _ => rfl, fun x k1 c1 m1 b1 hw h1 h2 hi => ?_⟩
      by_cases e : x = h
      · subst e; exact .inl ⟨x, k, c1, m1, hw, hk, h2, hi⟩
      · have h1' : ay (gA h s.st) x = some k1 := by rw [← aB _ _ e]; exact h1
        obtain ⟨k0, h5, _⟩ := dM h1'
        exact .inl ⟨x, k0, c1, m1, hw, h5, h2, hi⟩
  rcases hr.src hy hsrc hlen hone with ⟨⟨o2, c2, h1⟩, h2⟩ | ⟨b2, off2, c2, news, e1, e2, e3, e4, e5, e6⟩
  · exact idle o2 c2 h2 h1
  rcases jP m with hm0 | hm0
  · subst hm0
    exact idle _ c2 rfl e1
  have hcell : ∀ j u, news[j]? = some u → w.cell? ((⟨b2, off2, none⟩ : Addr).add j) = some u := fun j u hu => by rw [Addr.lz]; exact e3 j u hu
  have hown : ∃ v xs, a.eval x = v ∧ w.ownsRow 0 k.bI k.sz v n xs ∧ (∀ (j : Nat) (g : G), k.cells[j]? = some g → ∃ v, xs[j]? = some v ∧ cZ (cx.O s.st μ) cx.base w μ k g v) := by
    rcases hv with ⟨h1, h2, h3, h4⟩ | ⟨b, cap, m0, cs, h1, h2, h3, h4, h6, h7, h8, h9⟩
    · subst h2
      exact ⟨_, [], h1, World.ownsRow_nil w 0 k.bI k.sz, fun j g hg => by rw [h4] at hg; simp at hg⟩
    · refine ⟨_, cs.toList.take (n * k.sz), h1, ⟨?_, .inr ⟨b, cap, cs, rfl, iV _, h6, h2, ?_, by rw [h7, h4], rfl⟩⟩, fun j g hg => ?_⟩
      · rw [br, b9, h7, ← h4]
        exact iN (bW _ h2)
      · rw [← h4] at h8
        exact Nat.le_of_mul_le_mul_right h8 hsz
      · obtain ⟨v, hv, hrv⟩ := h9 j g hg
        have hj : j < n * k.sz := by have := (ai.1 hg).1; omega
        exact ⟨v, by rw [bo, if_pos hj, bq]; exact hv, hrv⟩
  obtain ⟨v, xs, h1, h2, h5⟩ := hown
  have law := run_append_own (P := P) w 0 t ty k.bI i z k.sz bt ht hi1 hz hs1 hb1 hzs hsz v n xs h2 ⟨b2, off2, none⟩ m c2 news e2 hcell e4 uM hbound (iV _)
  rw [← h1, ← e1] at law
  obtain ⟨v', w', hrun, ho, hgrow, _⟩ := law
  have hblock : ∃ g cap, v' = .slice (some ⟨g, 0, none⟩) (n + m) cap ∧ ((∃ m0, μ h = some (g, m0)) ∨ w.heap.size ≤ g) := by
    have hmm : n + m ≤ 9223372036854775807 := by unfold maxLen at uM; omega
    rcases hv with ⟨q1, q2, q3, q4⟩ | ⟨b, cap, m0, cs, q1, q2, q3, q4, q6, q7, q8, q9⟩
    · subst q2
      have hr2 := run_append_nil (P := P) w t ty k.bI i z ht hi1 hz ⟨b2, off2, none⟩ m c2 news (by rw [hs1]; exact e2) hcell hm0 (by omega) (by rw [hb1]; simp only [da] at hbound; omega)
      rw [q1, e1, hr2] at hrun
      injection hrun with r1 r2
      exact ⟨_, _, by rw [← r1, da], .inr (aG _)⟩
    · rcases h2.2 with ⟨q10, q11⟩ | ⟨g, cap', cur, q10, _, q12, q13, q14, q15, q16⟩
      · rw [← h1, q1] at q10; cases q10
      · rw [← h1, q1] at q10
        cases q10
        by_cases hroom : n + m ≤ cap
        · have hfit : n * i.size + news.length ≤ cur.size := by rw [e2, hs1, q15, ← ff]; exact bW _ hroom
          have hr2 := run_append_room (P := P) w t ty k.bI i ht hi1 b n cap cur q12 ⟨b2, off2, none⟩ m c2 news (by rw [hs1]; exact e2) hcell e4 hroom hfit
          rw [q1, e1, hr2] at hrun
          injection hrun with r1 r2
          exact ⟨_, _, r1.symm, .inl ⟨m0, q3⟩⟩
        · have holds := h2.cells (g := b) (by rw [← h1, q1]; rfl)
          have hr2 := run_append_grow (P := P) w t ty k.bI i z ht hi1 hz ⟨b, 0, none⟩ n cap xs (by rw [hs1]; exact h2.1) holds ⟨b2, off2, none⟩ m c2 news (by rw [hs1]; exact e2) hcell (by omega)
            (by omega) (growslice_fits (by omega) (by rw [hb1]; exact hbound))
          rw [q1, e1, hr2] at hrun
          injection hrun with r1 r2
          exact ⟨_, _, r1.symm, .inr (aG _)⟩
  have hoth : ∀ b, b < w.heap.size → (∀ m, μ h ≠ some (b, m)) → w'.heap[b]? = w.heap[b]? := by
    intro b hb' hn
    refine hgrow.block b hb' fun e => ?_
    rcases hv with ⟨q1, q2, q3, q4⟩ | ⟨b', cap, m0, cs, q1, q2, q3, q4, q6, q7, q8, q9⟩
    · rw [q1] at e; cases e
    · rw [q1] at e
      cases e
      exact hn m0 q3
  obtain ⟨g, cap, rfl, hg⟩ := hblock
  obtain ⟨ho1, ho2⟩ := ho
  rcases ho2 with ⟨ho2, _⟩ | ⟨g', cap', cur, ho2, _, hcur, hnc, hcm, hcs, htake⟩
  · cases ho2
  · cases ho2
    have hxl := h2.1
    have kO : ∀ (j : Nat) (v : Value), (xs ++ news)[j]? = some v → cur[j]? = some v := by
      intro j v hv
      rw [← htake, bo] at hv
      split at hv
      · rw [bq] at hv; exact hv
      · cases hv
    have hle : (n + m) * k.sz ≤ cap * k.sz := bW _ hnc
    obtain ⟨hr2, hst⟩ := hr.RZ (k' := { k with fresh := k.fresh && f, cells := k.cells ++ newsG }) hk hg hcur rfl hgrow.size hoth hgrow.os hgrow.tape hgrow.output id hp (by dsimp only; rw [aI, hfull, hlen, ← ff, hcs]; exact hle)
      (fun _ => by dsimp only; rw [hcs]; exact bW _ hcm)
      (by
        intro j g' hg'
        dsimp only at hg'
        rw [bS] at hg'
        split at hg'
        · obtain ⟨v, hv, hrv⟩ := h5 j g' hg'
          refine ⟨v, kO j v ?_, ?_⟩
          · rw [eL (by omega)]; exact hv
          · unfold cZ at hrv ⊢
            dsimp only
            rw [hp] at hrv ⊢
            exact hrv.flag fun h => by simp at h; exact h.1
        · rename_i hj
          obtain ⟨v, hv, hrv⟩ := e5 _ g' hg'
          refine ⟨v, kO j v ?_, ?_⟩
          · rw [gV (by omega), hxl, ← hfull]; exact hv
          · unfold cZ
            dsimp only
            rw [hp]
            exact hrv.flag fun h => by simp at h; exact h.2) W hW hlp hpn hdf
    unfold Oper.wp
    have : (execOp a.eval ⟨some d, .call ⟨.builtin .append, #[x, y], #[t, t]⟩, ty, pos, after, guard⟩).run P w = .ok (.value (.slice (some ⟨g, 0, none⟩) (n + m) cap)) w' := by
      simp only [execOp, resolve, invoke, builtin, Sem.run_bind, Sem.run_pure, Result.andThen_ok, List.map_toArray, bc, rN, hrun]
    rw [this]
    refine hK _ _ _ w' (hr2.put (d := d) (g := .aL h k.sz 0 (n + m)) (hN d rfl) ?_) rfl hst
    exact .aL _ _ _ _ _ _ cap (b7 _ _ _) hnc (by rw [hcs]; omega)
end
end Go.AM
/-
 AM,part K:contracts of functions;results;calls.
-/
namespace Go.AM
def oI:List G→Nat→List (Nat×G)
 | [],_=>[]
 | g::r,j=>(j,g)::oI r (j+1)
theorem DV:∀{gs:List G}{j t:Nat}{g:G},get (oI gs j) t=some g→j≤t∧gs[t-j]?=some g
 | [],_,_,_,h=>by cases h
 | x::r,j,t,g,h=>by
  simp only[oI,iS] at h;cases hb:Nat.beq j t with
  | true=>rw[hb] at h;cases h;have:=ab hb;subst this;simp
  | false=>
   rw[hb] at h;obtain⟨h1,h2⟩:=DV (gs:=r) h;have hne:t≠j:=fun e=>by subst e;rw[aW] at hb;cases hb
   refine⟨by omega,?_⟩;have:t-j=(t-(j+1))+1:=by omega
   rw[this,kq];exact h2
def jc (X:Nat→Prop) (st:List (Nat×av)) (μ:Mu) (w:World):Cx:=⟨X,Own st μ,w.heap.size,w,none,μ⟩
def FD (X:Nat→Prop) (st:List (Nat×av)) (μ:Mu) (w:World) (Q:G→List (Nat×av)→Prop) (Qp:List PanicEntry→List (Nat×av)→Prop) (e:Ending) (w':World):Prop:=
 (∃v r st' μ',e=.returned v∧Q r st'∧cI (jc X st μ w) μ' st' w'∧aU ((jc X st μ w).O st' μ') w.heap.size w' μ' r v)∨
 (∃c st' μ',e=.panicked c∧Qp c st'∧cI (jc X st μ w) μ' st' w')
def GP (P:Program) (f:FuncId) (args:List G) (st:List (Nat×av)) (Q:G→List (Nat×av)→Prop) (Qp:List PanicEntry→List (Nat×av)→Prop):Prop:=
 ∀(X:Nat→Prop) (μ:Mu) (w:World) (vs:List Value),(∀b,X b→b<w.heap.size)→cI (jc X st μ w) μ st w→vs.length=args.length→
  (∀(j:Nat) (g:G) (v:Value),args[j]?=some g→vs[j]?=some v→aU ((jc X st μ w).O st μ) w.heap.size w μ g v)→
  Calls P f vs.toArray w (FD X st μ w Q Qp)
def GM (P:Program) (f:FuncId) (args:List G) (st:List (Nat×av)) (Q:G→List (Nat×av)→Prop):Prop:=GP P f args st Q fun _ _=>False
theorem FD.mono {X:Nat→Prop}{st:List (Nat×av)}{μ:Mu}{w:World}{Q Q':G→List (Nat×av)→Prop}{Qp Qp':List PanicEntry→List (Nat×av)→Prop}{e:Ending}{w':World}(h:FD X st μ w Q Qp e w')
  (hq:∀r st,Q r st→Q' r st) (hp:∀c st,Qp c st→Qp' c st):FD X st μ w Q' Qp' e w':=by
 rcases h with ⟨v,r,st',μ',h1,h2,h3⟩ | ⟨c,st',μ',h1,h2,h3⟩
 ·exact .inl ⟨v,r,st',μ',h1,hq _ _ h2,h3⟩
 ·exact .inr ⟨c,st',μ',h1,hp _ _ h2,h3⟩
theorem GP.mono {P:Program}{f:FuncId}{args:List G}{st:List (Nat×av)}{Q Q':G→List (Nat×av)→Prop}{Qp Qp':List PanicEntry→List (Nat×av)→Prop}(h:GP P f args st Q Qp)
  (hq:∀r st,Q r st→Q' r st) (hp:∀c st,Qp c st→Qp' c st):GP P f args st Q' Qp':=
 fun X μ w vs h1 h2 h3 h4=>(h X μ w vs h1 h2 h3 h4).mono fun _ _ hc=>hc.mono hq hp
theorem GM.mono {P:Program}{f:FuncId}{args:List G}{st:List (Nat×av)}{Q Q':G→List (Nat×av)→Prop}(h:GM P f args st Q) (hq:∀r st,Q r st→Q' r st):GM P f args st Q':=
 GP.mono h hq fun _ _ h=>h
theorem GM.returned {P:Program}{f:FuncId}{args:List G}{st:List (Nat×av)}{Q:G→List (Nat×av)→Prop}(h:GM P f args st Q) (X:Nat→Prop) (μ:Mu) (w:World) (vs:List Value) (h1:∀b,X b→b<w.heap.size) (h2:cI (jc X st μ w) μ st w)
  (h3:vs.length=args.length) (h4:∀(j:Nat) (g:G) (v:Value),args[j]?=some g→vs[j]?=some v→aU ((jc X st μ w).O st μ) w.heap.size w μ g v):
  Calls P f vs.toArray w fun e w'=>∃v r st' μ',e=.returned v∧Q r st'∧cI (jc X st μ w) μ' st' w'∧aU ((jc X st μ w).O st' μ') w.heap.size w' μ' r v:=
 (h X μ w vs h1 h2 h3 h4).mono fun _ _ hc=>hc.elim id fun ⟨_,_,_,_,h,_⟩=>h.elim
def yC (a:Act):ResultVar→Sem Value
 | .tmp t=>pure (a.tmps.getD t undef)
 | .cell b t=>do loadVar t (←asAddr (a.tmps.getD b undef))
def uI (P:Program) (s:St) (rv:ResultVar) (g:G):Prop:=
 ∀(N:Nat) (cx:Cx) (μ:Mu) (a:Act) (w:World),Rel N cx μ s a w→∃v,aU (cx.O s.st μ) cx.base w μ g v∧(yC a rv).run P w=.ok v w
def CT (P:Program) (s:St):List ResultVar→List G→Prop
 | [],[]=>True
 | rv::r,g::gs=>uI P s rv g∧CT P s r gs
 | _,_=>False
def pack:List G→G
 | [g]=>g
 | gs=>.bB gs
section
variable {P:Program}{N:Nat}{cx:Cx}{s:St}
theorem uI.tmp {t:Nat}{g:G}(h:get s.fr t=some g):uI P s (.tmp t) g:=fun _ _ _ a w hr=>by
 obtain⟨v,hv,hrv⟩:=hr.fr t g h;exact⟨v,hrv,by simp[yC,hv]⟩
theorem uI.cell {b t h off:Nat}{k:av}{g g':G}(hb:get s.fr b=some (.loc h off)) (hk:ay s.st h=some k) (hg:k.cells[off]?=some g) (hag:∀w,(isAgg t).run P w=.ok false w) (ho:k.out g=g') (hlp:k.lp=none:=by rfl):uI P s (.cell b t) g':=fun N cx μ a w hr=>by
 have hy := YL.load (P := P) (W := []) (dst := none) (ty := 0) (pos := "") (after := #[]) (guard := none) (x := .tmp b) (s := s) hb hk hg hag rfl ho hlp;obtain⟨v,hv,hrun⟩:=hy N cx μ a w hr;have hrun:=hrun w (aG _) fun _ _ _=>rfl;obtain⟨bb,m,e1,hm⟩:=Rel.loc hr (x:=.tmp b) hb;refine⟨v,hv,?_⟩;have e2:a.tmps.getD b undef=.pointer (some ⟨bb,off,none⟩):=e1;simp only[execOp,Instr.loadAt,Instr.sureAddr,e1,Sem.run_bind,Sem.run_pure,Result.andThen_ok] at hrun;simp only[yC,e2,asAddr,Sem.run_bind,Sem.run_pure,Result.andThen_ok];cases hl:(loadVar t ⟨bb,off,none⟩).run P w with
 | ok x w1=>rw[hl] at hrun;simp at hrun;rw[hrun.1,hrun.2]
 | halt x w1=>rw[hl] at hrun;cases hrun
theorem uI.XK {b t h off sz:Nat}{k:av}(hb:get s.fr b=some (.loc h off)) (hk:ay s.st h=some k) (hp:k.pure=false) (hag:∀w,(isAgg t).run P w=.ok true w) (hsz:∀w,(sizeOf t).run P w=.ok sz w)
  (hl:off+sz≤k.cells.length) (hlp:k.lp=none:=by rfl):uI P s (.cell b t) (.agg ((k.cells.drop off).take sz)):=fun N cx μ a w hr=>by
 have hy := YL.OD (P := P) (W := []) (dst := none) (ty := 0) (pos := "") (after := #[]) (guard := none) (x := .tmp b) (s := s) hb hk hp hag hsz hl rfl hlp;obtain⟨v,hv,hrun⟩:=hy N cx μ a w hr;have hrun:=hrun w (aG _) fun _ _ _=>rfl;obtain⟨bb,m,e1,hm⟩:=Rel.loc hr (x:=.tmp b) hb;refine⟨v,hv,?_⟩;have e2:a.tmps.getD b undef=.pointer (some ⟨bb,off,none⟩):=e1;simp only[execOp,Instr.loadAt,Instr.sureAddr,e1,Sem.run_bind,Sem.run_pure,Result.andThen_ok] at hrun;simp only[yC,e2,asAddr,Sem.run_bind,Sem.run_pure,Result.andThen_ok];cases hl:(loadVar t ⟨bb,off,none⟩).run P w with
 | ok x w1=>rw[hl] at hrun;simp at hrun;rw[hrun.1,hrun.2]
 | halt x w1=>rw[hl] at hrun;cases hrun
theorem CT.run:∀{rvs:List ResultVar}{gs:List G},CT P s rvs gs→∀{μ:Mu}{a:Act}{w:World},Rel N cx μ s a w→
  ∃vs:List Value,vs.length=gs.length∧(∀(j:Nat) (g:G) (v:Value),gs[j]?=some g→vs[j]?=some v→aU (cx.O s.st μ) cx.base w μ g v)∧(rvs.mapM (yC a)).run P w=.ok vs w
 | [],[],_,_,_,_,_=>⟨[],rfl,fun j g v h=>by simp at h,rfl⟩
 | rv::r,g::gs,⟨h1,h2⟩,μ,a,w,hr=>by
  obtain⟨v,hv,hrun⟩:=h1 N cx μ a w hr;obtain⟨vs,hl,hvs,hruns⟩:=h2.run hr;refine⟨v::vs,by simp[hl],?_,?_⟩
  ·intro j g' v' hg hv';cases j with
   | zero=>cases hg;cases hv';exact hv
   | succ j=>exact hvs j g' v' hg hv'
  ·simp[List.mapM_cons,hrun,hruns]
 | [],_::_,h,_,_,_,_=>h.elim
 | _::_,[],h,_,_,_,_=>h.elim
def Db:Value→G
 | .slice none 0 0=>.fr (.sl 0 [])
 | v=>.val v
theorem Sg {O:Nat→Prop}{base:Nat}{w:World}{μ:Mu}(v:Value):aU O base w μ (Db v) v:=by
 unfold Db;split
 ·exact .fr .nil
 ·exact .aF (.val _)
def Qx (k:av):Option (List G×Bool):=bif k.pure then some (k.cells,k.fresh) else xt k.cells
theorem SM {O:Nat→Prop}{base:Nat}{w:World}{μ:Mu}{k:av}{cs:List G}{f:Bool}(hi:Qx k=some (cs,f)):cs.length=k.cells.length∧
  ∀(j:Nat) (g':G),cs[j]?=some g'→∃g,k.cells[j]?=some g∧∀v,cZ O base w μ k g v→bH (bif f then ir O base else O) w g' v:=by
 unfold Qx at hi;cases hp:k.pure with
 | true=>
  rw[hp] at hi;cases hi;refine⟨rfl,fun j g hg=>⟨g,hg,fun v hv=>?_⟩⟩;unfold cZ at hv;rw[hp] at hv;exact hv
 | false=>
  rw[hp] at hi;obtain⟨h1,h2⟩:=Ca hi;refine⟨h1,fun j g' hg'=>?_⟩;obtain⟨g,f',h3,h4,h5⟩:=h2 j g' hg';refine⟨g,h3,fun v hv=>?_⟩;unfold cZ at hv;rw[hp] at hv;exact(Cb hv h4).flag h5
def ja (st st':List (Nat×av)):G→Option G
 | .aL h sz off n=>match ay st' h with
  | some _=>some (.aL h sz off n)
  | none=>match ay st h with
   | some k=>match k.pure,k.ew,k.lp with
    | true,true,none=>some (bif k.fresh then .fr (.sl n ((k.cells.drop off).take (n*sz))) else .sl n ((k.cells.drop off).take (n*sz)))
    | _,_,_=>none
   | none=>none
 | .loc h off=>match ay st' h with
  | some _=>some (.loc h off)
  | none=>match ay st h with
   | some k=>match k.ew,k.lp,Qx k with
    | true,none,some (cs,f)=>some (bif f then .fr (.ptr (cs.drop off)) else .ptr (cs.drop off))
    | _,_,_=>none
   | none=>none
 | .agg gs=>(go gs).map .agg
 | .bB gs=>(go gs).map .bB
 | .ba f gs=>(go gs).map (.ba f)
 | .cW _=>none
 | .val v=>some (Db v)
 | g=>some g
where go:List G→Option (List G)
 | []=>some []
 | g::r=>match ja st st' g,go r with
  | some g',some r'=>some (g'::r')
  | _,_=>none
theorem su {st st':List (Nat×av)}:∀{gs gs':List G},ja.go st st' gs=some gs'→gs'.length=gs.length∧∀(j:Nat) (g':G),gs'[j]?=some g'→∃g,gs[j]?=some g∧ja st st' g=some g'
 | [],_,h=>by cases h;exact⟨rfl,fun j g h=>by simp at h⟩
 | g::r,gs',h=>by
  simp only[ja.go] at h;cases h1:ja st st' g with
  | none=>rw[h1] at h;cases h
  | some g1=>
   rw[h1] at h;cases h2:ja.go st st' r with
   | none=>rw[h2] at h;cases h
   | some r1=>
    rw[h2] at h;cases h;obtain⟨h3,h4⟩:=su h2;refine⟨by simp[h3],fun j g' hg'=>?_⟩;cases j with
    | zero=>cases hg';exact⟨g,rfl,h1⟩
    | succ j=>exact h4 j g' hg'
theorem Xs {st st':List (Nat×av)}{O:Nat→Prop}{base:Nat}{μ:Mu}{w:World}{g g':G}{v:Value}(h:bH O w g v) (hf:ja st st' g=some g'):aU O base w μ g' v:=by
 induction h generalizing g' with
 | any v=>cases hf;exact .aF (.any _)
 | val v=>cases hf;exact Sg v
 | dw b v h=>cases hf;exact .aF (.dw b v h)
 | nil=>cases hf;exact .aF .nil
 | jb a c=>cases hf;exact .aF (.jb a c)
 | sl n cells b off cap us h1 h2 h3 h4 h5 ih=>cases hf;exact .aF (.sl n cells b off cap us h1 h2 h3 h4 h5)
 | ptr cells b off us h1 h2 h3 h4 ih=>cases hf;exact .aF (.ptr cells b off us h1 h2 h3 h4)
 | agg cells us hl hr ih=>
  simp only[ja,az] at hf;obtain⟨gs',h1,rfl⟩:=hf;obtain⟨h2,h3⟩:=su h1;refine .agg gs' us (by omega) fun j g v hg hv=>?_;obtain⟨g0,h4,h5⟩:=h3 j g hg;exact ih j g0 v h4 hv h5
theorem MD {st st':List (Nat×av)}{μ:Mu}{w:World}(hst:cI cx μ st w) (hs:∀h k,ay st' h=some k→∃k0,ay st h=some k0){g g':G}{v:Value}(hv:aU (cx.O st μ) cx.base w μ g v) (hf:ja st st' g=some g'):
  aU (cx.O st' μ) cx.base w μ g' v:=by
 have hO:∀b,b<w.heap.size→¬cx.O st μ b→¬cx.O st' μ b:=fun b _ hn ho=>hn (ho.imp id fun ⟨x,k,c,m,h1,h2,hi⟩=>let ⟨k0,h3⟩:=hs x k h1;⟨x,k0,c,m,h3,h2,hi⟩)
 induction hv generalizing g' with
 | aF h=>
  exact Xs (h.mono (Kept.refl _ _) hO) hf
 | fr h=>
  cases hf;refine .fr (h.mono (Kept.refl _ _) ?_);rintro b hb hn (ho | ho)
  ·exact hn (.inl ho)
  ·exact hO b hb (fun h=>hn (.inr h)) ho
 | loc h off b m hm=>
  simp only[ja] at hf;split at hf
  ·cases hf;exact .loc h off b m hm
  ·rename_i hnone;split at hf
   ·rename_i k hk;split at hf
    ·rename_i cells f hmine hlp hi;cases hf;have hb:=hst.en h k hk;rw[hm] at hb;obtain⟨cs,h1,h2,h3,h4,h5,h6⟩:=hb.cells hlp;have hbO:¬cx.O st' μ b:=by
      rintro(hx | ⟨x,k1,c1,m1,h7,h8,h8i⟩)
      ·exact(hst.out h k b _ hk hm).1 hx
      ·obtain⟨k9,h79⟩:=hs x k1 h7;have:=hst.de h x k k9 b b _ c1 m1 hk h79 hm h8 (.self _ _) h8i;subst this;rw[hnone] at h7;cases h7
     obtain⟨i1,i2⟩:=SM (O:=cx.O st μ) (base:=cx.base) (w:=w) (μ:=μ) hi;have rd:∀(j:Nat) (g:G),(cells.drop off)[j]?=some g→∃v,cs[off+j]?=some v∧bH (bif f then ir (cx.O st' μ) cx.base else cx.O st' μ) w g v:=by
      intro j g hg;rw[bE] at hg;obtain⟨g0,h7,h8⟩:=i2 _ g hg;obtain⟨v,hv,hrv⟩:=h6 _ g0 h7;refine⟨v,hv,?_⟩;have h9:=h8 v hrv;cases f with
      | true=>
       refine bH.mono h9 (Kept.refl _ _) ?_;rintro b hb hn (ho | ho)
       ·exact hn (.inl ho)
       ·exact hO b hb (fun h=>hn (.inr h)) ho
      | false=>exact bH.mono h9 (Kept.refl _ _) hO
     have hc1:∀j,j<(cells.drop off).length→w.cell? ⟨b,off+j,none⟩=some (cs.getD (off+j) undef):=by
      intro j hj;obtain⟨v,hv,_⟩:=rd j _ (ag hj);rw[cell_of h1,hv];simp[hv]
     have hr1:∀(j:Nat) (g:G),(cells.drop off)[j]?=some g→bH (bif f then ir (cx.O st' μ) cx.base else cx.O st' μ) w g (cs.getD (off+j) undef):=by
      intro j g hg;obtain⟨v,hv,hrv⟩:=rd j g hg;simpa[hv] using hrv
     cases f with
     | true=>
      refine .fr (.ptr _ b off (fun j=>cs.getD (off+j) undef) ?_ (dQ h1) hc1 hr1);rintro(ho | ho)
      ·have:=h4 hmine;omega
      ·exact hbO ho
     | false=>exact .aF (.ptr _ b off (fun j=>cs.getD (off+j) undef) hbO (dQ h1) hc1 hr1)
    ·cases hf
   ·cases hf
 | gk h sz hm=>
  simp only[ja] at hf;split at hf
  ·cases hf;exact .gk h sz hm
  ·split at hf
   ·rename_i k hk;split at hf
    ·cases hf;have hb:=hst.en h k hk;rw[hm] at hb;simp only[aV] at hb;obtain⟨hb,_⟩:=hb;simp only[hb,List.drop_nil,List.take_nil];cases k.fresh with
     | true=>exact .fr .nil
     | false=>exact .aF .nil
    ·cases hf
   ·cases hf
 | aL h sz off n b m cap hm hn hc=>
  simp only[ja] at hf;split at hf
  ·cases hf;exact .aL h sz off n b m cap hm hn hc
  ·rename_i hnone;split at hf
   ·rename_i k hk;split at hf
    ·rename_i hp hmine hlp;cases hf;have hb:=hst.en h k hk;rw[hm] at hb;obtain⟨cs,h1,h2,h3,h4,h5,h6⟩:=hb.cells hlp;have hbO:¬cx.O st' μ b:=by
      rintro(hx | ⟨x,k1,c1,m1,h7,h8,h8i⟩)
      ·exact(hst.out h k b _ hk hm).1 hx
      ·obtain⟨k9,h79⟩:=hs x k1 h7;have:=hst.de h x k k9 b b _ c1 m1 hk h79 hm h8 (.self _ _) h8i;subst this;rw[hnone] at h7;cases h7
     have hlen:((k.cells.drop off).take (n*sz)).length≤cs.size-off:=by
      rw[br,cf];omega
     have hc1:∀j,j<((k.cells.drop off).take (n*sz)).length→w.cell? ⟨b,off+j,none⟩=some (cs.getD (off+j) undef):=by
      intro j hj;rw[cell_of h1];have:off+j<cs.size:=by omega
      simp[this]
     have hr1:∀(j:Nat) (g:G),((k.cells.drop off).take (n*sz))[j]?=some g→bH (bif k.fresh then ir (cx.O st' μ) cx.base else cx.O st' μ) w g (cs.getD (off+j) undef):=by
      intro j g hg;rw[bo] at hg;split at hg
      ·rw[bE] at hg;obtain⟨v,hv,hrv⟩:=h6 _ g hg;have e:cs.getD (off+j) undef=v:=by simp[hv]
       rw[e];unfold cZ at hrv;rw[hp] at hrv;cases hfr:k.fresh with
       | true=>
        rw[hfr] at hrv;refine bH.mono hrv (Kept.refl _ _) ?_;rintro b hb hn (ho | ho)
        ·exact hn (.inl ho)
        ·exact hO b hb (fun h=>hn (.inr h)) ho
       | false=>rw[hfr] at hrv;exact bH.mono hrv (Kept.refl _ _) hO
      ·cases hg
     cases hfr:k.fresh with
     | true=>
      rw[hfr] at hr1;refine .fr (.sl n _ b off cap _ hn ?_ (dQ h1) hc1 hr1);rintro(ho | ho)
      ·have:=h4 hmine;omega
      ·exact hbO ho
     | false=>
      rw[hfr] at hr1;exact .aF (.sl n _ b off cap _ hn hbO (dQ h1) hc1 hr1)
    ·cases hf
   ·cases hf
 | fq h sz off0 b m hm hpos=>
  simp only[ja] at hf;split at hf
  ·cases hf;exact .fq h sz off0 b m hm hpos
  ·rename_i hnone;split at hf
   ·rename_i k hk;split at hf
    ·rename_i hp hmine hlp;cases hf;have hb:=hst.en h k hk;rw[hm] at hb;obtain⟨cs,h1,h2,h3,h4,h5,h6⟩:=hb.cells hlp;have hbO:¬cx.O st' μ b:=by
      rintro(hx | ⟨x,k1,c1,m1,h7,h8,h8i⟩)
      ·exact(hst.out h k b _ hk hm).1 hx
      ·obtain⟨k9,h79⟩:=hs x k1 h7;have:=hst.de h x k k9 b b _ c1 m1 hk h79 hm h8 (.self _ _) h8i;subst this;rw[hnone] at h7;cases h7
     simp only[gJ,dA];cases hfr:k.fresh with
     | true=>
      refine .fr (.sl 0 [] b off0 0 (fun _=>undef) (aG _) ?_ (dQ h1) (fun j hj=>by simp at hj) (fun j g hg=>by simp at hg));rintro(ho | ho)
      ·have:=h4 hmine;omega
      ·exact hbO ho
     | false=>exact .aF (.sl 0 [] b off0 0 (fun _=>undef) (aG _) hbO (dQ h1) (fun j hj=>by simp at hj) (fun j g hg=>by simp at hg))
    ·cases hf
   ·cases hf
 | agg cells us hl hr ih=>
  simp only[ja,az] at hf;obtain⟨gs',h1,rfl⟩:=hf;obtain⟨h2,h3⟩:=su h1;refine .agg gs' us (by omega) fun j g v hg hv=>?_;obtain⟨g0,h4,h5⟩:=h3 j g hg;exact ih j g0 v h4 hv h5
 | bB cells us hl hr ih=>
  simp only[ja,az] at hf;obtain⟨gs',h1,rfl⟩:=hf;obtain⟨h2,h3⟩:=su h1;refine .bB gs' us (by omega) fun j g v hg hv=>?_;obtain⟨g0,h4,h5⟩:=h3 j g hg;exact ih j g0 v h4 hv h5
 | ba f caps us hl hr ih=>
  simp only[ja,az] at hf;obtain⟨gs',h1,rfl⟩:=hf;obtain⟨h2,h3⟩:=su h1;refine .ba f gs' us (by omega) fun j g v hg hv=>?_;obtain⟨g0,h4,h5⟩:=h3 j g hg;exact ih j g0 v h4 hv h5
 | cW h b m hm=>cases hf
 | kp h i off b m c n hm hk=>cases hf;exact .kp h i off b m c n hm hk
 | mh h i sz x cap hi=>cases hf;exact .mh h i sz x cap hi
 | ks h i sz n b m c k cap hm hk hn hc=>cases hf;exact .ks h i sz n b m c k cap hm hk hn hc
 | eN h b m hm=>cases hf;exact .eN h b m hm
end
end Go.AM
