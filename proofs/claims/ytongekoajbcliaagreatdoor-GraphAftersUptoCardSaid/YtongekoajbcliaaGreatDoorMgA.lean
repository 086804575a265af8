/-
  AM, first half: a machine whose heap is told by handles.
-/
import Derived.WalkKit
import Derived.Deep.LoopGhost
import Derived.TacticsIn
import Derived.OrdersHeld
import Derived.OrdersIn
import Derived.RangeFuncRecord
import Derived.Great.BuildSlice
set_option linter.all false
namespace Go
abbrev aa:=@Option.bind_some
abbrev ab:=@Nat.eq_of_beq_eq_true
abbrev af:=@List.getElem?_eq_getElem
abbrev ag:=@Bool.and_eq_true
abbrev aj:=@List.length_singleton
abbrev ak:=@List.mem_of_getElem?
abbrev ao:=@List.getElem?_map
abbrev ap:=@List.getElem?_eq_some_iff
abbrev ar:=@List.mem_cons_of_mem
abbrev au:=@List.mem_cons_self
abbrev aA:=@Option.map_eq_some_iff
abbrev aH:=@Nat.le_refl
abbrev aJ:=@List.length_map
abbrev aK:=@List.length_append
abbrev aS:=@List.append_assoc
abbrev aT:=@Bool.not_eq_true'
abbrev aW:=@Nat.beq_refl
abbrev bg:=@List.map_cons
abbrev bh:=@List.mem_cons
abbrev bj:=@Bool.or_eq_false_iff
abbrev bl:=@List.getD_eq_getElem?_getD
abbrev br:=@List.getElem?_take
abbrev bu:=@List.eq_nil_of_length_eq_zero
abbrev bz:=@Array.getElem?_toList
abbrev bA:=@List.length_take
abbrev bC:=@List.getElem?_drop
abbrev bI:=@Int.toNat_natCast
abbrev bJ:=@Bool.false_eq_true
abbrev bM:=@List.take_length
abbrev bQ:=@List.length_cons
abbrev bR:=@List.append_nil
abbrev bT:=@List.getElem?_eq_none
abbrev bY:=@List.length_drop
abbrev bZ:=@List.getElem?_append
abbrev b7:=@List.cons_append
abbrev b9:=@Nat.mul_le_mul_right
abbrev ca:=@List.mem_append_left
abbrev cd:=@List.flatMap_cons
abbrev cj:=@Array.length_toList
abbrev cn:=@Option.map_some
abbrev cA:=@List.mem_append_right
abbrev cE:=@List.foldl_cons
abbrev cF:=@List.getElem?_of_mem
abbrev cJ:=@Bool.or_false
abbrev cL:=@Nat.le_trans
abbrev cN:=@List.getElem?_range
abbrev cO:=@Nat.lt_of_lt_of_le
abbrev cS:=@List.map_append
abbrev cT:=@List.drop_eq_getElem_cons
abbrev cY:=@List.forall_mem_cons
abbrev dc:=@List.take_of_length_le
abbrev dj:=@List.mem_singleton
abbrev dl:=@Nat.zero_add
abbrev dm:=@List.ext_getElem?
abbrev dy:=@List.mem_append
abbrev dE:=@List.take_zero
abbrev dF:=@List.all_eq_true
abbrev dQ:=@List.getElem?_set
abbrev dR:=@Go.RowKit.Below.heap_alloc
abbrev dX:=@List.findSome?_cons
abbrev ed:=@Option.some.inj
abbrev ew:=@List.getElem?_append_left
abbrev eA:=@List.foldl_append
abbrev eL:=@List.mem_map
abbrev eO:=@Bool.not_true
abbrev eR:=@Bool.or_eq_true
abbrev ff:=@List.getElem_mem
abbrev fg:=@List.length_nil
abbrev fh:=@List.foldl_nil
abbrev fp:=@Nat.add_mul
abbrev ft:=@List.map_congr_left
abbrev fx:=@List.set_eq_take_append_cons_drop
abbrev fG:=@List.mem_of_mem_take
abbrev fS:=@Nat.le_of_ble_eq_true
abbrev fV:=@Int.toNat_of_nonneg
abbrev fX:=@List.length_set
abbrev fY:=@List.getElem?_append_right
abbrev gk:=@List.any_eq_false
abbrev gm:=@Bool.false_or
abbrev gu:=@Nat.add_zero
abbrev gH:=@List.mem_range
abbrev gO:=@Nat.blt_eq
abbrev gP:=@List.contains_iff_mem
abbrev gR:=@Nat.zero_mul
abbrev gY:=@Array.getElem?_setIfInBounds_ne
abbrev hZ:=@List.nodup_iff_pairwise_ne
abbrev ib:=@List.drop_zero
abbrev ic:=@Bool.not_false
abbrev ie:=@Array.getElem?_eq_some_iff
abbrev iz:=@List.nil_append
abbrev iA:=@Bool.and_self
abbrev iF:=@Array.toList_map
abbrev iK:=@List.pairwise_iff_getElem
abbrev iO:=@Nat.zero_le
abbrev iS:=@Int.mul_nonneg
abbrev iX:=@Nat.min_eq_left
abbrev iY:=@List.map_map
abbrev ja:=@Bool.false_ne_true
abbrev jf:=@List.mem_of_mem_drop
abbrev jg:=@List.getElem?_cons_zero
abbrev jh:=@Int.le_refl
abbrev jA:=@List.length_range
abbrev jX:=@Nat.eq_zero_or_pos
abbrev jY:=@List.drop_length
abbrev kf:=@Bool.and_true
abbrev kq:=@Int.mul_le_mul_of_nonneg_left
abbrev kB:=@Option.some.injEq
abbrev kC:=@List.getElem?_replicate
abbrev kD:=@List.getElem?_cons_succ
abbrev kX:=@List.mem_map_of_mem
abbrev k6:=@Nat.mul_comm
abbrev lz:=@List.cons.inj
abbrev lM:=@List.findSome?_eq_none_iff
abbrev mw:=@Classical.byContradiction
abbrev mD:=@List.range_succ
abbrev mF:=@Bool.eq_iff_iff
abbrev nh:=@Nat.lt_irrefl
abbrev ni:=@List.any_cons
abbrev nY:=@Int.one_mul
abbrev oe:=@List.map_set
abbrev oK:=@List.nodup_cons
abbrev o7:=@List.take_append_drop
abbrev o8:=@List.length_replicate
abbrev pD:=@Nat.mul_one
abbrev pE:=@Nat.div_lt_of_lt_mul
abbrev pF:=@Int.mul_le_mul
abbrev qf:=@List.mem_flatMap
abbrev qA:=@List.flatMap_append
abbrev qJ:=@Prod.mk.injEq
abbrev qK:=@Bool.true_and
abbrev sc:=@List.map_nil
end Go
/-
 AM,part A:a heap-abstracted machine:values,readings,states,the relation to the model's world. Over any program.
-/
namespace Go.AM
inductive G where
 | val (v:Value)
 | sl (n:Nat) (cells:List G)
 | ptr (cells:List G)
 | agg (cells:List G)
 | bE (vs:List G)
 | loc (h off:Nat)
 | aN (h sz off n:Nat)
 | bf (f:FuncId) (caps:List G)
 | da (h:Nat)
 | kp (h i off:Nat)
 | ks (h i sz n:Nat)
 | eT (h:Nat)
 | fr (g:G)
 | dC (b:Bool)
 | any
 deriving Inhabited
structure Lp where
 fn:FuncId
 N:Nat
 ay:List Nat
 ps:Array Tmp
 assign:Code
 body:Code
 oo:Option Code
abbrev Mm:=Nat×List (Option (Nat×Nat))
abbrev Mu:=Nat->Option (Nat×Mm)
def In(b c:Nat)(m:Mm):Prop:=b=c\/∃n,some (b,n)∈m.2
def In.self(b:Nat)(m:Mm):In b b m:=.inl rfl
def In.plain{b c n:Nat}:In b c (n,[])↔b=c:=by refine⟨fun h=>?_,.inl⟩;rcases h with h|⟨_,h⟩;exact h;cases h
def VK:Value->Option Bool|.iface ..=>some true|.nilIface=>some false|_=>none
inductive bN (O:Nat→Prop) (w:World):G→Value→Prop
 | any (v:Value):bN O w .any v
 | val (v:Value):bN O w (.val v) v
 | dC (b:Bool) (v:Value) (hb:VK v=some b):bN O w (.dC b) v
 | nil:bN O w (.sl 0 []) (.slice none 0 0)
 | jk (a:Addr) (cap:Nat):bN O w (.sl 0 []) (.slice (some a) 0 cap)
 | sl (n:Nat) (cells:List G) (b off cap:Nat) (us:Nat→Value) (hn:n≤cap) (hO:¬O b) (hb:b<w.heap.size)
   (hc:∀j,j<cells.length→w.cell? ⟨b,off+j,none⟩=some (us j)) (hr:∀(j:Nat) (g:G),cells[j]?=some g→bN O w g (us j)):
   bN O w (.sl n cells) (.slice (some ⟨b,off,none⟩) n cap)
 | ptr (cells:List G) (b off:Nat) (us:Nat→Value) (hO:¬O b) (hb:b<w.heap.size)
   (hc:∀j,j<cells.length→w.cell? ⟨b,off+j,none⟩=some (us j)) (hr:∀(j:Nat) (g:G),cells[j]?=some g→bN O w g (us j)):
   bN O w (.ptr cells) (.pointer (some ⟨b,off,none⟩))
 | agg (cells:List G) (us:List Value) (hl:us.length=cells.length) (hr:∀(j:Nat) (g:G) (v:Value),cells[j]?=some g→us[j]?=some v→bN O w g v):
   bN O w (.agg cells) (.agg us.toArray)
structure Kept (O:Nat→Prop) (w w':World):Prop where
 size:w.heap.size≤w'.heap.size
 block:∀b,b<w.heap.size→¬O b→w'.heap[b]?=w.heap[b]?
def Kept.refl(O:Nat->Prop)(w:World):Kept O w w:=⟨aH _,fun _ _ _=>rfl⟩
def Q8:Obj->Bool|.cells ..=>true|_=>false
def G3(cs:Array Value):Prop:=cs=((List.range 20).map fun i=>Value.int .u64 ((10^i:Nat):Int)).toArray
def tY:List Nat:=[]
def W6:List (Nat×(Array Value->Prop)):=[(0,G3)]
structure iW (Z:Nat→Prop) (w w':World):Prop where
 size:w'.heap.size=w.heap.size
 block:∀b,w'.heap[b]?=w.heap[b]?∨(Z b∧∃o,w.heap[b]?=some o∧Q8 o=false)
 os:w'.os=w.os
 tape:w'.tape=w.tape
 output:w'.output=w.output
structure Dp where
 φ:(Nat→Prop)→World→Nat→Mm→Prop
 jk:Prop
 mono:∀{O O':Nat→Prop}{w w':World}{b:Nat}{m:Mm},φ O w b m→Kept O w w'→(∀x,x<w.heap.size→¬O x→¬O' x)→(∀x,In x b m→w'.heap[x]?=w.heap[x]?)→φ O' w' b m
 shut:∀{O Z:Nat→Prop}{w w':World}{b:Nat}{m:Mm},φ O w b m→iW Z w w'→(∀x,In x b m→¬Z x)→φ O w' b m
 live:∀{O:Nat→Prop}{w:World}{b:Nat}{m:Mm},φ O w b m→∀x,In x b m→x<w.heap.size
 row:Nat→Option (List G):=fun _=>none
 LZ:∀{i:Nat}{gs:List G},row i=some gs→gs≠[]:=by intro _ _ h;cases h
 Qt:∀{O:Nat→Prop}{w:World}{b:Nat}{m:Mm}{i:Nat}{gs:List G},φ O w b m→row i=some gs→∃c k cs bP,m.2[i]?=some (some (c,k))∧w.heap[c]?=some (.cells cs bP (0,0))∧∀(j:Nat) (g:G),gs[j]?=some g→∃v,cs[j]?=some v∧bN O w g v:=by intro _ _ _ _ _ _ _ h;cases h
inductive Kd where
 | loop (lp:Lp)
 | deep (d:Dp)
structure aw where
 bP:TypeId
 pure:Bool
 eC:Bool
 fresh:Bool
 sz:Nat
 cells:List G
 lp:Option Kd
structure St where
 fr:List (Nat×G)
 st:List (Nat×aw)
 df:List G
def get:List (Nat×G)->Nat->Option G|[],_=>none|(k,g)::r,t=>bif Nat.beq k t then some g else get r t
def az:List (Nat×aw)->Nat->Option aw|[],_=>none|(k,g)::r,t=>bif Nat.beq k t then some g else az r t
def dJ:List (Nat×aw)->Nat->aw->List (Nat×aw)|[],_,_=>[]|(k,g)::r,t,b=>bif Nat.beq k t then(k,b)::r else(k,g)::dJ r t b
def tv{st:List (Nat×aw)}{h:Nat}{b k:aw}(hb:az st h=some k):az (dJ st h b) h=some b:=by induction st with|nil=>cases hb|cons x r c=>obtain⟨y,g⟩:=x;simp only[az,dJ] at hb|-;cases a:Nat.beq y h with|true=>simp[az,a]|false=>simp only[a,cond_false] at hb|-;simp only[az,a,cond_false];exact c hb
def pj{st:List (Nat×aw)}{h a:Nat}{b:aw}(c:a≠h):az (dJ st h b) a=az st a:=by induction st with|nil=>rfl|cons x r e=>obtain⟨y,g⟩:=x;simp only[az,dJ];cases f:Nat.beq y h with|true=>have:y=h:=ab f;subst this;(have i:Nat.beq y a=false:=by cases d:Nat.beq y a with|false=>rfl|true=>exact absurd (ab d).symm c);simp[az,i]|false=>simp only[cond_false,az,e]
def dz{st:List (Nat×aw)}{h a:Nat}{b k k':aw}(d:az st h=some k)(c:az (dJ st h b) a=some k'):(a=h/\k'=b)\/(a≠h/\az st a=some k'):=by by_cases e:a=h;subst e;rw[tv d] at c;exact .inl ⟨rfl,(ed c).symm⟩;rw[pj e] at c;exact .inr ⟨e,c⟩
def bN.mono{O O':Nat->Prop}{w w':World}{g:G}{v:Value}(h:bN O w g v)(m:Kept O w w')(q:∀b,b<w.heap.size->¬O b->¬O' b):bN O' w' g v:=by induction h with|any v=>exact .any v|val v=>exact .val v|dC b v h=>exact .dC b v h|nil=>exact .nil|jk a i=>exact .jk a i|sl n c b f i k t e d p r l=>exact .sl n c b f i k t (q b d e) (cO d m.size) (fun j o=>by rw[World.cell?_of_block (w:=w) (m.block b d e)];exact p j o) l|ptr c b f k e d p r l=>exact .ptr c b f k (q b d e) (cO d m.size) (fun j o=>by rw[World.cell?_of_block (w:=w) (m.block b d e)];exact p j o) l|agg c k s r l=>exact .agg c k s l
def iE(O:Nat->Prop)(base:Nat):Nat->Prop:=fun b=>b<base\/O b
def Jq:Nat:=9223372036854775808
def sU(f:FuncId)(a:List Value):Value:=match tY.contains f with|true=>.func (.func f) a.toArray #[]|false=>.func (.func f) #[] a.toArray
def Wi(f:FuncId):sU f []=.func (.func f) #[] #[]:=by unfold sU;cases tY.contains f <;> rfl
def Ja(f:FuncId)(a:List Value):∃A B,sU f a=.func (.func f) A B/\A++B=a.toArray/\(tY.contains f=false->A=#[])/\(tY.contains f=true->B=#[]):=by unfold sU;cases tY.contains f with|true=>exact⟨_,_,rfl,by simp,(fun h=>by cases h),fun _=>rfl⟩|false=>exact⟨_,_,rfl,by simp,(fun _=>rfl),fun h=>by cases h⟩
def vP{α:Type}(f:FuncId)(xs:List α):Bool:=match xs with|[]=>true|_::_=>!(tY.contains f)
inductive aU (O:Nat→Prop) (base:Nat) (w:World) (μ:Mu):G→Value→Prop
 | aG {g:G}{v:Value}(h:bN O w g v):aU O base w μ g v
 | fr {g:G}{v:Value}(h:bN (iE O base) w g v):aU O base w μ (.fr g) v
 | loc (h off b:Nat) (m:Mm) (hm:μ h=some (b,m)):aU O base w μ (.loc h off) (.pointer (some ⟨b,off,none⟩))
 | gz (h sz:Nat) (hm:μ h=none):aU O base w μ (.aN h sz 0 0) (.slice none 0 0)
 | aN (h sz off n b:Nat) (m:Mm) (cap:Nat) (hm:μ h=some (b,m)) (hn:n≤cap) (hc:off+cap*sz=m.1):aU O base w μ (.aN h sz off n) (.slice (some ⟨b,off,none⟩) n cap)
 | fD (h sz off0 b m:Nat){ks:List (Option (Nat×Nat))}(hm:μ h=some (b,m,ks)) (hpos:0<m):aU O base w μ (.aN h sz m 0) (.slice (some ⟨b,off0,none⟩) 0 0)
 | agg (cells:List G) (us:List Value) (hl:us.length=cells.length) (hr:∀(j:Nat) (g:G) (v:Value),cells[j]?=some g→us[j]?=some v→aU O base w μ g v):
   aU O base w μ (.agg cells) (.agg us.toArray)
 | bE (cells:List G) (us:List Value) (hl:us.length=cells.length) (hr:∀(j:Nat) (g:G) (v:Value),cells[j]?=some g→us[j]?=some v→aU O base w μ g v):
   aU O base w μ (.bE cells) (.tuple us.toArray)
 | bf (f:FuncId) (caps:List G) (us:List Value) (hl:us.length=caps.length) (hr:∀(j:Nat) (g:G) (v:Value),caps[j]?=some g→us[j]?=some v→aU O base w μ g v):
   aU O base w μ (.bf f caps) (sU f us)
 | da (h b:Nat) (m:Mm) (hm:μ h=some (b,m)):aU O base w μ (.da h) (.func (.yield b) #[] #[])
 | kp (h i off b:Nat) (m:Mm) (c n:Nat) (hm:μ h=some (b,m)) (hk:m.2[i]?=some (some (c,n))):aU O base w μ (.kp h i off) (.pointer (some ⟨c,off,none⟩))
 | my (h i sz:Nat) (x:Option Addr) (cap:Nat) (hi:i=Jq→x=none∧cap=0):aU O base w μ (.ks h i sz 0) (.slice x 0 cap)
 | ks (h i sz n b:Nat) (m:Mm) (c k cap:Nat) (hm:μ h=some (b,m)) (hk:m.2[i]?=some (some (c,k))) (hn:n≤cap) (hc:cap*sz=k):aU O base w μ (.ks h i sz n) (.slice (some ⟨c,0,none⟩) n cap)
 | eT (h b:Nat) (m:Mm) (hm:μ h=some (b,m)):aU O base w μ (.eT h) (.map (some b))
def bN.O5{O:Nat->Prop}{base:Nat}{w:World}{g:G}{v:Value}(h:bN (iE O base) w g v):bN O w g v:=h.mono (Kept.refl _ _) (fun _ _ b a=>b (.inr a))
def aU.mono{O O':Nat->Prop}{base base':Nat}{w w':World}{μ:Mu}{g:G}{v:Value}(h:aU O base w μ g v)(p:Kept O w w')(D:∀b,b<w.heap.size->¬O b->¬O' b)(hb:base'<=base):aU O' base' w' μ g v:=by induction h with|aG h=>exact .aG (h.mono p D)|fr h=>refine .fr (h.mono ⟨p.size,fun b hb o=>p.block b hb fun q=>o (.inr q)⟩ ?_);intro b B o q;rcases q with q|q;exact o (.inl (by omega));exact D b B (fun h=>o (.inr h)) q|loc h j b m d=>exact .loc h j b m d|gz h l d=>exact .gz h l d|aN h l j n b m e d o A=>exact .aN h l j n b m e d o A|fD h l r b m d s=>exact .fD h l r b m d s|agg a u t C y=>exact .agg a u t y|bE a u t C y=>exact .bE a u t y|bf f z u t C y=>exact .bf f z u t y|da h b m d=>exact .da h b m d|kp h i j b m c n d p=>exact .kp h i j b m c n d p|my h i l x e E=>exact .my h i l x e E|ks h i l n b m c k e d p o A=>exact .ks h i l n b m c k e d p o A|eT h b m d=>exact .eT h b m d
def G.cD (k:Nat):G→Bool
 | .loc h _=>Nat.beq h k
 | .aN h _ _ _=>Nat.beq h k
 | .agg cs=>go cs
 | .bE cs=>go cs
 | .bf _ cs=>go cs
 | .da h=>Nat.beq h k
 | .kp h _ _=>Nat.beq h k
 | .ks h _ _ _=>Nat.beq h k
 | .eT h=>Nat.beq h k
 | _=>false
where go:List G→Bool
 | []=>false
 | g::r=>g.cD k||go r
def G.rQ{k:Nat}{cs:List G}{g:G}(hg:g∈cs)(h:g.cD k=true):G.cD.go k cs=true:=by induction cs with|nil=>cases hg|cons x r b=>simp only[G.cD.go,eR];cases hg with|head=>exact .inl h|tail _ a=>exact .inr (b a)
def Ext(x y:Option (Nat×Mm)):Prop:=y=x\/∃b n l a,x=some (b,n,l)/\y=some (b,n,l++a)
def Ext.get{x y:Option (Nat×Mm)}(h:Ext x y){b:Nat}{m:Mm}(hx:x=some (b,m)):∃a:Mm,y=some (b,a)/\a.1=m.1/\(∀(i:Nat) (c:Option (Nat×Nat)),m.2[i]?=some c->a.2[i]?=some c):=by rcases h with h|⟨j,n,l,d,e,g⟩;exact⟨m,h.trans hx,rfl,fun i c h=>h⟩;rw[hx] at e;cases e;exact⟨(n,l++d),g,rfl,fun i c h=>by have f:i<l.length:=(ap.1 h).1;show(l++d)[i]?=some c;rw[ew f];exact h⟩
def Ext.nil{x y:Option (Nat×Mm)}(h:Ext x y)(hx:x=none):y=none:=by rcases h with h|⟨d,n,l,c,a,b⟩;exact h.trans hx;rw[hx] at a;cases a
def Ext.Zq{x y:Option (Nat×Mm)}(h:Ext x y){b c:Nat}{m:Mm}(hx:x=some (c,m))(hi:In b c m):∃d,y=some (c,d)/\In b c d:=by rcases h with h|⟨i,n,l,g,a,f⟩;exact⟨m,h.trans hx,hi⟩;rw[hx] at a;cases a;exact⟨_,f,hi.imp id fun ⟨k,e⟩=>⟨k,ca _ e⟩⟩
def xh(base:Nat)(x y:Option (Nat×Mm)):Prop:=y=x\/∃b n l a,x=some (b,n,l)/\y=some (b,n,l++a)/\∀c k,some (c,k)∈a->base<=c\/∃d,some (c,d)∈l
def xh.ext{base:Nat}{x y:Option (Nat×Mm)}(h:xh base x y):Ext x y:=h.imp id fun ⟨b,n,l,c,d,a,_⟩=>⟨b,n,l,c,d,a⟩
def xh.trans{base base':Nat}{x y z:Option (Nat×Mm)}(h:xh base x y)(e:xh base' y z)(hb:base<=base'):xh base x z:=by rcases e with e|⟨b,n,l,o,d,g,j⟩;rw[e];exact h;rcases h with h|⟨s,t,m,q,p,r,i⟩;exact .inr ⟨b,n,l,o,h.symm.trans d,g,fun c k a=>(j c k a).imp (fun h=>cL hb h) id⟩;rw[r] at d;cases d;refine .inr ⟨b,n,m,q++o,p,by rw[g,aS],fun c k a=>?_⟩;rcases dy.1 a with a|a;exact i c k a;rcases j c k a with h|⟨f,h⟩;exact .inl (cL hb h);rcases dy.1 h with h|h;exact .inr ⟨f,h⟩;exact i c f h
def xh.Zq{base:Nat}{x y:Option (Nat×Mm)}(h:xh base x y){b c:Nat}{e:Mm}(f:y=some (c,e))(hi:In b c e):base<=b\/∃m,x=some (c,m)/\In b c m:=by rcases h with h|⟨o,n,l,p,d,g,i⟩;exact .inr ⟨e,h.symm.trans f,hi⟩;rw[f] at g;cases g;rcases hi with hi|⟨k,a⟩;exact .inr ⟨_,d,.inl hi⟩;rcases dy.1 a with a|a;exact .inr ⟨_,d,.inr ⟨k,a⟩⟩;rcases i b k a with h|⟨j,h⟩;exact .inl h;exact .inr ⟨_,d,.inr ⟨j,h⟩⟩
def aU.qQ{O:Nat->Prop}{base:Nat}{w:World}{μ μ':Mu}{g:G}{v:Value}(h:aU O base w μ g v)(d:∀k,g.cD k=true->Ext (μ k) (μ' k)):aU O base w μ' g v:=by induction h with|aG h=>exact .aG h|fr h=>exact .fr h|loc h o b m e=>let ⟨m',l,_⟩:=(d h (by simp[G.cD])).get e;exact .loc h o b m' l|gz h q e=>exact .gz h q ((d h (by simp[G.cD])).nil e)|aN h q o n b m p e D E=>let ⟨m',l,z,_⟩:=(d h (by simp[G.cD])).get e;exact .aN h q o n b m' p l D (by rw[z];exact E)|@fD h q y b m K e C=>obtain⟨⟨F,J⟩,l,z,_⟩:=(d h (by simp[G.cD])).get e;have z:F=m:=z;subst z;exact .fD h q y b F l C|agg a t A H u=>exact .agg a t A fun j g v s B=>u j g v s B fun k r=>d k (by simp only[G.cD];exact G.rQ (ak s) r)|bE a t A H u=>exact .bE a t A fun j g v s B=>u j g v s B fun k r=>d k (by simp only[G.cD];exact G.rQ (ak s) r)|bf f a t A H u=>exact .bf f a t A fun j g v s B=>u j g v s B fun k r=>d k (by simp only[G.cD];exact G.rQ (ak s) r)|da h b m e=>let ⟨m',l,_⟩:=(d h (by simp[G.cD])).get e;exact .da h b m' l|kp h i o b m c n e r=>let ⟨m',l,_,h3⟩:=(d h (by simp[G.cD])).get e;exact .kp h i o b m' c n l (h3 i _ r)|my h i q x p I=>exact .my h i q x p I|ks h i q n b m c k p e r D E=>let ⟨m',l,_,h3⟩:=(d h (by simp[G.cD])).get e;exact .ks h i q n b m' c k p l (h3 i _ r) D E|eT h b m e=>let ⟨m',l,_⟩:=(d h (by simp[G.cD])).get e;exact .eT h b m' l
def aU.gZ{O:Nat->Prop}{base:Nat}{w:World}{μ μ':Mu}{g:G}{v:Value}(h:aU O base w μ g v)(a:∀k,g.cD k=true->μ' k=μ k):aU O base w μ' g v:=h.qQ fun k b=>.inl (a k b)
end Go.AM
/-
 AM,part B:the relation of a state to a frame and a world;judgments;the rules of control.
-/
namespace Go.AM
structure Cx where
 X:Nat→Prop
 A:Nat→Prop
 base:Nat
 w0:World
 ro:Option Nat
 fJ:Mu
def pinned(h:Nat):Bool:=Nat.ble 1000 h
def Own(st:List (Nat×aw))(μ:Mu)(b:Nat):Prop:=∃h k c m,az st h=some k/\μ h=some (c,m)/\In b c m
def Own.root{st:List (Nat×aw)}{μ:Mu}{h b:Nat}{k:aw}{m:Mm}(h1:az st h=some k)(h2:μ h=some (b,m)):Own st μ b:=⟨h,k,b,m,h1,h2,.self b m⟩
def Cx.O(cx:Cx)(st:List (Nat×aw))(μ:Mu):Nat->Prop:=fun b=>cx.X b\/Own st μ b
def dh(O:Nat->Prop)(base:Nat)(w:World)(μ:Mu)(k:aw)(g:G)(v:Value):Prop:=match k.pure with|true=>bN (bif k.fresh then iE O base else O) w g v|false=>aU O base w μ g v
def dh.mono{O O':Nat->Prop}{base:Nat}{w w':World}{μ:Mu}{k:aw}{g:G}{v:Value}(h:dh O base w μ k g v)(d:Kept O w w')(f:∀b,b<w.heap.size->¬O b->¬O' b):dh O' base w' μ k g v:=by unfold dh at *;cases j:k.pure with|false=>rw[j] at h;exact aU.mono h d f (aH _)|true=>rw[j] at h;cases i:k.fresh with|false=>rw[i] at h;exact bN.mono h d f|true=>rw[i] at h;refine bN.mono h ⟨d.size,fun b l c=>d.block b l fun a=>c (.inr a)⟩ ?_;intro b e c a;rcases a with a|a;exact c (.inl a);exact f b e (fun h=>c (.inr h)) a
def aw.out(k:aw):G->G|.val v=>.val v|g=>bif k.pure&&k.fresh then .fr g else g
def dh.out{O:Nat->Prop}{base:Nat}{w:World}{μ:Mu}{k:aw}{g:G}{v:Value}(h:dh O base w μ k g v):aU O base w μ (k.out g) v:=by
 have b:aU O base w μ (bif k.pure&&k.fresh then .fr g else g) v:=by unfold dh at h;cases a:k.pure with|false=>rw[a] at h;exact h|true=>rw[a] at h;cases c:k.fresh with|false=>rw[c] at h;exact .aG h|true=>rw[c] at h;exact .fr h
 cases g with|val u=>(show aU O base w μ (.val u) v;unfold dh at h;cases a:k.pure with|false=>rw[a] at h;exact h|true=>rw[a] at h;dsimp only at h;cases h;exact .aG (.val _))|_=>exact b
def DZ(O:Nat->Prop)(base:Nat)(w:World)(μ:Mu)(k:aw)(lp:Lp)(b:Nat):Prop:=∃(D:Nat×FuncId) (a:Array Value),w.heap[b]?=some (.loop {state:=if lp.oo.isNone then .ready else .done,pending:=lp.oo,fn:=D.2,tmps:=a,params:=lp.ps,assign:=lp.assign,body:=lp.body,defers:=D.1})/\a.size=lp.N/\k.eC=false/\k.pure=false/\∀(j t:Nat) (g:G),lp.ay[j]?=some t->k.cells[j]?=some g->∃v,a[t]?=some v/\aU O base w μ g v
def H0(O:Nat->Prop)(base:Nat)(w:World)(k:aw)(d:Dp)(b:Nat)(m:Mm):Prop:=d.φ (bif k.fresh then iE O base else O) w b m/\k.pure=true/\k.cells=[]/\(k.eC=true->base<=b)
def aV(O:Nat->Prop)(base:Nat)(w:World)(μ:Mu)(k:aw):Option (Nat×Mm)->Prop|none=>(k.cells=[]/\match k.lp with|none=>True|some (.loop _)=>False|some (.deep d)=>d.jk/\k.pure=true)|some (b,m)=>match k.lp with|none=>m.2=[]/\∃a:Array Value,w.heap[b]?=some (.cells a k.bP (0,0))/\a.size=m.1/\k.cells.length<=m.1/\(k.eC=true->base<=b)/\(k.sz≠0->m.1<=maxLen*k.sz)/\∀(j:Nat) (g:G),k.cells[j]?=some g->∃v,a[j]?=some v/\dh O base w μ k g v|some (.loop c)=>DZ O base w μ k c b|some (.deep d)=>H0 O base w k d b m
def aV.nil{O:Nat->Prop}{base:Nat}{w:World}{μ:Mu}{k:aw}(h1:k.cells=[])(h2:k.lp=none):aV O base w μ k none:=⟨h1,by rw[h2];trivial⟩
def aV.zi{O O':Nat->Prop}{base base':Nat}{w w':World}{μ μ':Mu}{k k':aw}(h:aV O base w μ k none)(h1:k'.cells=k.cells)(h2:k'.lp=k.lp)(a:k'.pure=k.pure):aV O' base' w' μ' k' none:=by unfold aV at h|-;rw[h1,h2,a];exact h
def aV.deep{O:Nat->Prop}{base:Nat}{w:World}{μ:Mu}{k:aw}{d:Dp}{b:Nat}{m:Mm}(a:k.lp=some (.deep d)):aV O base w μ k (some (b,m))↔H0 O base w k d b m:=by unfold aV;rw[a]
def aV.loop{O:Nat->Prop}{base:Nat}{w:World}{μ:Mu}{k:aw}{lp:Lp}{b:Nat}{m:Mm}(a:k.lp=some (.loop lp)):aV O base w μ k (some (b,m))↔DZ O base w μ k lp b:=by unfold aV;rw[a]
def iE.mono{O O':Nat->Prop}{base:Nat}{w w':World}{f:Bool}(e:Kept O w w')(g:∀b,b<w.heap.size->¬O b->¬O' b):Kept (bif f then iE O base else O) w w'/\∀b,b<w.heap.size->¬(bif f then iE O base else O) b->¬(bif f then iE O' base else O') b:=by cases f with|false=>exact⟨e,g⟩|true=>refine⟨⟨e.size,fun b i c=>e.block b i fun a=>c (.inr a)⟩,fun b d c a=>?_⟩;rcases a with a|a;exact c (.inl a);exact g b d (fun h=>c (.inr h)) a
def H0.mono{O O':Nat->Prop}{base:Nat}{w w':World}{k:aw}{d:Dp}{b:Nat}{m:Mm}(h:H0 O base w k d b m)(hb:∀x,In x b m->w'.heap[x]?=w.heap[x]?)(c:Kept O w w')(e:∀b,b<w.heap.size->¬O b->¬O' b):H0 O' base w' k d b m:=by obtain⟨f,g,i,j⟩:=h;obtain⟨l,a⟩:=iE.mono (f:=k.fresh) (base:=base) c e;exact⟨d.mono f l a hb,g,i,j⟩
def aV.cells{O:Nat->Prop}{base:Nat}{w:World}{μ:Mu}{k:aw}{b:Nat}{m:Mm}(h:aV O base w μ k (some (b,m)))(a:k.lp=none):∃cs:Array Value,w.heap[b]?=some (.cells cs k.bP (0,0))/\cs.size=m.1/\k.cells.length<=m.1/\(k.eC=true->base<=b)/\(k.sz≠0->m.1<=maxLen*k.sz)/\∀(j:Nat) (g:G),k.cells[j]?=some g->∃v,cs[j]?=some v/\dh O base w μ k g v:=by unfold aV at h;rw[a] at h;exact h.2
def aV.nv{O:Nat->Prop}{base:Nat}{w:World}{μ:Mu}{k:aw}{b:Nat}{m:Mm}(h:aV O base w μ k (some (b,m)))(a:k.lp=none):m.2=[]:=by unfold aV at h;rw[a] at h;exact h.1
def aV.mk{O:Nat->Prop}{base:Nat}{w:World}{μ:Mu}{k:aw}{b:Nat}{m:Mm}(c:k.lp=none)(a:m.2=[])(h:∃cs:Array Value,w.heap[b]?=some (.cells cs k.bP (0,0))/\cs.size=m.1/\k.cells.length<=m.1/\(k.eC=true->base<=b)/\(k.sz≠0->m.1<=maxLen*k.sz)/\∀(j:Nat) (g:G),k.cells[j]?=some g->∃v,cs[j]?=some v/\dh O base w μ k g v):aV O base w μ k (some (b,m)):=by unfold aV;rw[c];exact⟨a,h⟩
def aV.heap{O:Nat->Prop}{base:Nat}{w:World}{μ:Mu}{k:aw}{b:Nat}{m:Mm}(h:aV O base w μ k (some (b,m))):(∃o,w.heap[b]?=some o)/\(k.eC=true->base<=b):=by cases e:k.lp with|none=>obtain⟨i,a,_,_,c,_⟩:=h.cells e;exact⟨⟨_,a⟩,c⟩|some f=>cases f with|loop j=>obtain⟨D,l,a,_,c,_⟩:=(aV.loop e).1 h;exact⟨⟨_,a⟩,fun h=>by rw[c] at h;cases h⟩|deep d=>obtain⟨a,_,_,g⟩:=(aV.deep e).1 h;exact⟨⟨_,Array.getElem?_eq_getElem (d.live a b (.self b m))⟩,g⟩
def aV.mono{O O':Nat->Prop}{base:Nat}{w w':World}{μ:Mu}{k:aw}{x:Option (Nat×Mm)}(h:aV O base w μ k x)(hb:∀b m,x=some (b,m)->∀y,In y b m->w'.heap[y]?=w.heap[y]?)(i:Kept O w w')(l:∀b,b<w.heap.size->¬O b->¬O' b):aV O' base w' μ k x:=by cases x with|none=>exact h.zi rfl rfl rfl|some q=>obtain⟨b,m⟩:=q;have c:=hb b m rfl b (.self b m);cases a:k.lp with|none=>obtain⟨u,n,f,e,r,s,o⟩:=h.cells a;exact .mk a (h.nv a) ⟨u,c.trans n,f,e,r,s,fun j g p=>let ⟨v,hv,hr⟩:=o j g p;⟨v,hv,hr.mono i l⟩⟩|some A=>cases A with|loop E=>obtain⟨D,B,C,n,f,e,o⟩:=(aV.loop a).1 h;exact(aV.loop a).2 ⟨D,B,c.trans C,n,f,e,fun j t g z p=>let ⟨v,hv,hr⟩:=o j t g z p;⟨v,hv,hr.mono i l (aH _)⟩⟩|deep d=>exact(aV.deep a).2 (((aV.deep a).1 h).mono (hb b m rfl) i l)
def aV.qQ{O:Nat->Prop}{base:Nat}{w:World}{μ μ':Mu}{k:aw}{x:Option (Nat×Mm)}(h:aV O base w μ k x)(f:k.pure=false->∀g,g∈k.cells->∀y,g.cD y=true->Ext (μ y) (μ' y)):aV O base w μ' k x:=by cases x with|none=>exact h|some z=>obtain⟨b,m⟩:=z;cases c:k.lp with|none=>(obtain⟨s,p,n,i,r,u,l⟩:=h.cells c;refine .mk c (h.nv c) ⟨s,p,n,i,r,u,fun j g e=>?_⟩;obtain⟨v,o,a⟩:=l j g e;refine⟨v,o,?_⟩;unfold dh at a|-;cases q:k.pure with|true=>rw[q] at a;exact a|false=>rw[q] at a;exact aU.qQ a (f q g (ak e)))|some B=>cases B with|loop F=>obtain⟨D,C,E,p,n,i,l⟩:=(aV.loop c).1 h;exact(aV.loop c).2 ⟨D,C,E,p,n,i,fun j t g A e=>let ⟨v,o,a⟩:=l j t g A e;⟨v,o,a.qQ (f i g (ak e))⟩⟩|deep d=>exact(aV.deep c).2 ((aV.deep c).1 h)
def aV.gZ{O:Nat->Prop}{base:Nat}{w:World}{μ μ':Mu}{k:aw}{x:Option (Nat×Mm)}(h:aV O base w μ k x)(a:k.pure=false->∀g,g∈k.cells->∀y,g.cD y=true->μ' y=μ y):aV O base w μ' k x:=h.qQ fun c g d y b=>.inl (a c g d y b)
def Jw(A:Nat->Prop)(base:Nat)(w:World):Prop:=∀p,p∈W6->p.1<base/\¬A p.1/\∃a e f,w.heap[p.1]?=some (.cells a e f)/\p.2 a
structure cM (cx:Cx) (μ:Mu) (st:List (Nat×aw)) (w:World):Prop where
 ez:∀h k,az st h=some k→aV (cx.O st μ) cx.base w μ k (μ h)
 dr:∀h h' k k' x b m b' m',az st h=some k→az st h'=some k'→μ h=some (b,m)→μ h'=some (b',m')→In x b m→In x b' m'→h=h'
 cy:∀h k b m x,az st h=some k→μ h=some (b,m)→In x b m→¬cx.X x∧(cx.base≤x∨cx.A x)∧x<w.heap.size∧(k.eC=true→cx.base≤x)
 fJ:∀h k,az st h=some k→pinned h=true→xh cx.base (cx.fJ h) (μ h)
 fq:∀b,cx.X b→b<cx.base
 hb:cx.base≤w.heap.size
 os:w.os=cx.w0.os
 tape:w.tape=cx.w0.tape
 output:w.output=cx.w0.output
 dB:∀b,b<cx.base→¬cx.A b→w.heap[b]?=cx.w0.heap[b]?
 gl:Jw cx.A cx.base cx.w0
def cM.inj{cx:Cx}{μ:Mu}{st:List (Nat×aw)}{w:World}(e:cM cx μ st w):∀h a k k' b m c,az st h=some k->az st a=some k'->μ h=some (b,m)->μ a=some (b,c)->h=a:=fun h a k k' b m c f g i d=>e.dr h a k k' b b m b c f g i d (.self b m) (.self b c)
def cM.W5{cx:Cx}{μ:Mu}{st:List (Nat×aw)}{w:World}(a:cM cx μ st w){A:Nat->Prop}(g:∀b,A b->cx.base<=b\/cx.A b):Jw A w.heap.size w:=fun p i=>by obtain⟨d,c,k,e,f,l,m⟩:=a.gl p i;refine⟨cO d a.hb,fun j=>?_,k,e,f,(a.dB p.1 d c).trans l,m⟩;rcases g _ j with h|h;omega;exact c h
def cM.out{cx:Cx}{μ:Mu}{st:List (Nat×aw)}{w:World}(d:cM cx μ st w):∀h k b m,az st h=some k->μ h=some (b,m)->¬cx.X b/\(cx.base<=b\/cx.A b):=fun h k b m e c=>let ⟨a,b,_⟩:=d.cy h k b m b e c (.self b m);⟨a,b⟩
inductive iR (O:Nat→Prop) (base:Nat) (w:World) (μ:Mu):List Deferred→List G→Prop
 | nil:iR O base w μ [] []
 | mark {D:Nat}{ds:List Deferred}{gs:List G}(h1:¬O D) (h2:base≤D) (h3:D<w.heap.size) (h4:w.heap[D]?=some (.deferred (some []))) (h5:∀d∈ds,d.target≠.collected D) (h6:iR O base w μ ds gs):
   iR O base w μ ({target:=.collected D,args:=#[]}::ds) gs
 | bf {f:FuncId}{cs:List G}{us:Array Value}{ds:List Deferred}{gs:List G}(h1:aU O base w μ (.bf f cs) (.func (.func f) #[] us)) (h2:iR O base w μ ds gs):
   iR O base w μ ({target:=.fn (.func f) us,args:=#[]}::ds) (.bf f cs::gs)
def iR.mono{O O':Nat->Prop}{base:Nat}{w w':World}{μ:Mu}{f:List Deferred}{gs:List G}(h:iR O base w μ f gs)(d:Kept O w w')(i:∀b,b<w.heap.size->¬O b->¬O' b):iR O' base w' μ f gs:=by induction h with|nil=>exact .nil|mark a g e j k l c=>exact .mark (i _ e a) g (cO e d.size) ((d.block _ e a).trans j) k c|bf a g c=>exact .bf (a.mono d i (aH _)) c
def qE(h:Nat):List G->Bool|[]=>true|g::r=>!(g.cD h)&&qE h r
def p8{h:Nat}{gs:List G}(hf:qE h gs=true){g:G}(hg:g∈gs):g.cD h=false:=by induction gs with|nil=>cases hg|cons x r b=>simp only[qE,ag,aT] at hf;cases hg with|head=>exact hf.1|tail _ a=>exact b hf.2 a
def iR.qQ{O:Nat->Prop}{base:Nat}{w:World}{μ μ':Mu}{d:List Deferred}{gs:List G}(h:iR O base w μ d gs)(a:∀g,g∈gs->∀y,g.cD y=true->Ext (μ y) (μ' y)):iR O base w μ' d gs:=by induction h with|nil=>exact .nil|mark b e k i j l c=>exact .mark b e k i j (c a)|bf b e c=>exact .bf (b.qQ (a _ au)) (c fun g f=>a g (ar _ f))
def iR.gZ{O:Nat->Prop}{base:Nat}{w:World}{μ μ':Mu}{b:List Deferred}{gs:List G}(h:iR O base w μ b gs)(a:∀g,g∈gs->∀y,g.cD y=true->μ' y=μ y):iR O base w μ' b gs:=h.qQ fun g d y c=>.inl (a g d y c)
structure Rel (N:Nat) (cx:Cx) (μ:Mu) (s:St) (a:Act) (w:World):Prop where
 st:cM cx μ s.st w
 nd:iR (cx.O s.st μ) cx.base w μ a.defers s.df
 sz:a.tmps.size=N
 fr:∀t g,get s.fr t=some g→∃v,a.tmps[t]?=some v∧aU (cx.O s.st μ) cx.base w μ g v
def lift(N:Nat)(cx:Cx)(Q:Exit->St->Prop):Exit->Act->World->Prop|.outgrown,_,_=>False|e,a,w=>∃b s,Rel N cx b s a w/\Q e s
def FF(a:Option Nat):Fence:={Fence.wide with round:=a}
def GW(P:Program)(N:Nat)(cx:Cx)(c:Code)(Q:Exit->St->Prop)(s:St):Prop:=∀b a w,Rel N cx b s a w->c.wpIn (FF cx.ro) 0 P (lift N cx Q) a w
def Xi(a:St->Prop)(Q:Exit->St->Prop):Exit->St->Prop|.normal,s=>a s|e,s=>Q e s
def zM(id:Nat)(Q:Exit->St->Prop):Exit->St->Prop|.exit a,s=>if a=id then Q .normal s else Q (.exit a) s|e,s=>Q e s
def Ll(fr:List (Nat×G)):List (Nat×G)->Prop|[]=>True|(t,g)::r=>get fr t=some g/\Ll fr r
def pB(st:List (Nat×aw)):List (Nat×aw)->Prop|[]=>True|(t,g)::r=>az st t=some g/\pB st r
def Sub(s a:St):Prop:=Ll s.fr a.fr/\pB s.st a.st/\s.df=a.df
def Ll.get{fr a:List (Nat×G)}(h:Ll fr a){t:Nat}{g:G}(hg:get a t=some g):get fr t=some g:=by induction a with|nil=>cases hg|cons x r c=>obtain⟨k,f⟩:=x;obtain⟨d,e⟩:=h;simp only[AM.get] at hg;cases b:Nat.beq k t with|true=>rw[b] at hg;have:=ab b;subst this;simp at hg;subst hg;exact d|false=>rw[b] at hg;exact c e hg
def pB.get{fr a:List (Nat×aw)}(h:pB fr a){t:Nat}{g:aw}(hg:az a t=some g):az fr t=some g:=by induction a with|nil=>cases hg|cons x r c=>obtain⟨k,f⟩:=x;obtain⟨d,e⟩:=h;simp only[az] at hg;cases b:Nat.beq k t with|true=>rw[b] at hg;have:=ab b;subst this;simp at hg;subst hg;exact d|false=>rw[b] at hg;exact c e hg
def Own.sub{st st':List (Nat×aw)}{μ:Mu}(h:pB st st'){b:Nat}:Own st' μ b->Own st μ b:=fun ⟨x,k,c,m,d,a⟩=>⟨x,k,c,m,h.get d,a⟩
def cM.sub{cx : Cx}{μ : Mu}{st st' : List (Nat × aw)}{w : World}(h : cM cx μ st w)(a : pB st st'): cM cx μ st' w:=by have e : ∀ b, b < w.heap.size -> ¬ cx.O st μ b -> ¬ cx.O st' μ b := fun b _ o f => o (f.imp id (Own.sub a));exact { ez := fun x k g => (h.ez x k (a.get g)).mono (fun _ _ _ _ _ => rfl) (Kept.refl _ _) e,dr := fun x i k j y b m l n d c => h.dr x i k j y b m l n (a.get d) (a.get c),cy := fun x k b m y d c => h.cy x k b m y (a.get d) c,fJ := fun x k d c => h.fJ x k (a.get d) c,fq := h.fq,hb := h.hb,os := h.os,tape := h.tape,output := h.output,gl := h.gl,dB := h.dB}
def Rel.sub{N:Nat}{cx:Cx}{μ:Mu}{s d:St}{a:Act}{w:World}(h:Rel N cx μ s a w)(c:Sub s d):Rel N cx μ d a w:=by have e:∀b,b<w.heap.size->¬cx.O s.st μ b->¬cx.O d.st μ b:=fun b _ i j=>i (j.imp id (Own.sub c.2.1));refine {st:=h.st.sub c.2.1,nd:=c.2.2▸h.nd.mono (Kept.refl _ _) e,sz:=h.sz,fr:=?_};intro t g k;obtain⟨v,l,f⟩:=h.fr t g (c.1.get k);exact⟨v,l,f.mono (Kept.refl _ _) e (aH _)⟩
section
variable {P:Program}{N:Nat}{cx:Cx}{Q:Exit→St→Prop}{s:St}
def Te{Q Q':Exit->St->Prop}(h:∀e s,Q e s->Q' e s){e:Exit}{a:Act}{w:World}(b:lift N cx Q e a w):lift N cx Q' e a w:=by cases e <;> first|exact b.elim|exact(let ⟨μ,s,hr,hq⟩:=b;⟨μ,s,hr,h _ _ hq⟩)|exact(let ⟨μ,s,h1,h2,h3,hq⟩:=b;⟨μ,s,h1,h2,h3,h _ _ hq⟩)
def GW.mono{c:Code}{Q':Exit->St->Prop}(h:GW P N cx c Q s)(d:∀e s,Q e s->Q' e s):GW P N cx c Q' s:=fun f a w g=>wpIn_mono (h f a w g) fun _ _ _ b=>Te d b
def GW.yi{c:Code}(b:St)(e:Sub s b)(h:GW P N cx c Q b):GW P N cx c Q s:=fun f a w d=>h f a w (d.sub e)
def GW.skip(h:Q .normal s):GW P N cx .skip Q s:=fun b _ _ a=>wpIn_skip ⟨b,s,a,h⟩
def GW.ret(h:Q .ret s):GW P N cx .ret Q s:=fun b _ _ a=>wpIn_ret ⟨b,s,a,h⟩
def GW.exit{id:Nat}(h:Q (.exit id) s):GW P N cx (.exit id) Q s:=fun b _ _ a=>wpIn_exit ⟨b,s,a,h⟩
def GW.seq{x y:Code}(h:GW P N cx x (Xi (GW P N cx y Q) Q) s):GW P N cx (.seq x y) Q s:=fun i a w j=>wpIn_seq (wpIn_mono (h i a w j) fun e k g c=>by cases e with|normal=>obtain⟨b,l,d,f⟩:=c;exact f b k g d|outgrown=>exact c.elim|_=>exact c)
def GW.block{id:Nat}{c:Code}(h:GW P N cx c (zM id Q) s):GW P N cx (.block id c) Q s:=fun l a w k=>wpIn_block (wpIn_mono (h l a w k) fun e n m g=>by cases e with|exit i=>obtain⟨b,j,f,d⟩:=g;simp only[zM,Exit.inBlock] at d|-;by_cases hid:i=id;simp only[hid,if_true] at d|-;exact⟨b,j,f,d⟩;simp only[hid,if_false] at d|-;exact⟨b,j,f,d⟩|outgrown=>exact g.elim|_=>exact g)
def Rel.Ux{N:Nat}{cx:Cx}{μ:Mu}{s:St}{a:Act}{w:World}(h:Rel N cx μ s a w){t:Nat}{v:Value}(hg:get s.fr t=some (.val v)):a.eval (.tmp t)=v:=by obtain⟨u,c,b⟩:=h.fr t _ hg;cases b with|aG b=>cases b;simp[Act.eval,c]
def GW.cond{t:Nat}{x y:Code}{b:Bool}(hg:get s.fr t=some (.val (.bool b)))(h1:b=true->GW P N cx x Q s)(h2:b=false->GW P N cx y Q s):GW P N cx (.cond (.tmp t) x y) Q s:=fun d a w c=>wpIn_cond_split (c.Ux hg) (fun e=>h1 e d a w c) (fun e=>h2 e d a w c)
def Ga{F:Fence}{n:Nat}{R:Exit->Act->World->Prop}{a:Act}{w:World}{c:Code}(I:Nat->Act->World->Prop)(b:Nat)(g:I b a w)(f:∀k a w,I k a w->c.wpIn F n P (Exit.then (fun i w'=>∃k',k'<k/\I k' i w') R) a w):(Code.loop c).wpIn F n P R a w:=wpIn_loop (fun a w=>∃k,I k a w) (fun a w=>leastOf fun k=>I k a w) ⟨b,g⟩ fun a w l=>wpIn_mono (f _ a w (leastOf_spec l).1) fun e i w' j=>by cases e with|normal=>obtain⟨k',h,d⟩:=j;exact⟨⟨k',d⟩,Nat.lt_of_le_of_lt ((leastOf_spec ⟨k',d⟩).2 k' d) h⟩|_=>exact j
def GW.loop{σ:Type}{c:Code}(E:σ->St)(I:σ->Prop)(m:σ->Nat)(g:σ)(r:I g)(p:∀x,I x->GW P N cx c (Xi (fun s=>∃d,I d/\m d<m x/\Sub s (E d)) Q) (E x)):GW P N cx (.loop c) Q (E g):=by intro f a w b;refine Ga (fun n a w=>∃x f,I x/\m x=n/\Rel N cx f (E x) a w) (m g) ⟨g,f,r,rfl,b⟩ ?_;rintro n a w ⟨x,f,o,rfl,b⟩;refine wpIn_mono (p x o f a w b) fun e u v h=>?_;cases e with|normal=>obtain⟨j,t,i,d,k,q,l⟩:=h;exact⟨m d,q,d,j,k,rfl,i.sub l⟩|outgrown=>exact h.elim|_=>exact h
def tH:List Oper->Bool|[]=>true|o::r=>(match o.op with|.defer _=>false|_=>true)&&tH r
def Oq{l:List Oper}(h:tH l=true){o:Oper}(ho:o∈l)(c:Call):o.op≠.defer c:=by induction l with|nil=>cases ho|cons x r b=>simp only[tH,ag] at h;cases ho with|head=>intro e;rw[e] at h;cases h.1|tail _ a=>exact b h.2 a
def A5{a:Option Nat}{n:Nat}{f:FuncId}{args:Array Value}{w:World}{R:Ending->World->Prop}:CallsIn (FF a) n P f args w R↔Calls P f args w R:=by cases a with|none=>exact callsIn_wide|some l=>exact(callsIn_wide (n:=n) (P:=P) (f:=f) (args:=args) (w:=w) (R:=R))
def Sy{b:Option Nat}{n:Nat}{row:String}{args:Array Value}{w:World}{R:Value->World->Prop}(h:Rows P row args w R):RowsIn (FF b) n P row args w R:=fun c d _=>by obtain⟨v,e,f,a⟩:=h c d;exact⟨v,e,f,stepsIn_wide.2 a⟩
def Gx{d:Option Nat}{n:Nat}{o:Oper}{a:Act}{w:World}{K:Act->World->Prop}{R:Exit->Act->World->Prop}(hd:∀c,o.op≠.defer c)(h:o.wp P a w K R):o.wpIn (FF d) n P a w K R:=by refine⟨fun _ _=>trivial,?_⟩;rw[Oper.semAt_eq _ _ _ hd];unfold Oper.wp at h;generalize (execOp a.eval o).run P w=r at h;cases r with|ok x e=>(cases x <;> first|exact h|exact h.elim|exact⟨(fun b=>by cases b),A5.2 h⟩|exact⟨(fun b=>by cases b),Sy h⟩)|halt x e=>cases x <;> first|exact h|exact h.elim
def MN:¬LetsOut (lift N cx Q):=fun ⟨_,_,h⟩=>h
def GL(P:Program)(N:Nat)(cx:Cx)(ops:Array Oper)(Q:Exit->St->Prop)(rest:List Oper)(s:St):Prop:=∀b a w,Rel N cx b s a w->wpListIn (FF cx.ro) 0 P ops (lift N cx Q) rest a w
def GW.region{id:Nat}{l:List Oper}(h:GL P N cx l.toArray Q l s):GW P N cx (.region id l.toArray false) Q s:=fun c a w b=>wpIn_region_lit (h c a w b)
def GL.nil{ops:Array Oper}(h:Q .normal s):GL P N cx ops Q [] s:=fun b _ _ a=>⟨b,s,a,h⟩
def St.put(s:St)(d:Nat)(g:G):St:={s with fr:=(d,g)::s.fr}
def jc(t k:Nat)(g:G)(r:List (Nat×G)):get ((k,g)::r) t=bif Nat.beq k t then some g else get r t:=rfl
def Rel.put{μ:Mu}{a:Act}{w:World}(h:Rel N cx μ s a w){d:Nat}{g:G}{v:Value}(hd:d<N)(i:aU (cx.O s.st μ) cx.base w μ g v):Rel N cx μ (s.put d g) (a.put (some d) v) w:=by
 refine {st:=h.st,nd:=h.nd,sz:=by simp[Act.put,h.sz],fr:=?_};intro t f b;have j:=h.sz;simp only[St.put,jc] at b;by_cases e:d=t;subst e;rw[aW,cond_true] at b;cases b;exact⟨v,by simp only[Act.put];rw[Array.getElem?_setIfInBounds_self_of_lt (by omega)],i⟩;have:Nat.beq d t=false:=by cases k:Nat.beq d t with|false=>rfl|true=>exact absurd (ab k) e
 rw[this,cond_false] at b;obtain⟨u,l,c⟩:=h.fr t f b;exact⟨u,by simp only[Act.put];rw[gY (by omega)];exact l,c⟩
def del:List (Nat×G)->Nat->List (Nat×G)|[],_=>[]|(k,g)::r,t=>bif Nat.beq k t then del r t else(k,g)::del r t
def H2(W:List Nat)(st:List (Nat×aw))(μ:Mu)(b:Nat):Prop:=∀h k c m,h∈W->az st h=some k->μ h=some (c,m)->¬In b c m
def H2.ne{W:List Nat}{st:List (Nat×aw)}{μ:Mu}{b:Nat}(hn:H2 W st μ b):∀h k m,h∈W->az st h=some k->μ h≠some (b,m):=fun h k m c d a=>hn h k b m c d a (.self b m)
def fQ(P:Program)(W:List Nat)(s:St)(o:Oper)(g:G):Prop:=∀(N:Nat) (e:Cx) (d:Mu) (a:Act) (w:World),Rel N e d s a w->∃v,aU (e.O s.st d) e.base w d g v/\∀c,w.heap.size<=c.heap.size->(∀b,b<w.heap.size->H2 W s.st d b->c.heap[b]?=w.heap[b]?)->(execOp a.eval o).run P c=.ok (.value v) c
def ey(ops:Array Oper)(s:St):Option (Nat×Bool)->Option Bool|none=>some true|some (j,a)=>match (ops[j]?).bind (·.dst) with|some d=>(match get s.fr d with|some (.val (.bool b))=>some (b==a)|some (.bE [])=>some false|_=>none)|none=>none
def fH{ops:Array Oper}{μ:Mu}{a:Act}{w:World}(h:Rel N cx μ s a w){o:Oper}{b:Bool}(hg:ey ops s o.guard=some b):Region.wanted o (yielded ops a.tmps)=b:=by unfold Region.wanted;cases k:o.guard with|none=>rw[k] at hg;simpa[ey] using hg|some x=>obtain⟨j,q⟩:=x;rw[k] at hg;simp only[ey] at hg;cases e:(ops[j]?).bind (·.dst) with|none=>rw[e] at hg;cases hg|some d=>simp only[e] at hg;cases m:get s.fr d with|none=>simp[m] at hg|some g=>simp only[m] at hg;cases g with|val v=>(cases v with|bool c=>(simp only[kB] at hg;obtain⟨u,n,f⟩:=h.fr d _ m;cases f with|aG f=>cases f;cases i:ops[j]? with|none=>rw[i] at e;cases e|some t=>rw[i] at e;simp only[aa] at e;simp only[yielded,i,e,n,aa];subst hg;simp)|_=>cases hg)|bE l=>(cases l with|cons _ _=>cases hg|nil=>simp only[kB] at hg;subst hg;obtain⟨u,n,f⟩:=h.fr d _ m;(have p:u=.tuple #[]:=by cases f with|aG f=>cases f|bE _ y r _=>obtain rfl:y=[]:=bu (by simpa using r);rfl);subst p;cases i:ops[j]? with|none=>rw[i] at e;cases e|some t=>rw[i] at e;simp only[aa] at e;simp only[yielded,i,e,n,aa];simp)|_=>cases hg
def AP{f:Operand->Value}{o:Oper}{v:Value}{w w':World}(h:(execOp f o).run P w=.ok (.value v) w')(c:Call):o.op≠.defer c:=by intro e;obtain⟨d,l,k,j,a,b⟩:=o;cases e;simp only[execOp,Sem.run_bind] at h;cases g:(resolve f c k).run P w with|ok x i=>rw[g] at h;simp at h|halt x i=>rw[g] at h;cases h
def GL.yield{ops:Array Oper}{rest:List Oper}{o:Oper}{d:Nat}{g:G}(i:ey ops s o.guard=some true)(hd:o.dst=some d)(j:d<N)(f:fQ P [] s o g)(h:GL P N cx ops Q rest (s.put d g)):GL P N cx ops Q (o::rest) s:=by intro e a w c;obtain⟨v,k,b⟩:=f N cx e a w c;have b:=b w (aH _) (fun _ _ _=>rfl);unfold wpListIn;rw[if_pos (fH c i)];refine Gx (AP b) ?_;unfold Oper.wp;rw[b];show wpListIn (FF cx.ro) 0 P ops (lift N cx Q) rest (a.put o.dst v) w;rw[hd];exact h e _ w (c.put j k)
def Rel.SJ{μ : Mu}{a : Act}{w : World}(h : Rel N cx μ s a w)(d : Nat): Rel N cx μ { s with fr := del s.fr d} (a.put (some d) undef) w:=by
 refine { st := h.st,nd := h.nd,sz := by simp [Act.put, h.sz],fr := ?_};intro t g q;have j : ∀ i : List (Nat × G), get (del i d) t = some g -> d ≠ t /\ get i t = some g := by intro i;induction i with|nil=> intro h;cases h|cons x r o=>obtain ⟨k, z⟩ := x;intro b;simp only [del] at b;cases f : Nat.beq k d with|true=>rw [f, cond_true] at b;obtain ⟨n, v⟩ := o b;refine ⟨n, ?_⟩;have := ab f;subst this;(have c : Nat.beq k t = false := by cases c : Nat.beq k t with|false=> rfl|true=> exact absurd (ab c) n);rw [jc, c];exact v|false=>rw [f, cond_false, jc] at b;rw [jc];cases c : Nat.beq k t with|true=>rw [c, cond_true] at b;have := ab c;subst this;refine ⟨?_, b⟩;intro e;subst e;rw [aW] at f;cases f|false=> rw [c, cond_false] at b;exact o b
 obtain ⟨m, l⟩ := j s.fr q;obtain ⟨u, y, p⟩ := h.fr t g l;exact ⟨u, by simp only [Act.put];rw [gY m];exact y, p⟩
def GL.pass{ops : Array Oper}{rest : List Oper}{o : Oper}(f : ey ops s o.guard = some false)(h : GL P N cx ops Q rest { s with fr := match o.dst with|some d=>del s.fr d|none=>s.fr}):GL P N cx ops Q (o :: rest) s:=by intro e a w b;unfold wpListIn;rw [if_neg (by rw [fH b f];simp)];refine ⟨fun _ _ => trivial, ?_⟩;cases c : o.dst with|none=>rw [c] at h;exact h e a w b|some d=>rw [c] at h;exact h e _ w (b.SJ d)
end
end Go.AM
/-
 AM,part C:operations that yield a value and leave the world alone.
-/
namespace Go.AM
def ev(s:St):Operand->Option G|.tmp t=>get s.fr t|.const v=>some (.val v)|.func f=>some (.bf f [])|.global _=>none
section
variable {P:Program}{N:Nat}{cx:Cx}{s:St}
def Rel.ev{μ:Mu}{a:Act}{w:World}(h:Rel N cx μ s a w){x:Operand}{g:G}(b:ev s x=some g):aU (cx.O s.st μ) cx.base w μ g (a.eval x):=by cases x with|tmp t=>obtain⟨v,d,e⟩:=h.fr t g b;simpa[Act.eval,d] using e|const v=>cases b;exact .aG (.val _)|func f=>cases b;have h:=aU.bf (O:=cx.O s.st μ) (base:=cx.base) (w:=w) (μ:=μ) f [] [] rfl (fun j g v c=>by simp at c);rw[Wi] at h;exact h|global g=>cases b
def Rel.val{μ:Mu}{a:Act}{w:World}(h:Rel N cx μ s a w){x:Operand}{v:Value}(c:AM.ev s x=some (.val v)):a.eval x=v:=by cases h.ev c with|aG b=>cases b;rfl
def PY(P:Program)(s:St)(o:Oper)(g:G):Prop:=∀(N:Nat) (c:Cx) (b:Mu) (a:Act) (w:World),Rel N c b s a w->∃v,aU (c.O s.st b) c.base w b g v/\∀d,(execOp a.eval o).run P d=.ok (.value v) d
def PY.yield{o:Oper}{g:G}(h:PY P s o g)(W:List Nat):fQ P W s o g:=fun N c d a w e=>let ⟨v,hv,hrun⟩:=h N c d a w e;⟨v,hv,fun b _ _=>hrun b⟩
variable {dst:Option Tmp}{ty:TypeId}{pos:String}{after:Array Edge}{guard:Option (Nat×Bool)}
def PY.move{x:Operand}{g:G}(b:ev s x=some g):PY P s ⟨dst,.move x,ty,pos,after,guard⟩ g:=fun _ _ _ _ _ a=>⟨_,a.ev b,fun _=>rfl⟩
def PY.assign{x:Operand}{g:G}(b:ev s x=some g):PY P s ⟨dst,.assign x,ty,pos,after,guard⟩ g:=fun _ _ _ _ _ a=>⟨_,a.ev b,fun _=>rfl⟩
def PY.aai{c x y:Operand}{g:G}(e:ev s c=some (.val (.bool true)))(d:ev s x=some g):PY P s ⟨dst,.pick c x y,ty,pos,after,guard⟩ g:=fun _ _ _ _ _ a=>by refine⟨_,a.ev d,fun f=>?_⟩;have b:=a.val e;simp[execOp,b,asBool]
def PY.aaj{c x y:Operand}{g:G}(e:ev s c=some (.val (.bool false)))(d:ev s y=some g):PY P s ⟨dst,.pick c x y,ty,pos,after,guard⟩ g:=fun _ _ _ _ _ a=>by refine⟨_,a.ev d,fun f=>?_⟩;have b:=a.val e;simp[execOp,b,asBool]
def F2:BinOp->Value->Value->Option Value|.add,.int k a,.int c b=>if k=c then some (.int k (k.wrap (a+b))) else none|.sub,.int k a,.int c b=>if k=c then some (.int k (k.wrap (a-b))) else none|.mul,.int k a,.int c b=>if k=c then some (.int k (k.wrap (a*b))) else none|.eql,.int k a,.int c b=>if k=c then some (.bool (a==b)) else none|.neq,.int k a,.int c b=>if k=c then some (.bool (a !=b)) else none|.lss,.int k a,.int c b=>if k=c then some (.bool (decide (a<b))) else none|.leq,.int k a,.int c b=>if k=c then some (.bool (decide (a<=b))) else none|.gtr,.int k a,.int c b=>if k=c then some (.bool (decide (a>b))) else none|.geq,.int k a,.int c b=>if k=c then some (.bool (decide (a>=b))) else none|.and,.int k a,.int c b=>if k=c then some (.int k (k.wrap ((BitVec.ofInt k.bits a &&& BitVec.ofInt k.bits b).toNat:Int))) else none|.or,.int k a,.int c b=>if k=c then some (.int k (k.wrap ((BitVec.ofInt k.bits a ||| BitVec.ofInt k.bits b).toNat:Int))) else none|.eql,.string a,.string b=>some (.bool (a.toList==b.toList))|.neq,.string a,.string b=>some (.bool (!(a.toList==b.toList)))|.lss,.string a,.string b=>some (.bool (Op.bytesLess a.toList b.toList))|_,_,_=>none
theorem Wv {op : BinOp} {x y r : Value} (h : F2 op x y = some r) (t : TypeId) (xo yo : Operand) (w : World) : (do eqGuard op t xo yo x y; binOp op t x y : Sem Value).run P w = .ok r w := by
  unfold F2 at h
  split at h <;> first
    | (split at h
       · rename_i hk; subst hk; cases h; simp [eqGuard, binOp, Op.intArith, Op.intCmp, Op.intBits]
       · cases h)
    | (cases h; simp [eqGuard, binOp, Op.stringOp])
    | cases h
def PY.bin{op:BinOp}{t t':TypeId}{x y:Operand}{c b r:Value}(hx:ev s x=some (.val c))(f:ev s y=some (.val b))(e:F2 op c b=some r):PY P s ⟨dst,.binOp op t x y t',ty,pos,after,guard⟩ (.val r):=fun _ _ _ _ _ a=>by refine⟨r,.aG (.val r),fun d=>?_⟩;have:=Wv (P:=P) e t x y d;simp only[execOp,a.val hx,a.val f,Sem.run_bind,this,Result.andThen_ok,Sem.run_pure]
def PY.quo{t t':TypeId}{x y:Operand}{k:IntKind}{a b:Int}(hx:ev s x=some (.val (.int k a)))(d:ev s y=some (.val (.int k b)))(hb:b≠0):PY P s ⟨dst,.binOp .quo t x y t',ty,pos,after,guard⟩ (.val (.int k (k.wrap (a.tdiv b)))):=fun _ _ _ _ _ c=>by refine⟨_,.aG (.val _),fun e=>?_⟩;simp[execOp,c.val hx,c.val d,eqGuard,binOp,Op.intDiv,hb]
def PY.rem{t t':TypeId}{x y:Operand}{k:IntKind}{a b:Int}(hx:ev s x=some (.val (.int k a)))(d:ev s y=some (.val (.int k b)))(hb:b≠0):PY P s ⟨dst,.binOp .rem t x y t',ty,pos,after,guard⟩ (.val (.int k (a.tmod b))):=fun _ _ _ _ _ c=>by refine⟨_,.aG (.val _),fun e=>?_⟩;simp[execOp,c.val hx,c.val d,eqGuard,binOp,Op.intDiv,hb]
def PY.shr{t t':TypeId}{x y:Operand}{k k':IntKind}{a b:Int}(hx:ev s x=some (.val (.int k a)))(d:ev s y=some (.val (.int k' b)))(hb:0<=b):PY P s ⟨dst,.binOp .shr t x y t',ty,pos,after,guard⟩ (.val (.int k (a.fdiv (2^(min b.toNat k.bits))))):=fun _ _ _ _ _ c=>by refine⟨_,.aG (.val _),fun e=>?_⟩;simp[execOp,c.val hx,c.val d,eqGuard,binOp,Op.shift,show ¬b<0 by omega]
def PY.shl{t t':TypeId}{x y:Operand}{k k':IntKind}{a b:Int}(hx:ev s x=some (.val (.int k a)))(d:ev s y=some (.val (.int k' b)))(hb:0<=b):PY P s ⟨dst,.binOp .shl t x y t',ty,pos,after,guard⟩ (.val (.int k (k.wrap (a*2^(min b.toNat k.bits))))):=fun _ _ _ _ _ c=>by refine⟨_,.aG (.val _),fun e=>?_⟩;simp[execOp,c.val hx,c.val d,eqGuard,binOp,Op.shift,show ¬b<0 by omega]
def aaE:UnOp->Value->Option Value|.not,.bool b=>some (.bool (!b))|.neg,.int k a=>some (.int k (k.wrap (0-a)))|_,_=>none
def PY.un{op:UnOp}{t:TypeId}{x:Operand}{c r:Value}(hx:ev s x=some (.val c))(b:aaE op c=some r):PY P s ⟨dst,.unOp op t x,ty,pos,after,guard⟩ (.val r):=fun _ _ _ _ _ a=>by refine⟨r,.aG (.val r),fun d=>?_⟩;unfold aaE at b;split at b <;> cases b <;> simp[execOp,a.val hx,Op.unary,Op.intArith]
def PY.conv{t t':TypeId}{x:Operand}{k k':IntKind}{a:Int}{d:TypeDesc}(hx:ev s x=some (.val (.int k' a)))(c:P.underlying t=some d)(ht:P.underlying t'=some (.int k)):PY P s ⟨dst,.convert t t' x,ty,pos,after,guard⟩ (.val (.int k (k.wrap a))):=fun _ _ _ _ _ b=>by refine⟨_,.aG (.val _),fun e=>?_⟩;simp[execOp,b.val hx,convert,run_underlying c,run_underlying ht,Conv.intToInt]
def PY.aaz{t t':TypeId}{x:Operand}{b:ByteArray}{d:TypeDesc}(hx:ev s x=some (.val (.string b)))(c:P.underlying t=some d)(ht:P.underlying t'=some .string):PY P s ⟨dst,.convert t t' x,ty,pos,after,guard⟩ (.val (.string b)):=fun _ _ _ _ _ a=>by refine⟨_,.aG (.val _),fun e=>?_⟩;simp[execOp,a.val hx,convert,run_underlying c,run_underlying ht]
def Q4:G->Option Int|.sl n _=>some n|.fr (.sl n _)=>some n|.aN _ _ _ n=>some n|.ks _ _ _ n=>some n|.val (.slice none 0 0)=>some 0|_=>none
def PY.len{t:TypeId}{x:Operand}{g:G}{n:Int}{e:TypeId}(hx:ev s x=some g)(hn:Q4 g=some n)(ht:P.underlying t=some (.slice e)):PY P s ⟨dst,.call ⟨.builtin .len,#[x],#[t]⟩,ty,pos,after,guard⟩ (.val (.int .i64 n)):=fun _ E C a w l=>by refine⟨_,.aG (.val _),fun D=>?_⟩;have h:=l.ev hx;(have y:∀(O:Nat->Prop) (n:Nat) (f:List G) (v:Value),bN O w (.sl n f) v->∃b m c,v=.slice b m c/\m=n:=by intro O n f v h;cases h with|nil=>exact⟨none,0,0,rfl,rfl⟩|jk a d=>exact⟨some a,0,d,rfl,rfl⟩|sl _ _ b r d=>exact⟨_,n,d,rfl,rfl⟩);(have q:∃b m c,a.eval x=.slice b m c/\(m:Int)=n:=by generalize a.eval x=z at h;cases g with|sl j f=>(cases hn;cases h with|aG h=>obtain⟨b,m,c,o,p⟩:=y _ _ _ _ h;exact⟨b,m,c,o,by rw[p]⟩)|fr g=>(cases h with|aG h=>cases h|fr h=>cases g with|sl j f=>cases hn;obtain⟨b,m,c,o,p⟩:=y _ _ _ _ h;exact⟨b,m,c,o,by rw[p]⟩|_=>cases hn)|aN B A r j=>(cases hn;cases h with|aG h=>cases h|gz=>exact⟨none,0,0,rfl,rfl⟩|aN _ _ _ _ b m d=>exact⟨_,j,d,rfl,rfl⟩|fD _ _ u b m _ _=>exact⟨_,0,0,rfl,rfl⟩)|ks B i A j=>(cases hn;cases h with|aG h=>cases h|my _ _ _ x d=>exact⟨x,0,d,rfl,rfl⟩|ks _ _ _ _ b m c k d=>exact⟨_,j,d,rfl,rfl⟩)|val v=>(cases h with|aG h=>cases h;cases z with|slice b m c=>(cases b with|none=>(cases m with|zero=>(cases c with|zero=>cases hn;exact⟨none,0,0,rfl,rfl⟩|succ c=>cases hn)|succ m=>cases hn)|some b=>cases hn)|_=>cases hn)|_=>cases hn);obtain⟨b,m,c,o,p⟩:=q;subst p;simp[execOp,resolve,invoke,builtin,Builtin.len_,o,run_underlying ht,goInt]
def PY.aaY{t:TypeId}{x:Operand}{b:ByteArray}(hx:ev s x=some (.val (.string b)))(ht:P.underlying t=some .string):PY P s ⟨dst,.call ⟨.builtin .len,#[x],#[t]⟩,ty,pos,after,guard⟩ (.val (.int .i64 b.size)):=fun _ _ _ a w c=>by refine⟨_,.aG (.val _),fun d=>?_⟩;simp[execOp,resolve,invoke,builtin,Builtin.len_,c.val hx,run_underlying ht,goInt]
def PY.min2{ts:Array TypeId}{x y:Operand}{k k':IntKind}{a b:Int}(hx:ev s x=some (.val (.int k a)))(d:ev s y=some (.val (.int k' b))):PY P s ⟨dst,.call ⟨.builtin .min,#[x,y],ts⟩,ty,pos,after,guard⟩ (.val (.int k (if b<a then b else a))):=fun _ _ _ _ _ c=>by refine⟨_,.aG (.val _),fun e=>?_⟩;simp[execOp,resolve,invoke,builtin,Builtin.min_,Builtin.min2,c.val hx,c.val d]
def PY.max2{ts:Array TypeId}{x y:Operand}{k k':IntKind}{a b:Int}(hx:ev s x=some (.val (.int k a)))(d:ev s y=some (.val (.int k' b))):PY P s ⟨dst,.call ⟨.builtin .max,#[x,y],ts⟩,ty,pos,after,guard⟩ (.val (.int k (if b>a then b else a))):=fun _ _ _ _ _ c=>by refine⟨_,.aG (.val _),fun e=>?_⟩;simp[execOp,resolve,invoke,builtin,Builtin.max_,Builtin.max2,c.val hx,c.val d]
def PY.extract{x:Operand}{i:Nat}{gs:List G}{g:G}(hx:ev s x=some (.bE gs))(hg:gs[i]?=some g):PY P s ⟨dst,.extract x i,ty,pos,after,guard⟩ g:=fun _ _ _ a w b=>by have h:=b.ev hx;generalize e:a.eval x=v at h;cases h with|aG h=>cases h|bE _ c k f=>(have d:i<c.length:=by have:=(ap.1 hg).1;omega);refine⟨c[i],f i g c[i] hg (af d),fun j=>?_⟩;simp[execOp,e,Instr.extract,d]
def Addr.lK(b o n:Nat):(⟨b,o,none⟩:Addr).add n=⟨b,o+n,none⟩:=by unfold Addr.add;split <;> simp_all
def bN.EY{O:Nat->Prop}{w:World}{cells:List G}{b off:Nat}(n:Nat)(h:bN O w (.ptr cells) (.pointer (some ⟨b,off,none⟩))):bN O w (.ptr (cells.drop n)) (.pointer (some ⟨b,off+n,none⟩)):=by cases h with|ptr _ _ _ c d e f i=>refine .ptr _ b (off+n) (fun j=>c (n+j)) d e ?_ ?_;intro j k;rw[bY] at k;have:=f (n+j) (by omega);rw[<-Nat.add_assoc] at this;exact this;intro j g a;rw[bC] at a;exact i (n+j) g a
def ZE(off:Nat):G->Option G|.loc h o=>some (.loc h (o+off))|.kp h i o=>some (.kp h i (o+off))|.ptr a=>some (.ptr (a.drop off))|.fr (.ptr a)=>some (.fr (.ptr (a.drop off)))|_=>none
def PY.field{t:TypeId}{x:Operand}{i sz:Nat}{A:Array Field}{f:Field}{g g':G}(hx:ev s x=some g)(hg:ZE f.offset g=some g')(ht:P.underlying t=some (.struct A))(hf:A[i]?=some f)(j:∀w,(sizeOf f.type).run P w=.ok sz w)(E:sz≠0):PY P s ⟨dst,.fieldAddr t x i,ty,pos,after,guard⟩ g':=fun _ C B a w d=>by have h:=d.ev hx;(have l:∃b o,a.eval x=.pointer (some ⟨b,o,none⟩)/\aU (C.O s.st B) C.base w B g' (.pointer (some ⟨b,o+f.offset,none⟩)):=by generalize a.eval x=v at h;cases g with|loc p o=>(cases hg;cases h with|aG h=>cases h|loc _ _ b m k=>exact⟨b,o,rfl,.loc p _ b m k⟩)|kp p i o=>(cases hg;cases h with|aG h=>cases h|kp _ _ _ b m c n k D=>exact⟨c,o,rfl,.kp p i _ b m c n k D⟩)|ptr e=>(cases hg;cases h with|aG h=>cases h with|ptr _ b o r u q y z=>exact⟨b,o,rfl,.aG (bN.EY _ (.ptr e b o r u q y z))⟩)|fr g=>(cases h with|aG h=>cases h|fr h=>cases g with|ptr e=>(cases hg;cases h with|ptr _ b o r u q y z=>exact⟨b,o,rfl,.fr (bN.EY _ (.ptr e b o r u q y z))⟩)|_=>cases hg)|_=>cases hg);obtain⟨b,o,F,H⟩:=l;refine⟨_,H,fun I=>?_⟩;simp[execOp,F,Instr.fieldAt,Instr.sureAddr,run_underlying ht,hf,fieldPlace,j,E,Addr.lK]
def M6(i:Nat)(sz:Nat):G->Option (G×Nat)|.aN h a c n=>if a=sz then some (.loc h (c+i*sz),n) else none|.ks h j a n=>if a=sz then some (.kp h j (0+i*sz),n) else none|.sl n b=>some (.ptr (b.drop (i*sz)),n)|.fr (.sl n b)=>some (.fr (.ptr (b.drop (i*sz))),n)|_=>none
def PY.index{t e:TypeId}{x y:Operand}{sz:Nat}{k:IntKind}{i:Int}{n:Nat}{g g':G}(hx:ev s x=some g)(J:ev s y=some (.val (.int k i)))(hg:M6 i.toNat sz g=some (g',n))(R:0<=i)(hn:i<n)(ht:P.underlying t=some (.slice e))(z:∀w,(sizeOf e).run P w=.ok sz w):PY P s ⟨dst,.indexAddr t x y,ty,pos,after,guard⟩ g':=fun _ F E a w f=>by have h:=f.ev hx;(have I:∀(O:Nat->Prop) (n:Nat) (l:List G) (v:Value),i<n->bN O w (.sl n l) v->∃b o c,v=.slice (some ⟨b,o,none⟩) n c/\bN O w (.ptr (l.drop (i.toNat*sz))) (.pointer (some ⟨b,o+i.toNat*sz,none⟩)):=by intro O n l v hn h;cases h with|nil=>omega|jk=>omega|sl _ _ b o d S hn K L D Q=>exact⟨b,o,d,rfl,bN.EY _ (.ptr l b o S K L D Q)⟩);(have u:∃b o c,a.eval x=.slice (some ⟨b,o,none⟩) n c/\aU (F.O s.st E) F.base w E g' (.pointer (some ⟨b,o+i.toNat*sz,none⟩)):=by generalize a.eval x=v at h;cases g with|aN C A o B=>simp only[M6] at hg;split at hg;rename_i M;cases hg;(cases h with|aG h=>cases h|gz _ _ p=>omega|fD _ _ H b m p _=>omega|aN _ _ _ _ b m d p hn D=>exact⟨b,o,d,rfl,.loc C _ b m p⟩);cases hg|ks C j A B=>simp only[M6] at hg;split at hg;rename_i M;cases hg;(cases h with|aG h=>cases h|my _ _ _ x d=>omega|ks _ _ _ _ b m c k d p N hn D=>exact⟨c,0,d,rfl,.kp C j _ b m c k p N⟩);cases hg|sl B l=>(cases hg;cases h with|aG h=>obtain⟨b,o,c,r,q⟩:=I _ _ _ _ hn h;exact⟨b,o,c,r,.aG q⟩)|fr g=>(cases h with|aG h=>cases h|fr h=>cases g with|sl B l=>cases hg;obtain⟨b,o,c,r,q⟩:=I _ _ _ _ hn h;exact⟨b,o,c,r,.fr q⟩|_=>cases hg)|_=>cases hg);obtain⟨b,o,c,r,q⟩:=u;refine⟨_,q,fun T=>?_⟩;simp[execOp,r,f.val J,Instr.indexAt,asIntOf,run_underlying ht,R,hn,z,Addr.lK]
theorem PY.cat {t t':TypeId}{x y:Operand}{a b:ByteArray}(hx:ev s x=some (.val (.string a))) (hy:ev s y=some (.val (.string b))) (hc:((a.size+b.size:Nat):Int)≤9223372036854775807):
  PY P s ⟨dst,.binOp .add t x y t',ty,pos,after,guard⟩ (.val (.string (a++b))):=fun _ _ _ _ _ hrel=>by
 refine⟨_,.aG (.val _),fun w'=>?_⟩;have hm:¬((a.size+b.size:Nat):Int)>IntKind.i64.max:=by
  have:IntKind.i64.max=9223372036854775807:=by decide
  omega
 have h:(do eqGuard .add t x y (.string a) (.string b);binOp .add t (.string a) (.string b):Sem Value).run P w'=.ok (.string (a++b)) w':=by
  simp only[eqGuard,binOp,Op.stringOp,if_neg hm];rfl
 simp only[execOp,hrel.val hx,hrel.val hy,Sem.run_bind,h,Result.andThen_ok,Sem.run_pure]
def PY.UH{t:TypeId}{x y:Operand}{k:IntKind}{i:Int}{b:ByteArray}{c:UInt8}(hx:ev s x=some (.val (.string b)))(g:ev s y=some (.val (.int k i)))(f:0<=i)(e:b[i.toNat]?=some c)(ht:P.underlying t=some .string):PY P s ⟨dst,.index t x y,ty,pos,after,guard⟩ (.val (.int .u8 c.toNat)):=fun _ l j a w d=>by refine⟨_,.aG (.val _),fun h=>?_⟩;simp[execOp,d.val hx,d.val g,Instr.index,asIntOf,run_underlying ht,f,e]
def PY.makeFunc{f:FuncId}{caps:Array Operand}{gs:List G}(hb:tY.contains f=false)(i:caps.toList.map (ev s)=gs.map some):PY P s ⟨dst,.makeFunc (.func f) #[] caps,ty,pos,after,guard⟩ (.bf f gs):=fun _ n m a w d=>by (have h:sU f (caps.toList.map a.eval)=.func (.func f) #[] (caps.toList.map a.eval).toArray:=by unfold sU;rw[hb]);refine⟨.func (.func f) #[] (caps.toList.map a.eval).toArray,h▸.bf f gs _ ?_ ?_,fun l=>?_⟩;have:=congrArg List.length i;simpa using this;intro j g v k b;(have e:(caps.toList.map (AM.ev s))[j]?=some (some g):=by rw[i,ao,k];rfl);rw[ao] at e b;(cases c:caps.toList[j]? with|none=>rw[c] at b;cases b|some x=>rw[c] at e b;simp only[cn,kB] at e b;subst b;exact d.ev e);simp only[execOp,Instr.makeFunc,Sem.run_bind,Sem.run_pure,Result.andThen_ok,Array.map_empty];congr 3;rw[<-iF]
def PY.Ta{f:FuncId}{x:Operand}{g:G}(hb:tY.contains f=true)(hx:ev s x=some g):PY P s ⟨dst,.makeFunc (.func f) #[x] #[],ty,pos,after,guard⟩ (.bf f [g]):=fun _ h l a w b=>by (have c:sU f [a.eval x]=.func (.func f) #[a.eval x] #[]:=by unfold sU;rw[hb]);refine⟨.func (.func f) #[a.eval x] #[],c▸.bf f [g] [a.eval x] rfl ?_,fun i=>?_⟩;intro j k v d e;(cases j with|zero=>simp only[jg,kB] at d e;subst d;subst e;exact b.ev hx|succ j=>simp at d);simp[execOp,Instr.makeFunc]
end
end Go.AM
/-
 AM,part D:loads,reslicing,values built of parts.
-/
namespace Go.AM
section
variable {P:Program}{N:Nat}{cx:Cx}{s:St}{W:List Nat}
variable {dst:Option Tmp}{ty:TypeId}{pos:String}{after:Array Edge}{guard:Option (Nat×Bool)}
def R0(W:List Nat)(s:St)(μ:Mu)(w w':World):Prop:=w.heap.size<=w'.heap.size/\∀b,b<w.heap.size->H2 W s.st μ b->w'.heap[b]?=w.heap[b]?
def Rel.own{μ:Mu}{a:Act}{w:World}(c:Rel N cx μ s a w){h:Nat}{k:aw}(e:az s.st h=some k){b:Nat}{m:Mm}(f:μ h=some (b,m))(d:k.lp=none):∃cs:Array Value,w.heap[b]?=some (.cells cs k.bP (0,0))/\cs.size=m.1/\k.cells.length<=m.1/\(k.eC=true->cx.base<=b)/\(k.sz≠0->m.1<=maxLen*k.sz)/\∀(j:Nat) (g:G),k.cells[j]?=some g->∃v,cs[j]?=some v/\dh (cx.O s.st μ) cx.base w μ k g v:=by have:=c.st.ez h k e;rw[f] at this;exact this.cells d
def Rel.agree{μ:Mu}{a:Act}{w w':World}(c:Rel N cx μ s a w){h:Nat}{k:aw}(p:az s.st h=some k){b:Nat}{m:Mm}(q:μ h=some (b,m))(i:W.contains h=false)(g:R0 W s μ w w')(hb:b<w.heap.size):w'.heap[b]?=w.heap[b]?:=by refine g.2 b hb ?_;intro r l n o d e f j;have:=c.st.dr h r k l b b m n o p e q f (.self b m) j;subst this;simp at i;exact i d
def Rel.loc{μ:Mu}{a:Act}{w:World}(c:Rel N cx μ s a w){x:Operand}{h off:Nat}(hx:AM.ev s x=some (.loc h off)):∃b m,a.eval x=.pointer (some ⟨b,off,none⟩)/\μ h=some (b,m):=by have d:=c.ev hx;generalize a.eval x=v at d;cases d with|aG h=>cases h|loc _ _ b m e=>exact⟨b,m,rfl,e⟩
def cell_of{w:World}{b:Nat}{cs:Array Value}{e:TypeId}{f:Nat×Nat}(h:w.heap[b]?=some (.cells cs e f))(j:Nat):w.cell? ⟨b,j,none⟩=cs[j]?:=by simp[World.cell?,h]
def dT{w:World}{b:Nat}{o:Obj}(h:w.heap[b]?=some o):b<w.heap.size:=(ie.1 h).1
def YL.load{t:TypeId}{x:Operand}{h off:Nat}{k:aw}{g g':G}(hx:ev s x=some (.loc h off))(n:az s.st h=some k)(hg:k.cells[off]?=some g)(i:∀w,(isAgg t).run P w=.ok false w)(A:W.contains h=false)(d:k.out g=g')(e:k.lp=none:=by rfl):fQ P W s ⟨dst,.load t x,ty,pos,after,guard⟩ g':=fun N C I a w c=>by subst d;obtain⟨b,m,B,l⟩:=c.loc hx;obtain⟨H,j,D,E,F,_,r⟩:=c.own n l e;obtain⟨v,p,y⟩:=r off g hg;refine⟨v,y.out,fun z u f=>?_⟩;have o:=c.agree n l A ⟨u,f⟩ (dT j);rw[j] at o;(have q:z.cell? ⟨b,off,none⟩=some v:=by rw[cell_of o,p]);simp[execOp,B,Instr.loadAt,Instr.sureAddr,loadVar,i,q]
def YL.DL{t:TypeId}{x:Operand}{h off:Nat}{k:aw}{g:G}(hx:ev s x=some (.loc h off))(c:az s.st h=some k)(hg:k.cells[off]?=some g)(a:∀w,(isAgg t).run P w=.ok false w)(d:W.contains h=false)(e:k.pure=false)(b:k.lp=none:=by rfl):fQ P W s ⟨dst,.load t x,ty,pos,after,guard⟩ g:=YL.load hx c hg a d (by cases g <;> simp[aw.out,e]) b
def ru{w:World}{b off:Nat}{cs:Array Value}{e:TypeId}{f:Nat×Nat}(h:w.heap[b]?=some (.cells cs e f))(sz:Nat)(d:off+sz<=cs.size):(loadCells ⟨b,off,none⟩ sz).run P w=.ok ((cs.toList.drop off).take sz).toArray w:=by
 have c:((cs.toList.drop off).take sz).length=sz:=by rw[bA,bY,cj];omega
 have:=run_loadCells_list (P:=P) w ⟨b,off,none⟩ ((cs.toList.drop off).take sz) (fun j v a=>by rw[Addr.lK,cell_of h];rw[br] at a;split at a;rw[bC,bz] at a;exact a;cases a);rw[c] at this;exact this
def YL.Pg{t:TypeId}{x:Operand}{h off sz:Nat}{k:aw}(hx:ev s x=some (.loc h off))(r:az s.st h=some k)(F:k.pure=false)(o:∀w,(isAgg t).run P w=.ok true w)(p:∀w,(sizeOf t).run P w=.ok sz w)(O:off+sz<=k.cells.length)(C:W.contains h=false)(i:k.lp=none:=by rfl):fQ P W s ⟨dst,.load t x,ty,pos,after,guard⟩ (.agg ((k.cells.drop off).take sz)):=fun N J M a w c=>by obtain⟨b,m,B,y⟩:=c.loc hx;obtain⟨z,u,Q,H,I,_,D⟩:=c.own r y i;refine⟨.agg ((z.toList.drop off).take sz).toArray,.agg _ _ ?_ ?_,fun K E f=>?_⟩;simp only[bA,bY,cj];omega;intro j g v d n;rw[br] at d n;split at d;rename_i G;rw[if_pos G,bC,bz] at n;rw[bC] at d;obtain⟨L,e,q⟩:=D _ g d;rw[n] at e;cases e;unfold dh at q;rw[F] at q;exact q;cases d;have A:=c.agree r y C ⟨E,f⟩ (dT u);rw[u] at A;have l:=ru (P:=P) A sz (show off+sz<=z.size by omega);simp[execOp,B,Instr.loadAt,Instr.sureAddr,loadVar,o,p,l]
def YL.Vp{t:TypeId}{x:Operand}{h off sz:Nat}{k:aw}(hx:ev s x=some (.loc h off))(r:az s.st h=some k)(o:∀w,(isAgg t).run P w=.ok true w)(p:∀w,(sizeOf t).run P w=.ok sz w)(O:off+sz<=k.cells.length)(B:W.contains h=false)(q:k.lp=none:=by rfl):fQ P W s ⟨dst,.load t x,ty,pos,after,guard⟩ (.agg (((k.cells.drop off).take sz).map k.out)):=fun N Q R a w c=>by obtain⟨b,m,E,u⟩:=c.loc hx;obtain⟨y,A,I,J,L,_,H⟩:=c.own r u q;refine⟨.agg ((y.toList.drop off).take sz).toArray,.agg _ _ ?_ ?_,fun K C i=>?_⟩;simp only[aJ,bA,bY,cj];omega;intro j g v d n;rw[ao,br] at d;rw[br] at n;split at d;rename_i D;rw[if_pos D,bC,bz] at n;rw[bC] at d;(cases e:k.cells[off+j]? with|none=>rw[e] at d;cases d|some F=>rw[e] at d;cases d;obtain⟨M,f,G⟩:=H _ F e;rw[n] at f;cases f;exact G.out);cases d;have z:=c.agree r u B ⟨C,i⟩ (dT A);rw[A] at z;have l:=ru (P:=P) z sz (show off+sz<=y.size by omega);simp[execOp,E,Instr.loadAt,Instr.sureAddr,loadVar,o,p,l]
def Er:G->G|.val v=>.val v|g=>.fr g
def bN.Er{O:Nat->Prop}{base:Nat}{w:World}{μ:Mu}{g:G}{v:Value}(h:bN (iE O base) w g v):aU O base w μ (AM.Er g) v:=by cases g with|val u=>cases h;exact .aG (.val _)|_=>exact .fr h
def Rel.xO{μ:Mu}{a:Act}{w w':World}(_hrel:Rel N cx μ s a w){b:Nat}(f:¬cx.O s.st μ b)(hb:b<w.heap.size)(d:R0 W s μ w w'):w'.heap[b]?=w.heap[b]?:=d.2 b hb fun h k c m _ g i e=>f (.inr ⟨h,k,c,m,g,i,e⟩)
def YL.ptr{t:TypeId}{x:Operand}{cs:List G}{g:G}(hx:ev s x=some (.ptr cs))(hg:cs[0]?=some g)(f:∀w,(isAgg t).run P w=.ok false w):fQ P W s ⟨dst,.load t x,ty,pos,after,guard⟩ g:=fun N u y a w c=>by have e:=c.ev hx;generalize q:a.eval x=v at e;cases e with|aG e=>cases e with|ptr _ b j k m l o h=>refine⟨k 0,.aG (h 0 g hg),fun p n i=>?_⟩;have r:0<cs.length:=(ap.1 hg).1;(have d:p.cell? ⟨b,j,none⟩=some (k 0):=by rw[World.cell?_of_block (w:=w) (c.xO m l ⟨n,i⟩)];exact o 0 r);simp[execOp,q,Instr.loadAt,Instr.sureAddr,loadVar,f,d]
def YL.aaP{t:TypeId}{x:Operand}{cs:List G}{g g':G}(hx:ev s x=some (.fr (.ptr cs)))(hg:cs[0]?=some g)(i:∀w,(isAgg t).run P w=.ok false w)(f:Er g=g'):fQ P W s ⟨dst,.load t x,ty,pos,after,guard⟩ g':=fun N z A a w c=>by subst f;have e:=c.ev hx;generalize u:a.eval x=v at e;cases e with|aG e=>cases e|fr e=>cases e with|ptr _ b l m o n q j=>refine⟨m 0,(j 0 g hg).Er,fun r p k=>?_⟩;have y:0<cs.length:=(ap.1 hg).1;(have d:r.cell? ⟨b,l,none⟩=some (m 0):=by rw[World.cell?_of_block (w:=w) (c.xO (fun h=>o (.inr h)) n ⟨p,k⟩)];exact q 0 y);simp[execOp,u,Instr.loadAt,Instr.sureAddr,loadVar,i,d]
def YL.YW{t:TypeId}{x:Operand}{cs:List G}{sz:Nat}(hx:ev s x=some (.ptr cs))(D:sz<=cs.length)(k:∀w,(isAgg t).run P w=.ok true w)(n:∀w,(sizeOf t).run P w=.ok sz w):fQ P W s ⟨dst,.load t x,ty,pos,after,guard⟩ (.agg (cs.take sz)):=fun N B C a w c=>by have f:=c.ev hx;generalize y:a.eval x=v at f;cases f with|aG f=>cases f with|ptr _ b e i r u A m=>refine⟨.agg ((List.range sz).map i).toArray,.agg _ _ (by simp;omega) ?_,fun p z l=>?_⟩;intro j g v h o;rw[br] at h;split at h;rename_i q;simp[ao,cN q] at o;subst o;exact .aG (m j g h);cases h;(have d:∀j,j<sz->p.cell? ((⟨b,e,none⟩:Addr).add j)=some (i j):=fun j q=>by rw[Addr.lK,World.cell?_of_block (w:=w) (c.xO r u ⟨z,l⟩)];exact A j (by omega));simp[execOp,y,Instr.loadAt,Instr.sureAddr,loadVar,k,n,run_loadCells p ⟨b,e,none⟩ sz i d]
def YL.XD{t:TypeId}{x:Operand}{cs:List G}{sz:Nat}(hx:ev s x=some (.fr (.ptr cs)))(F:sz<=cs.length)(p:∀w,(isAgg t).run P w=.ok true w)(o:∀w,(sizeOf t).run P w=.ok sz w):fQ P W s ⟨dst,.load t x,ty,pos,after,guard⟩ (.agg ((cs.take sz).map Er)):=fun N E H a w c=>by have i:=c.ev hx;generalize C:a.eval x=v at i;cases i with|aG i=>cases i|fr i=>cases i with|ptr _ b k m B y z l=>refine⟨.agg ((List.range sz).map m).toArray,.agg _ _ (by simp;omega) ?_,fun q A n=>?_⟩;intro j g v d r;rw[ao,br] at d;split at d;rename_i u;simp[ao,cN u] at r;subst r;(cases f:cs[j]? with|none=>rw[f] at d;cases d|some D=>rw[f] at d;cases d;exact(l j D f).Er);cases d;(have e:∀j,j<sz->q.cell? ((⟨b,k,none⟩:Addr).add j)=some (m j):=fun j u=>by rw[Addr.lK,World.cell?_of_block (w:=w) (c.xO (fun h=>B (.inr h)) y ⟨A,n⟩)];exact z j (by omega));simp[execOp,C,Instr.loadAt,Instr.sureAddr,loadVar,p,o,run_loadCells q ⟨b,k,none⟩ sz m e]
def PY.TN{t:TypeId}{x:Operand}{i:Nat}{l:Array Field}{f:Field}{gs:List G}{g:G}(hx:ev s x=some (.agg gs))(ht:P.underlying t=some (.struct l))(hf:l[i]?=some f)(j:∀w,(isAgg f.type).run P w=.ok false w)(hg:gs[f.offset]?=some g):PY P s ⟨dst,.field t x i,ty,pos,after,guard⟩ g:=fun N m n a w d=>by have c:=d.ev hx;generalize o:a.eval x=v at c;(have h:∃b:List Value,v=.agg b.toArray/\∃u,b[f.offset]?=some u/\aU (m.O s.st n) m.base w n g u:=by cases c with|aG c=>(cases c with|agg _ b p c=>(have e:f.offset<b.length:=by have:=(ap.1 hg).1;omega);exact⟨b,rfl,b[f.offset],af e,.aG (c _ g _ hg (af e))⟩)|agg _ b p c=>(have e:f.offset<b.length:=by have:=(ap.1 hg).1;omega);exact⟨b,rfl,b[f.offset],af e,c _ g _ hg (af e)⟩);obtain⟨b,rfl,u,q,k⟩:=h;refine⟨u,k,fun r=>?_⟩;simp[execOp,o,Instr.field,run_underlying ht,hf,asAgg,part,j,q]
def PY.nilCheck{x:Operand}{g:G}(hx:ev s x=some g)(hg:(match g with|.loc ..|.ptr _|.fr (.ptr _)|.bf ..=>true|_=>false)=true):PY P s ⟨dst,.nilCheck x,ty,pos,after,guard⟩ g:=fun N q r a w d=>by have c:=d.ev hx;refine⟨_,c,fun o=>?_⟩;generalize i:a.eval x=v at c;(have k:∀(O:Nat->Prop) (e:List G) (v:Value),bN O w (.ptr e) v->∃p,v=.pointer (some p):=by intro O e v h;cases h with|ptr _ b j l=>exact⟨_,rfl⟩);cases g with|loc h j=>(cases c with|aG h=>cases h|loc _ _ b m t=>simp[execOp,i])|ptr e=>(cases c with|aG h=>obtain⟨p,rfl⟩:=k _ _ _ h;simp[execOp,i])|bf f e=>(cases c with|aG h=>cases h|bf _ _ l n c=>unfold sU at i|-;split <;> simp_all [execOp])|fr g=>(cases c with|aG h=>cases h|fr h=>cases g with|ptr e=>obtain⟨p,rfl⟩:=k _ _ _ h;simp[execOp,i]|_=>cases hg)|_=>cases hg
end
end Go.AM
/-
 AM,part E:operations that change the world:how they are said;regions that draw their order.
-/
namespace Go.AM
structure Step (W:List Nat) (st:List (Nat×aw)) (μ:Mu) (st':List (Nat×aw)) (μ':Mu) (w w':World):Prop where
 size:w.heap.size≤w'.heap.size
 block:∀b,b<w.heap.size→H2 W st μ b→w'.heap[b]?=w.heap[b]?
 hand:∀h k' c' m' b,h∈W→az st' h=some k'→μ' h=some (c',m')→In b c' m'→(∃h0 k c m,h0∈W∧az st h0=some k∧μ h0=some (c,m)∧In b c m)∨w.heap.size≤b
def cu(P:Program)(W:List Nat)(s:St)(o:Oper)(T:St->Prop):Prop:=(∀c,o.op≠.defer c)/\∀(N:Nat) (h:Cx) (g:Mu) (a:Act) (w:World),Rel N h g s a w->(∀d,o.dst=some d->d<N)->∀(K:Act->World->Prop) (Q:Exit->Act->World->Prop),(∀b f i e,Rel N h b f i e->T f->Step W s.st g f.st b w e->K i e)->o.wp P a w K Q
def nX(P:Program)(W:List Nat)(s:St)(o:Oper)(T:St->Prop)(Tp:List PanicEntry->St->Prop):Prop:=(∀c,o.op≠.defer c)/\∀(N:Nat) (g:Cx) (j:Mu) (a:Act) (w:World),Rel N g j s a w->(∀d,o.dst=some d->d<N)->∀(K:Act->World->Prop) (Q:Exit->Act->World->Prop),(∀b e i f,Rel N g b e i f->T e->Step W s.st j e.st b w f->K i f)->(∀h b e f,Rel N g b e a f->Tp h e->Q (.panic h) a f)->o.wp P a w K Q
def cu.p{P:Program}{W:List Nat}{s:St}{o:Oper}{T:St->Prop}(h:cu P W s o T):nX P W s o T fun _ _=>False:=⟨h.1,fun N c d a w e f K Q b _=>h.2 N c d a w e f K Q b⟩
section
variable {P:Program}{N:Nat}{cx:Cx}{Q:Exit→St→Prop}{s:St}{ops:Array Oper}
def GL.Yg{rest:List Oper}{o:Oper}{W:List Nat}{T:St->Prop}{Tp:List PanicEntry->St->Prop}(l:ey ops s o.guard=some true)(m:∀d,o.dst=some d->d<N)(j:nX P W s o T Tp)(h:∀b,T b->GL P N cx ops Q rest b)(q:∀f b,Tp f b->Q (.panic f) b):GL P N cx ops Q (o::rest) s:=by intro p a w i;unfold wpListIn;rw[if_pos (fH i l)];exact Gx j.1 (j.2 N cx p a w i m (wpListIn (FF cx.ro) 0 P ops (lift N cx Q) rest) (lift N cx Q) (fun c b n k e g _=>h b g c n k e) fun f c b k e g=>⟨c,b,e,q f b g⟩)
def GL.effect{rest:List Oper}{o:Oper}{W:List Nat}{T:St->Prop}(j:ey ops s o.guard=some true)(k:∀d,o.dst=some d->d<N)(g:cu P W s o T)(h:∀b,T b->GL P N cx ops Q rest b):GL P N cx ops Q (o::rest) s:=by intro n a w f;unfold wpListIn;rw[if_pos (fH f j)];exact Gx g.1 (g.2 N cx n a w f k (wpListIn (FF cx.ro) 0 P ops (lift N cx Q) rest) (lift N cx Q) (fun c b l m e i _=>h b i c l m e))
def aa9(W:List Nat)(st:List (Nat×aw))(μ:Mu)(b:Nat):Prop:=∃h k c m,h∈W/\az st h=some k/\μ h=some (c,m)/\In b c m
structure Sw (ws:World) (Wb:Nat→Prop) (w:World):Prop where
 size:ws.heap.size≤w.heap.size
 block:∀b,b<ws.heap.size→¬Wb b→w.heap[b]?=ws.heap[b]?
def sa(P:Program)(N:Nat)(cx:Cx)(ops:Array Oper)(Q:Exit->St->Prop)(W:List Nat)(d:Nat)(b:Array Bool)(s:St):Prop:=∀c a w,Rel N cx c s a w->wpAnyH P .any ops (lift N cx Q) (Sw w (aa9 W s.st c)) d b a w
def gr(P:Program)(N:Nat)(cx:Cx)(ops:Array Oper)(Q:Exit->St->Prop)(W:List Nat)(i:Nat)(d:Array Bool)(s:St):Prop:=∀e f g a w,Rel N cx g s a w->Sw e f w->(∀h k c m b,h∈W->az s.st h=some k->g h=some (c,m)->In b c m->f b\/e.heap.size<=b)->wpAnyH P .any ops (lift N cx Q) (Sw e f) i d a w
def cM.drew{μ:Mu}{st:List (Nat×aw)}{w:World}(h:cM cx μ st w):cM cx μ st w.drew:={ez:=fun x k a=>(h.ez x k a).mono (fun _ _ _ _ _=>rfl) ⟨aH _,fun _ _ _=>rfl⟩ (fun _ _ h=>h),dr:=h.dr,cy:=h.cy,fJ:=h.fJ,fq:=h.fq,hb:=h.hb,os:=h.os,tape:=h.tape,output:=h.output,gl:=h.gl,dB:=h.dB}
def Rel.drew{μ:Mu}{a:Act}{w:World}(h:Rel N cx μ s a w):Rel N cx μ s a w.drew:={st:=h.st.drew,nd:=h.nd.mono ⟨aH _,fun _ _ _=>rfl⟩ (fun _ _ h=>h),sz:=h.sz,fr:=fun t g b=>let ⟨v,hv,hr⟩:=h.fr t g b;⟨v,hv,hr.mono ⟨aH _,fun _ _ _=>rfl⟩ (fun _ _ h=>h) (aH _)⟩}
def Xk{g:Option Nat}{n i:Nat}{K f:Act->World->Prop}{a:Act}{w:World}(hd:tH ops.toList=true)(e:∀a w,K a w->f a w)(h:wpOp P ops (lift N cx Q) i K a w):wpOpIn (FF g) n P ops (lift N cx Q) i f a w:=by unfold wpOp at h;unfold wpOpIn;cases d:ops[i]? with|none=>rw[d] at h;exact e _ _ h|some o=>rw[d] at h;dsimp only at h|-;split;rename_i b;rw[if_pos b] at h;rcases h with h|⟨_,h⟩;exact Gx (fun c=>Oq hd (by rw[Array.mem_toList_iff];exact Array.mem_of_getElem? d) c) (Oper.wp_mono e h);exact absurd h MN;rename_i b;rw[if_neg b] at h;exact⟨fun _ _=>trivial,e _ _ h⟩
def Lr{e:Option Nat}{n:Nat}(hd:tH ops.toList=true):∀(c:Nat) (b:Array Bool) (a:Act) (w:World),wpAny P .any ops (lift N cx Q) c b a w->wpAnyIn (FF e) n P .any ops (lift N cx Q) c b a w|0,_,_,_,h=>h|c+1,_,_,_,h=>⟨h.1,fun i d=>Xk hd (fun a w=>Lr hd c _ a w) (h.2 i d)⟩
def GW.Li{id:Nat}(W:List Nat)(c:P.follows .mixedOrders=true)(h:sa P N cx ops Q W ops.size (Array.replicate ops.size false) s)(hd:tH ops.toList=true:=by rfl):GW P N cx (.region id ops true) Q s:=by intro d a w b;exact wpIn_region_any c (Lr hd _ _ _ _ (wpAny_of_held _ _ _ _ (h d a _ b.drew)))
def Ob(Q:Exit->St->Prop)(a:List Nat):Prop:=∀c s,Q (.panic c) s->∀d,d∈a->get s.fr d=none
def wQ(ops:Array Oper):List Nat:=ops.toList.filterMap (·.dst)
def Ap{ops:Array Oper}{i:Nat}{o:Oper}{d:Nat}(hi:ops[i]?=some o)(hd:o.dst=some d):d∈wQ ops:=List.mem_filterMap.2 ⟨o,by rw[Array.mem_toList_iff];exact Array.mem_of_getElem? hi,hd⟩
def vK{c:List PanicEntry}{a:Act}{d:Nat}{v:Value}{w:World}{k:List Nat}(n:Ob Q k)(hd:d∈k):lift N cx Q (.panic c) (a.put (some d) v) w->lift N cx Q (.panic c) a w:=by
 rintro⟨m,s,b,l⟩;refine⟨m,s,{st:=b.st,nd:=b.nd,sz:=by have:=b.sz;simpa[Act.put] using this,fr:=fun t g f=>?_},l⟩;obtain⟨u,i,j⟩:=b.fr t g f;have h:d≠t:=fun e=>by subst e;rw[n c s l d hd] at f;cases f
 simp only[Act.put] at i;rw[gY h] at i;exact⟨u,i,j⟩
def sa.take{W:List Nat}{l:Nat}{e:Array Bool}(i:Nat){o:Oper}{d:Nat}{g:G}(u:Ob Q (wQ ops))(hi:ops[i]?=some o)(x:Region.noSelect ops=true)(hf:Region.free .any ops e i=true)(z:(Region.ready .any ops e).contains i=true)(B:ey ops s o.guard=some true)(hd:o.dst=some d)(C:d<N)(t:fQ P W s o g)(h:sa P N cx ops Q W l (e.setIfInBounds i true) (s.put d g)):sa P N cx ops Q W (l+1) e s:=by intro p a w f;obtain⟨v,y,j⟩:=t N cx p a w f;refine wpAnyH_take (v:=v) hi x hf z (fun c I n h=>vK u (Ap hi hd) (hd▸h)) ?_ ⟨aH _,fun _ _ _=>rfl⟩ ?_;refine .inl ⟨fH f B,fun n q=>?_⟩;exact j n q.size fun b D A=>q.block b D fun ⟨h,k,c,m,F,E,H,r⟩=>A h k c m F E H r;rw[hd];exact h p _ w (f.put C y)
def gr.done{W:List Nat}{c:Nat}{a:Array Bool}(d:Region.ready .any ops a=[])(h:Q .normal s):gr P N cx ops Q W c a s:=fun _ _ e _ _ b _ _=>wpAnyH_done d ⟨e,s,b,h⟩ c
def sa.later{W:List Nat}{e:Nat}{b:Array Bool}(h:gr P N cx ops Q W e b s):sa P N cx ops Q W e b s:=fun f a w d=>h w _ f a w d ⟨aH _,fun _ _ _=>rfl⟩ (fun h k c m _ i j l g=>.inl ⟨h,k,c,m,i,j,l,g⟩)
def gr.take{W:List Nat}{k:Nat}{b:Array Bool}(i:Nat){o:Oper}{d:Nat}{g:G}(A:Ob Q (wQ ops))(hi:ops[i]?=some o)(n:Region.noSelect ops=true)(hf:Region.free .any ops b i=true)(t:(Region.ready .any ops b).contains i=true)(u:ey ops s o.guard=some true)(hd:o.dst=some d)(x:d<N)(p:PY P s o g)(h:gr P N cx ops Q W k (b.setIfInBounds i true) (s.put d g)):gr P N cx ops Q W (k+1) b s:=by intro q r l a w e m y;obtain⟨v,z,f⟩:=p N cx l a w e;refine wpAnyH_take (v:=v) hi n hf t (fun c B j h=>vK A (Ap hi hd) (hd▸h)) (.inl ⟨fH e u,fun j _=>f j⟩) m ?_;rw[hd];exact h q r l _ w (e.put x z) m y
def gr.aaQ{W:List Nat}{l:Nat}{b:Array Bool}(i:Nat){o:Oper}{d:Nat}{g:G}(y:Region.ready .any ops b=[i])(hi:ops[i]?=some o)(p:ey ops s o.guard=some true)(hd:o.dst=some d)(r:d<N)(q:fQ P [] s o g)(h:gr P N cx ops Q W l (b.setIfInBounds i true) (s.put d g)):gr P N cx ops Q W (l+1) b s:=by
 intro m f k a w c n u;obtain⟨v,x,e⟩:=q N cx k a w c;have e:=e w (aH _) (fun _ _ _=>rfl);refine wpAnyH_all y (by simp) fun j t=>?_;obtain rfl:j=i:=by simpa using t
 unfold wpOp;simp only[hi];rw[if_pos (fH c p)];refine .inl ?_;unfold Oper.wp;rw[e];show Sw m f w/\_;refine⟨n,?_⟩;rw[hd];exact h m f k _ w (c.put r x) n u
def gr.one{W:List Nat}{A:Nat}{e:Array Bool}(i:Nat){o:Oper}{T:St->Prop}(X:Region.ready .any ops e=[i])(hi:ops[i]?=some o)(I:ey ops s o.guard=some true)(O:∀d,o.dst=some d->d<N)(J:cu P W s o T)(h:∀u,T u->gr P N cx ops Q W A (e.setIfInBounds i true) u):gr P N cx ops Q W (A+1) e s:=by
 intro v t K a w f r F;refine wpAnyH_all X (by simp) fun j L=>?_;obtain rfl:j=i:=by simpa using L
 unfold wpOp;simp only[hi];rw[if_pos (fH f I)];have:=J.2 N cx K a w f O (fun z p=>Sw v t p/\wpAnyH P .any ops (lift N cx Q) (Sw v t) A (e.setIfInBounds j true) z p) (lift N cx Q) ?_;exact .inl this;intro x u z p g H l;have q:Sw v t p:=by refine⟨cL r.size l.size,fun b G E=>?_⟩;rw[l.block b (cO G r.size) ?_];exact r.block b G E;intro h k c m B y C hi;rcases F h k c m b B y C hi with n|n;exact E n;omega
 refine⟨q,h u H v t x z p g q ?_⟩;intro h R c m b B y C hi;rcases l.hand h R c m b B y C hi with ⟨S,k,U,V,D,n,Y,M⟩|n;exact F S k U V b D n Y M;exact .inr (cL r.size n)
def gr.aaR{W:List Nat}{z:Nat}{e:Array Bool}(i:Nat){o:Oper}{T:St->Prop}{Tp:List PanicEntry->St->Prop}(U:Region.ready .any ops e=[i])(hi:ops[i]?=some o)(O:ey ops s o.guard=some true)(K:∀d,o.dst=some d->d<N)(L:nX P W s o T Tp)(h:∀f,T f->gr P N cx ops Q W z (e.setIfInBounds i true) f)(M:∀u f,Tp u f->Q (.panic u) f):gr P N cx ops Q W (z+1) e s:=by
 intro y v μ a w g x I;refine wpAnyH_all U (by simp) fun j S=>?_;obtain rfl:j=i:=by simpa using S
 unfold wpOp;simp only[hi];rw[if_pos (fH g O)];have:=L.2 N cx μ a w g K (fun B q=>Sw y v q/\wpAnyH P .any ops (lift N cx Q) (Sw y v) z (e.setIfInBounds j true) B q) (lift N cx Q) ?_ (fun u l f q C D=>⟨l,f,C,M u f D⟩);exact .inl this;intro l f B q n D p;have t:Sw y v q:=by refine⟨cL x.size p.size,fun b J H=>?_⟩;rw[p.block b (cO J x.size) ?_];exact x.block b J H;intro h k c m A F E hi;rcases I h k c m b A F E hi with r|r;exact H r;omega
 refine⟨t,h f D y v l B q n t ?_⟩;intro h V c m b A F E hi;rcases p.hand h V c m b A F E hi with ⟨X,k,Y,Z,G,r,h5,R⟩|r;exact I X k Y Z b G r h5 R;exact .inr (cL x.size r)
end
end Go.AM
/-
 AM,part F:new blocks,stores.
-/
namespace Go.AM
def lD(μ:Mu)(h:Nat)(x:Option (Nat×Mm)):Mu:=fun k=>if k=h then x else μ k
def cf(μ:Mu)(h:Nat)(x:Option (Nat×Mm)):lD μ h x h=x:=by simp[lD]
def bc{μ:Mu}{h k:Nat}{x:Option (Nat×Mm)}(a:k≠h):lD μ h x k=μ k:=by simp[lD,a]
def CJ(h:Nat):List (Nat×G)->Bool|[]=>true|(_,g)::r=>!(g.cD h)&&CJ h r
def ym(h:Nat):List (Nat×aw)->Bool|[]=>true|(_,k)::r=>(k.pure||!(G.cD.go h k.cells))&&ym h r
def fresh(s:St)(h:Nat):Bool:=(az s.st h).isNone&&(CJ h s.fr&&(ym h s.st&&(qE h s.df&&Nat.blt h 1000)))
def kj{h:Nat}(b:Nat.blt h 1000=true):pinned h=false:=by unfold pinned;simp[gO] at b;cases a:Nat.ble 1000 h with|false=>rfl|true=>have:=fS a;omega
def nm{h:Nat}{fr:List (Nat×G)}(hf:CJ h fr=true){t:Nat}{g:G}(hg:get fr t=some g):g.cD h=false:=by induction fr with|nil=>cases hg|cons x r b=>obtain⟨k,c⟩:=x;simp only[CJ,ag,aT] at hf;rw[jc] at hg;cases a:Nat.beq k t with|true=>rw[a] at hg;cases hg;exact hf.1|false=>rw[a] at hg;exact b hf.2 hg
def KN{h:Nat}{cs:List G}(hf:G.cD.go h cs=false){g:G}(hg:g∈cs):g.cD h=false:=by cases a:g.cD h with|false=>rfl|true=>rw[G.rQ hg a] at hf;cases hf
def tq{h:Nat}{st:List (Nat×aw)}(hf:ym h st=true){x:Nat}{k:aw}(a:az st x=some k)(c:k.pure=false){g:G}(hg:g∈k.cells):g.cD h=false:=by induction st with|nil=>cases a|cons y r d=>obtain⟨z,e⟩:=y;simp only[ym,ag] at hf;simp only[az] at a;cases b:Nat.beq z x with|true=>rw[b] at a;cases a;have:=hf.1;rw[c,gm,aT] at this;exact KN this hg|false=>rw[b] at a;exact d hf.2 a
def dh.gZ{O:Nat->Prop}{base:Nat}{w:World}{μ μ':Mu}{k:aw}{g:G}{v:Value}(h:dh O base w μ k g v)(b:k.pure=false->∀x,g.cD x=true->μ' x=μ x):dh O base w μ' k g v:=by unfold dh at *;cases a:k.pure with|true=>rw[a] at h;exact h|false=>rw[a] at h;exact aU.gZ h (b a)
section
variable {P:Program}{N:Nat}{cx:Cx}{s:St}
variable {ty:TypeId}{pos:String}{after:Array Edge}{guard:Option (Nat×Bool)}
def qm(O:Nat->Prop)(w:World)(o:Obj):Kept O w (w.alloc o):=⟨by simp,fun b a _=>dR w o b a⟩
def rK(h x:Nat)(k:aw)(r:List (Nat×aw)):az ((h,k)::r) x=bif Nat.beq h x then some k else az r x:=rfl
def dY(h:Nat)(k:aw)(r:List (Nat×aw)):az ((h,k)::r) h=some k:=by rw[rK,aW];rfl
def aD{h x:Nat}(k:aw)(r:List (Nat×aw))(a:x≠h):az ((h,k)::r) x=az r x:=by rw[rK];cases b:Nat.beq h x with|false=>rfl|true=>exact absurd (ab b).symm a
def cM.alloc{μ:Mu}{st:List (Nat×aw)}{w:World}(h:cM cx μ st w){hd:Nat}{k:aw}{cs:Array Value}(Q:az st hd=none)(A:ym hd st=true)(C:pinned hd=false)(I:k.lp=none)(r:k.cells.length<=cs.size)(B:k.sz≠0->cs.size<=maxLen*k.sz)(n:∀(j:Nat) (g:G),k.cells[j]?=some g->∃v,cs[j]?=some v/\dh (cx.O st μ) cx.base w μ k g v)(O:k.pure=false->∀g,g∈k.cells->g.cD hd=false):cM cx (lD μ hd (some (w.heap.size,cs.size,[]))) ((hd,k)::st) (w.alloc (.cells cs k.bP))/\(∀b,b<w.heap.size->¬cx.O st μ b->¬cx.O ((hd,k)::st) (lD μ hd (some (w.heap.size,cs.size,[]))) b):=by
 have D:∀b,b<w.heap.size->¬cx.O st μ b->¬cx.O ((hd,k)::st) (lD μ hd (some (w.heap.size,cs.size,[]))) b:=by intro b F K z;rcases z with z|⟨x,l,c,m,a,d,f⟩;exact K (.inl z);by_cases e:x=hd;subst e;rw[cf] at d;cases d;rw[In.plain.1 f] at F;omega;rw[aD k st e] at a;rw[bc e] at d;exact K (.inr ⟨x,l,c,m,a,d,f⟩)
 have p:∀x l b m y,az st x=some l->μ x=some (b,m)->In y b m->y<w.heap.size:=fun x l b m y a d f=>(h.cy x l b m y a d f).2.2.1;have i:=qm (cx.O st μ) w (.cells cs k.bP);refine⟨{ez:=?_,dr:=?_,cy:=?_,fJ:=?_,fq:=h.fq,hb:=?_,os:=h.os,tape:=h.tape,output:=h.output,gl:=h.gl,dB:=?_},D⟩;intro x l a;by_cases e:x=hd;subst e;rw[dY] at a;cases a;rw[cf];refine .mk I rfl ⟨cs,heap_alloc_new w _,rfl,r,fun _=>h.hb,B,fun j g s=>?_⟩;obtain⟨v,S,T⟩:=n j g s;refine⟨v,S,(T.mono i D).gZ fun E y o=>bc ?_⟩;intro e;subst e;rw[O E g (ak s)] at o;cases o;rw[aD k st e] at a;rw[bc e];refine((h.ez x l a).mono (fun b m R y o=>dR w _ y (p x l b m y a R o)) i D).gZ fun E g s y o=>bc ?_;intro e;subst e;rw[tq A a E s] at o;cases o;intro x u t M y b m P L a d f q H J;by_cases e:x=hd;by_cases e':u=hd;rw[e,e'];subst e;rw[cf] at f;rw[bc e'] at q;rw[aD k st e'] at d;cases f;have:=p u M _ L y d q J;rw[In.plain.1 H] at this;omega;by_cases e':u=hd;subst e';rw[cf] at q;rw[bc e] at f;rw[aD k st e] at a;cases q;have:=p x t _ m y a f H;rw[In.plain.1 J] at this;omega;rw[aD k st e] at a;rw[aD k st e'] at d;rw[bc e] at f;rw[bc e'] at q;exact h.dr x u t M y b m P L a d f q H J;intro x l b m y a d f;by_cases e:x=hd;subst e;rw[cf] at d;cases d;rw[In.plain.1 f];refine⟨fun U=>?_,.inl h.hb,by simp,fun _=>h.hb⟩;have:=h.fq _ U;have:=h.hb;omega;rw[aD k st e] at a;rw[bc e] at d;obtain⟨V,W,Y,X⟩:=h.cy x l b m y a d f;exact⟨V,W,by simp only[World.size_alloc];omega,X⟩;intro x t a d;by_cases e:x=hd;subst e;rw[C] at d;cases d;rw[aD k st e] at a;rw[bc e];exact h.fJ x t a d;simp only[World.size_alloc];have:=h.hb;omega;intro b F N;rw[dR w _ b (by have:=h.hb;omega)];exact h.dB b F N
def Qg{μ:Mu}{st:List (Nat×aw)}{w:World}{W:List Nat}{hd:Nat}{k:aw}{cs:Array Value}(_hfr:az st hd=none):Step W st μ ((hd,k)::st) (lD μ hd (some (w.heap.size,cs.size,[]))) w (w.alloc (.cells cs k.bP)):=by refine⟨by simp,fun b g _=>dR w _ b g,fun h i c m b j d a f=>?_⟩;by_cases e:h=hd;subst e;rw[cf] at a;cases a;exact .inr (by rw[In.plain.1 f];exact aH _);rw[aD k st e] at d;rw[bc e] at a;exact .inl ⟨h,i,c,m,j,d,a,f⟩
def Rel.alloc{μ : Mu}{a : Act}{w : World}(h : Rel N cx μ s a w){hd : Nat}{k : aw}{cs : Array Value}(c : fresh s hd = true)(l : k.lp = none)(f : k.cells.length <= cs.size)(m : k.sz ≠ 0 -> cs.size <= maxLen * k.sz)(b : ∀ (j : Nat) (g : G), k.cells[j]? = some g -> ∃ v, cs[j]? = some v /\ dh (cx.O s.st μ) cx.base w μ k g v)(x : k.pure = false -> ∀ g, g ∈ k.cells -> g.cD hd = false):Rel N cx (lD μ hd (some (w.heap.size, cs.size, []))) { fr := s.fr,st := (hd, k) :: s.st,df := s.df} a (w.alloc (.cells cs k.bP)):=by unfold fresh at c;simp only [ag, Option.isNone_iff_eq_none] at c;obtain ⟨z, A, p, q, r⟩ := c;obtain ⟨u, n⟩ := h.st.alloc z p (kj r) l f m b x;refine { st := u,nd := (h.nd.mono (qm _ w _) n).gZ (fun g i y d => bc fun e => by subst e;rw [p8 q i] at d;cases d),sz := h.sz,fr := fun t g i => ?_};obtain ⟨v, B, o⟩ := h.fr t g i;refine ⟨v, B, (o.mono (qm _ w _) n (aH _)).gZ fun y d => bc ?_⟩;intro e;subst e;rw [nm A i] at d;cases d
def cZ:G->List G|.agg a=>a|.val v=>v.cells.toList.map .val|.fr (.agg a)=>a.map Er|g=>[g]
def G8:G->Bool|.any=>false|.fr (.val _)=>false|.fr .any=>false|_=>true
def aU.cells{O:Nat->Prop}{base:Nat}{w:World}{μ:Mu}{g:G}{v:Value}(h:aU O base w μ g v)(hg:G8 g=true):v.cells.size=(cZ g).length/\∀(j:Nat) (g':G),(cZ g)[j]?=some g'->∃u,v.cells[j]?=some u/\aU O base w μ g' u:=by
 have c:∀(g:G) (v:Value),cZ g=[g]->v.cells=#[v]->aU O base w μ g v->v.cells.size=(cZ g).length/\∀(j:Nat) (g':G),(cZ g)[j]?=some g'->∃u,v.cells[j]?=some u/\aU O base w μ g' u:=by intro g v E C I;rw[E,C];refine⟨rfl,fun j g' a=>?_⟩;cases j with|zero=>cases a;exact⟨v,rfl,I⟩|succ j=>cases a
 have q:∀(D:Nat->Prop) (l:List G) (v:Value),bN D w (.agg l) v->∃d:List Value,v=.agg d.toArray/\d.length=l.length/\∀(j:Nat) (g:G) (v:Value),l[j]?=some g->d[j]?=some v->bN D w g v:=by intro D l v h;cases h with|agg _ d o k=>exact⟨d,rfl,o,k⟩
 cases g with|any=>cases hg|val u=>(cases h with|aG h=>cases h;refine⟨by simp[cZ],fun j g' a=>?_⟩;simp only[cZ,ao,bz] at a;cases H:v.cells[j]? with|none=>rw[H] at a;cases a|some x=>rw[H] at a;cases a;exact⟨x,rfl,.aG (.val _)⟩)|agg l=>(have z:∃d:List Value,v=.agg d.toArray/\d.length=l.length/\∀(j:Nat) (g:G) (v:Value),l[j]?=some g->d[j]?=some v->aU O base w μ g v:=by cases h with|aG h=>obtain⟨d,e,o,k⟩:=q _ _ _ h;exact⟨d,e,o,fun j g v E C=>.aG (k j g v E C)⟩|agg _ d o k=>exact⟨d,rfl,o,k⟩);obtain⟨d,rfl,o,k⟩:=z;refine⟨by simpa[Value.cells,cZ] using o,fun j g' a=>?_⟩;(have s:j<d.length:=by have:=(ap.1 a).1;simp only[cZ] at this;omega);exact⟨d[j],by simp[Value.cells,s],k j g' _ a (af s)⟩|fr g=>(cases h with|aG h=>cases h|fr h=>cases g with|agg l=>(obtain⟨d,rfl,o,k⟩:=q _ _ _ h;refine⟨by simpa[Value.cells,cZ] using o,fun j g' a=>?_⟩;simp only[cZ,ao] at a;cases p:l[j]? with|none=>rw[p] at a;cases a|some J=>rw[p] at a;cases a;(have s:j<d.length:=by have:=(ap.1 p).1;omega);exact⟨d[j],by simp[Value.cells,s],(k j J _ p (af s)).Er⟩)|sl n t=>cases h <;> exact c _ _ rfl rfl (.fr (by first|exact .nil|(constructor <;> assumption)))|ptr t=>cases h <;> exact c _ _ rfl rfl (.fr (by constructor <;> assumption))|dC b=>exact c _ _ rfl (by cases h with|dC _ _ F=>cases v <;> first|rfl|cases F) (.fr h)|val u=>cases hg|any=>cases hg|_=>cases h)|sl n t=>(cases h with|aG h=>exact c _ _ rfl (by cases h <;> rfl) (.aG h))|ptr t=>(cases h with|aG h=>exact c _ _ rfl (by cases h;rfl) (.aG h))|dC b=>(cases h with|aG h=>exact c _ _ rfl (by cases h with|dC _ _ F=>cases v <;> first|rfl|cases F) (.aG h))|loc x r=>(cases h with|aG h=>cases h|loc _ _ b m L=>exact c _ _ rfl rfl (.loc x r b m L))|aN x K r n=>(refine c _ _ rfl ?_ h;cases h with|aG h=>cases h|_=>rfl)|bf f t=>(refine c _ _ rfl ?_ h;cases h with|aG h=>cases h|bf _ _ d=>obtain⟨A,B,e,_⟩:=Ja f d;rw[e];rfl)|bE t=>(refine c _ _ rfl ?_ h;cases h with|aG h=>cases h|_=>rfl)|da y=>(refine c _ _ rfl ?_ h;cases h with|aG h=>cases h|_=>rfl)|kp y i r=>(refine c _ _ rfl ?_ h;cases h with|aG h=>cases h|_=>rfl)|ks y i K n=>(refine c _ _ rfl ?_ h;cases h with|aG h=>cases h|_=>rfl)|eT y=>refine c _ _ rfl ?_ h;cases h with|aG h=>cases h|_=>rfl
def Ep{g g':G}{h:Nat}(a:g'∈cZ g)(b:g'.cD h=true):g.cD h=true:=by cases g with|agg d=>simp only[cZ] at a;simp only[G.cD];exact G.rQ a b|val v=>simp only[cZ,eL] at a;obtain⟨x,_,rfl⟩:=a;cases b|fr g=>((have c:cZ (.fr g)=[.fr g]->False:=fun e=>by rw[e,dj] at a;subst a;cases b);cases g with|agg d=>simp only[cZ,eL] at a;obtain⟨x,_,rfl⟩:=a;cases x <;> cases b|_=>exact(c rfl).elim)|_=>simp only[cZ,dj] at a;subst a;exact b
def PI{x:Operand}{g:G}(a:AM.ev s x=some g){h:Nat}(hf:CJ h s.fr=true):g.cD h=false:=by cases x with|tmp t=>exact nm hf a|const v=>cases a;rfl|func f=>cases a;rfl|global g=>cases a
def cu.of{W:List Nat}{o:Oper}{d:Nat}{s1:St}{g:G}(hd:o.dst=some d)(i:∀c,o.op≠.defer c)(h:∀(N:Nat) (cx:Cx) (μ:Mu) (a:Act) (w:World),Rel N cx μ s a w->∃v μ' w',(execOp a.eval o).run P w=.ok (.value v) w'/\Rel N cx μ' s1 a w'/\aU (cx.O s1.st μ') cx.base w' μ' g v/\Step W s.st μ s1.st μ' w w'):cu P W s o (·=s1.put d g):=by refine⟨i,?_⟩;intro N cx μ a w k l K Q j;obtain⟨v,μ',w',b,f,m,e⟩:=h N cx μ a w k;unfold Oper.wp;rw[b];show K (a.put o.dst v) w';rw[hd];exact j μ' _ _ _ (f.put (l d hd) m) rfl e
def cu.skip{W:List Nat}{o:Oper}{s1:St}(hd:o.dst=none)(f:∀c,o.op≠.defer c)(h:∀(N:Nat) (cx:Cx) (μ:Mu) (a:Act) (w:World),Rel N cx μ s a w->∃μ' w',(execOp a.eval o).run P w=.ok .skip w'/\Rel N cx μ' s1 a w'/\Step W s.st μ s1.st μ' w w'):cu P W s o (·=s1):=by refine⟨f,?_⟩;intro N cx μ a w i j K Q g;obtain⟨μ',w',b,e,d⟩:=h N cx μ a w i;unfold Oper.wp;rw[b];show K (a.put o.dst undef) w';rw[hd];exact g μ' _ _ _ e rfl d
def gC{h:Nat}(hf:fresh s h=true):az s.st h=none/\CJ h s.fr=true/\ym h s.st=true/\qE h s.df=true/\Nat.blt h 1000=true:=by unfold fresh at hf;simpa only[ag,Option.isNone_iff_eq_none] using hf
def Rel.uf{μ : Mu}{a : Act}{w : World}(h : Rel N cx μ s a w){hd : Nat}(k : aw){cs : Array Value}(d : fresh s hd = true)(e : k.lp = none)(c : k.cells.length <= cs.size)(f : k.sz ≠ 0 -> cs.size <= maxLen * k.sz)(b : ∀ (j : Nat) (g : G), k.cells[j]? = some g -> ∃ v, cs[j]? = some v /\ dh (cx.O s.st μ) cx.base w μ k g v)(i : k.pure = false -> ∀ g, g ∈ k.cells -> g.cD hd = false)(W : List Nat):∃ μ' w', w' = w.alloc (.cells cs k.bP) /\ Rel N cx μ' { fr := s.fr,st := (hd, k) :: s.st,df := s.df} a w' /\ μ' hd = some (w.heap.size, cs.size, []) /\ Step W s.st μ ((hd, k) :: s.st) μ' w w':=⟨lD μ hd (some (w.heap.size, cs.size, [])), _, rfl, h.alloc d e c f b i, cf _ _ _, Qg (gC d).1⟩
variable {W:List Nat}{d:Nat}
def EF.box{t:TypeId}{x:Operand}{g:G}(hd:Nat)(hx:ev s x=some g)(f:G8 g=true)(c:fresh s hd=true):cu P W s ⟨some d,.box t x,ty,pos,after,guard⟩ (·={fr:=(d,.loc hd 0)::s.fr,st:=(hd,⟨t,false,true,false,0,cZ g,none⟩)::s.st,df:=s.df}):=by refine cu.of (s1:={fr:=s.fr,st:=(hd,⟨t,false,true,false,0,cZ g,none⟩)::s.st,df:=s.df}) (g:=.loc hd 0) rfl (fun _ h=>by cases h) ?_;intro N v u a w k;have q:=k.ev hx;obtain⟨m,n⟩:=q.cells f;obtain⟨e,y,rfl,r,o,p⟩:=k.uf (k:=⟨t,false,true,false,0,cZ g,none⟩) (cs:=(a.eval x).cells) c rfl (by simp[m]) (by simp) (fun j i b=>n j i b) (fun _ i b=>by cases l:i.cD hd with|false=>rfl|true=>have:=Ep b l;rw[PI hx (gC c).2.1] at this;cases this) W;exact⟨_,e,_,by simp[execOp,Instr.box,newVar,newRow],r,.loc hd 0 _ _ o,p⟩
def EF.alloc{t:TypeId}{z:Value}(hd:Nat)(g:∀w,(zeroValue t).run P w=.ok z w)(c:fresh s hd=true):cu P W s ⟨some d,.alloc t,ty,pos,after,guard⟩ (·={fr:=(d,.loc hd 0)::s.fr,st:=(hd,⟨t,false,true,false,0,z.cells.toList.map .val,none⟩)::s.st,df:=s.df}):=by refine cu.of (s1:={fr:=s.fr,st:=(hd,⟨t,false,true,false,0,z.cells.toList.map .val,none⟩)::s.st,df:=s.df}) (g:=.loc hd 0) rfl (fun _ h=>by cases h) ?_;intro N p q a w i;obtain⟨e,o,rfl,m,k,l⟩:=i.uf (k:=⟨t,false,true,false,0,z.cells.toList.map .val,none⟩) (cs:=z.cells) c rfl (by simp) (by simp) (fun j n b=>by simp only[ao,bz] at b;cases f:z.cells[j]? with|none=>rw[f] at b;cases b|some u=>rw[f] at b;cases b;exact⟨u,rfl,.aG (.val _)⟩) (fun _ n b=>by simp only[eL] at b;obtain⟨u,_,rfl⟩:=b;rfl) W;exact⟨_,e,_,by simp[execOp,Instr.alloc,g,newVar,newRow],m,.loc hd 0 _ _ k,l⟩
end
end Go.AM
/-
 AM,part G:stores.
-/
namespace Go.AM
def Own.dJ{st:List (Nat×aw)}{μ:Mu}{h:Nat}{k k':aw}(g:az st h=some k){b:Nat}:Own (dJ st h k') μ b↔Own st μ b:=by constructor;rintro⟨x,f,c,m,d,a⟩;by_cases e:x=h;subst e;exact⟨x,k,c,m,g,a⟩;rw[pj e] at d;exact⟨x,f,c,m,d,a⟩;rintro⟨x,f,c,m,d,a⟩;by_cases e:x=h;subst e;exact⟨x,k',c,m,tv g,a⟩;exact⟨x,f,c,m,by rw[pj e];exact d,a⟩
def G.one:G->Bool|.val v=>v.oneCell'|.dC _=>true|.fr (.dC _)=>true|.fr (.sl _ _)=>true|.fr (.ptr _)=>true|.sl _ _=>true|.ptr _=>true|.loc _ _=>true|.aN _ _ _ _=>true|.bf _ _=>true|.da _=>true|.kp _ _ _=>true|.ks _ _ _ _=>true|.eT _=>true|_=>false
def bN.one{O:Nat->Prop}{w:World}{g:G}{v:Value}(h:bN O w g v)(ho:g.one=true):v.oneCell'=true:=by cases h with|any v=>cases ho|val v=>exact ho|dC b v a=>(cases v <;> first|rfl|cases a)|nil=>rfl|jk=>rfl|sl _ _=>rfl|ptr _=>rfl|agg _ _ _ _=>cases ho
def aU.one{O:Nat->Prop}{base:Nat}{w:World}{μ:Mu}{g:G}{v:Value}(h:aU O base w μ g v)(ho:g.one=true):v.oneCell'=true:=by cases h with|aG h=>exact h.one ho|fr h=>(rename_i g;cases g with|sl n c=>exact h.one rfl|ptr c=>exact h.one rfl|dC b=>exact h.one rfl|_=>cases ho)|agg _ _ _ _=>cases ho|bE _ _ _ _=>cases ho|bf f _ a=>obtain⟨A,B,e,_⟩:=Ja f a;rw[e];rfl|_=>rfl
def Bs{v:Value}(h:v.oneCell'=true):v.cells=#[v]:=by cases v <;> first|rfl|cases h
def M8:G->Option (G×Bool)|.val v=>some (.val v,true)|.dC b=>some (.dC b,true)|.fr (.dC b)=>some (.dC b,true)|.fr (.sl n a)=>some (.sl n a,true)|.fr (.ptr a)=>some (.ptr a,true)|.sl n a=>some (.sl n a,false)|.ptr a=>some (.ptr a,false)|_=>none
def CF{O:Nat->Prop}{base:Nat}{w:World}{μ:Mu}{g g':G}{f:Bool}{v:Value}(h:aU O base w μ g v)(hi:M8 g=some (g',f)):bN (bif f then iE O base else O) w g' v:=by have c:∀(e:Nat->Prop),g=.val v->bN e w (.val v) v:=fun _ _=>.val v;cases g with|val u=>(cases hi;cases h with|aG h=>cases h;exact .val _)|sl n a=>(cases hi;cases h with|aG h=>exact h)|ptr a=>(cases hi;cases h with|aG h=>exact h)|dC b=>(cases hi;cases h with|aG h=>cases h with|dC _ _ d=>exact .dC _ _ d)|fr g=>(cases h with|aG h=>cases h|fr h=>cases g with|sl n a=>cases hi;exact h|ptr a=>cases hi;exact h|dC b=>cases hi;exact h|_=>cases hi)|_=>cases hi
def bN.flag{O:Nat->Prop}{base:Nat}{w:World}{g:G}{v:Value}{f f':Bool}(h:bN (bif f then iE O base else O) w g v)(hf:f'=true->f=true):bN (bif f' then iE O base else O) w g v:=by cases f' with|true=>rw[hf rfl] at h;exact h|false=>cases f with|true=>exact h.O5|false=>exact h
section
variable {P:Program}{N:Nat}{cx:Cx}{s:St}
def cM.write{μ:Mu}{st:List (Nat×aw)}{w w':World}(h:cM cx μ st w){o:Nat}{k k':aw}{b:Nat}{m:Mm}{p:Array Value}(i:az st o=some k)(u:μ o=some (b,m))(K:w'.heap[b]?=some (.cells p k'.bP (0,0)))(hs:p.size=m.1)(s:w'.heap.size=w.heap.size)(n:∀q,q≠b->w'.heap[q]?=w.heap[q]?)(F:w'.os=w.os)(t:w'.tape=w.tape)(C:w'.output=w.output)(l:k'.eC=true->k.eC=true)(hl:k'.cells.length<=m.1)(L:k'.sz≠0->m.1<=maxLen*k'.sz)(hc:∀(j:Nat) (g:G),k'.cells[j]?=some g->∃v,p[j]?=some v/\dh (cx.O st μ) cx.base w μ k' g v)(O:k'.lp=none)(I:k.lp=none:=by assumption):cM cx μ (dJ st o k') w'/\Kept (cx.O st μ) w w'/\∀b,cx.O (dJ st o k') μ b↔cx.O st μ b:=by
 have E:∀b,cx.O (dJ st o k') μ b↔cx.O st μ b:=fun b=>or_congr Iff.rfl (Own.dJ i);have D:cx.O st μ b:=.inr (.root i u);have c:Kept (cx.O st μ) w w':=⟨by rw[s];exact aH _,fun q _ R=>n q fun e=>R (e▸D)⟩;have Y:∀b,b<w.heap.size->¬cx.O st μ b->¬cx.O (dJ st o k') μ b:=fun b _ R ho=>R ((E b).1 ho);obtain⟨hx,H⟩:=h.out o k b m i u;have r:=h.ez o k i;rw[u] at r;obtain⟨_,J⟩:=r.heap;refine⟨{ez:=?_,dr:=?_,cy:=?_,fJ:=?_,fq:=h.fq,hb:=by rw[s];exact h.hb,os:=F.trans h.os,tape:=t.trans h.tape,output:=C.trans h.output,gl:=h.gl,dB:=?_},c,E⟩;intro x d a;rcases dz i a with ⟨rfl,rfl⟩|⟨M,a⟩;rw[u];exact .mk O (r.nv I) ⟨p,K,hs,hl,fun N=>J (l N),L,fun j g hg=>let ⟨v,hv,hr⟩:=hc j g hg;⟨v,hv,hr.mono c Y⟩⟩;exact(h.ez x d a).mono (fun A B Q y hy=>n y fun e=>M (h.dr x o d k y A B b m a i Q u hy (.inl e))) c Y;intro x X d k2 y A B b2 m2 a z;have f:∀x d,az (dJ st o k') x=some d->∃d,az st x=some d:=fun x d a=>by rcases dz i a with ⟨rfl,rfl⟩|⟨_,a⟩;exact⟨k,i⟩;exact⟨_,a⟩
 obtain⟨S,P⟩:=f x d a;obtain⟨U,T⟩:=f X k2 z;exact h.dr x X S U y A B b2 m2 P T;intro x d A B y a z Z;rw[s];rcases dz i a with ⟨rfl,rfl⟩|⟨_,a⟩;exact let ⟨a1,a2,a3,a4⟩:=h.cy x k A B y i z Z;⟨a1,a2,a3,fun u=>a4 (l u)⟩;exact h.cy x d A B y a z Z;intro x d a z;rcases dz i a with ⟨rfl,rfl⟩|⟨_,a⟩;exact h.fJ x k i z;exact h.fJ x d a z;intro q V W;rw[n q (fun e=>by subst e;exact H.elim (fun a=>by omega) (fun a=>W a))];exact h.dB q V W
def Rel.write{μ:Mu}{a:Act}{w w':World}(h:Rel N cx μ s a w){l:Nat}{k k':aw}{b:Nat}{m:Mm}{f:Array Value}(z:az s.st l=some k)(I:μ l=some (b,m))(C:w'.heap[b]?=some (.cells f k'.bP (0,0)))(T:f.size=m.1)(o:w'.heap.size=w.heap.size)(c:∀p,p≠b->w'.heap[p]?=w.heap[p]?)(D:w'.os=w.os)(d:w'.tape=w.tape)(q:w'.output=w.output)(i:k'.eC=true->k.eC=true)(U:k'.cells.length<=m.1)(A:k'.sz≠0->m.1<=maxLen*k'.sz)(V:∀(j:Nat) (g:G),k'.cells[j]?=some g->∃v,f[j]?=some v/\dh (cx.O s.st μ) cx.base w μ k' g v)(W:List Nat)(O:W.contains l=true)(B:k'.lp=none)(M:k.lp=none:=by assumption):Rel N cx μ {fr:=s.fr,st:=dJ s.st l k',df:=s.df} a w'/\Step W s.st μ (dJ s.st l k') μ w w':=by obtain⟨n,r,J⟩:=h.st.write z I C T o c D d q i U A V B;refine⟨{st:=n,nd:=h.nd.mono r (fun b _ u E=>u ((J b).1 E)),sz:=h.sz,fr:=fun t g P=>?_},?_⟩;obtain⟨v,Q,R⟩:=h.fr t g P;exact⟨v,Q,R.mono r (fun b _ u E=>u ((J b).1 E)) (aH _)⟩;refine⟨by rw[o];exact aH _,fun p _ u=>c p fun e=>?_,fun x S H K y L n r F=>?_⟩;subst e;exact u.ne l k m (by simpa using O) z I;rcases dz z n with ⟨rfl,rfl⟩|⟨_,n⟩;exact .inl ⟨x,k,H,K,L,z,r,F⟩;exact .inl ⟨x,S,H,K,L,n,r,F⟩
variable {ty:TypeId}{pos:String}{after:Array Edge}{guard:Option (Nat×Bool)}{W:List Nat}
def rr{w:World}{g:Nat}{cs a:Array Value}{e:TypeId}{f:Nat×Nat}(h:w.heap[g]?=some (.cells cs e f)):(w.setRow g a).heap[g]?=some (.cells a e f):=setRow_heap w g cs a e f h
def setRow_size(w:World)(g:Nat)(a:Array Value):(w.setRow g a).heap.size=w.heap.size:=by simp[World.setRow]
def EF.LM{t:TypeId}{x y:Operand}{h off sz:Nat}{k:aw}{g:G}{gs e:List G}(hx:ev s x=some (.loc h off))(hy:ev s y=some g)(R:az s.st h=some k)(E:k.pure=false)(F:G8 g=true)(H:cZ g=gs)(z:gs.all G.one=true)(B:gs.length=sz)(I:∀w,(sizeOf t).run P w=.ok sz w)(T:off+sz<=k.cells.length)(Z:W.contains h=true)(Q:k.cells.take off++gs++k.cells.drop (off+sz)=e)(A:k.lp=none:=by rfl):cu P W s ⟨none,.store t x y,ty,pos,after,guard⟩ (·={fr:=s.fr,st:=dJ s.st h {k with cells:=e},df:=s.df}):=by
 refine cu.skip rfl (fun _ h=>by cases h) ?_;intro N cx μ a w D;obtain⟨b,m,Y,U⟩:=D.loc hx;obtain⟨n,S,h2,h3,h4,J,X⟩:=D.own R U A;obtain⟨l,p⟩:=(D.ev hy).cells F;rw[H] at l p;have f:(a.eval y).cells.toList.length=sz:=by rw[cj,l,B]
 have o:=run_storeCells_at P b off k.bP (a.eval y).cells.toList 0 n w S (by rw[f];omega) (fun v r=>by obtain⟨j,i⟩:=cF r;(have C:j<gs.length:=by have:=(ap.1 i).1;omega);obtain⟨u,V,L⟩:=p j gs[j] (af C);rw[bz] at i;rw[i] at V;cases V;exact L.one (dF.1 z _ (ff C)));rw[gu,f] at o;refine⟨μ,w.setRow b (n.toList.take off++(a.eval y).cells.toList++n.toList.drop (off+sz)).toArray,?_,?_⟩;simp only[execOp,Instr.storeAt,Instr.sureAddr,Y,storeVar,I,Sem.run_bind,Sem.run_pure,Result.andThen_ok];rw[if_neg (by rw[l,B];simp)];rw[o];rfl;subst Q;refine D.write (k':={k with cells:=k.cells.take off++gs++k.cells.drop (off+sz)}) R U (rr S) ?_ (setRow_size _ _ _) (fun b' M=>setRow_other w b b' _ M) rfl rfl rfl id ?_ J ?_ W Z A;simp only[List.size_toArray,aK,bA,bY,cj,l,B];omega;simp only[aK,bA,bY,B];omega;intro j K c;have kW:∀(j:Nat),(n.toList.take off++(a.eval y).cells.toList++n.toList.drop (off+sz)).toArray[j]?=if j<off then n[j]? else if j<off+sz then(a.eval y).cells[j-off]? else n[j]?:=by intro j;rw[List.getElem?_toArray,aS,bZ,bA,cj,iX (by omega:off<=n.size)];split;rename_i i;rw[br,if_pos i,bz];rw[bZ,f];split;rename_i O q;rw[if_pos (by omega),bz];rename_i O q;rw[if_neg (by omega),bC,bz];congr 1;omega
 dsimp only at c;rw[aS,bZ,bA,iX (by omega:off<=k.cells.length)] at c;rw[kW];split at c;rename_i i;rw[if_pos i];rw[br,if_pos i] at c;obtain⟨v,r,d⟩:=X j K c;refine⟨v,r,?_⟩;unfold dh at d|-;rw[E] at d|-;exact d;rename_i i;rw[if_neg i];rw[bZ,B] at c;split at c;rename_i q;rw[if_pos (by omega)];obtain⟨v,r,d⟩:=p _ K c;refine⟨v,r,?_⟩;unfold dh;rw[E];exact d;rename_i q;rw[if_neg (by omega)];rw[bC] at c;have:off+sz+(j-off-sz)=j:=by omega
 rw[this] at c;obtain⟨v,r,d⟩:=X j K c;refine⟨v,r,?_⟩;unfold dh at d|-;rw[E] at d|-;exact d
end
end Go.AM
/-
 AM,part H:a nil slice taken in hand;slices written out;append.
-/
namespace Go.AM
section
variable {P:Program}{N:Nat}{cx:Cx}{s:St}
variable {dst:Option Tmp}{ty:TypeId}{pos:String}{after:Array Edge}{guard:Option (Nat×Bool)}{W:List Nat}{d:Nat}
def cM.zj{μ:Mu}{st:List (Nat×aw)}{w:World}(h:cM cx μ st w){hd:Nat}{k:aw}(A:az st hd=none)(n:ym hd st=true)(p:pinned hd=false)(v:∀O base w μ,aV O base w μ k none):cM cx (lD μ hd none) ((hd,k)::st) w/\(∀b,¬cx.O st μ b->¬cx.O ((hd,k)::st) (lD μ hd none) b):=by
 have s:∀b,¬cx.O st μ b->¬cx.O ((hd,k)::st) (lD μ hd none) b:=by intro b u l;rcases l with l|⟨x,i,c,m,a,d,f⟩;exact u (.inl l);by_cases e:x=hd;subst e;rw[cf] at d;cases d;rw[aD k st e] at a;rw[bc e] at d;exact u (.inr ⟨x,i,c,m,a,d,f⟩)
 refine⟨{ez:=?_,dr:=?_,cy:=?_,fJ:=?_,fq:=h.fq,hb:=h.hb,os:=h.os,tape:=h.tape,output:=h.output,gl:=h.gl,dB:=h.dB},s⟩;intro x i a;by_cases e:x=hd;subst e;rw[dY] at a;cases a;rw[cf];exact v _ _ _ _;rw[aD k st e] at a;rw[bc e];refine((h.ez x i a).mono (fun _ _ _ _ _=>rfl) (Kept.refl _ _) (fun b _=>s b)).gZ fun E g z y t=>bc ?_;intro e;subst e;rw[tq n a E z] at t;cases t;intro x r o B y b m C D a d f j;have e:x≠hd:=fun e=>by subst e;rw[cf] at f;cases f
 have q:r≠hd:=fun e=>by subst e;rw[cf] at j;cases j
 rw[aD k st e] at a;rw[aD k st q] at d;rw[bc e] at f;rw[bc q] at j;exact h.dr x r o B y b m C D a d f j;intro x i b m y a d;have e:x≠hd:=fun e=>by subst e;rw[cf] at d;cases d
 rw[aD k st e] at a;rw[bc e] at d;exact h.cy x i b m y a d;intro x o a d;by_cases e:x=hd;subst e;rw[p] at d;cases d;rw[aD k st e] at a;rw[bc e];exact h.fJ x o a d
def cM.GG{μ:Mu}{st:List (Nat×aw)}{w:World}(h:cM cx μ st w){hd:Nat}{k:aw}(c:az st hd=none)(d:ym hd st=true)(e:pinned hd=false)(f:k.cells=[])(a:k.lp=none):cM cx (lD μ hd none) ((hd,k)::st) w/\(∀b,¬cx.O st μ b->¬cx.O ((hd,k)::st) (lD μ hd none) b):=h.zj c d e fun _ _ _ _=>.nil f a
def Rel.pz{μ:Mu}{a:Act}{w:World}(h:Rel N cx μ s a w){t:Nat}(hd:Nat)(k:aw)(hg:get s.fr t=some (.val (.slice none 0 0)))(hf:fresh s hd=true)(o:k.cells=[])(i:k.lp=none):∃μ',Rel N cx μ' {fr:=(t,.aN hd k.sz 0 0)::s.fr,st:=(hd,k)::s.st,df:=s.df} a w:=by obtain⟨p,q,r,u,x⟩:=gC hf;obtain⟨z,n⟩:=h.st.GG p r (kj x) o i;refine⟨lD μ hd none,{st:=z,nd:=(h.nd.mono (Kept.refl _ _) (fun b _=>n b)).gZ (fun g hg y f=>bc fun e=>by subst e;rw[p8 u hg] at f;cases f),sz:=h.sz,fr:=fun m g c=>?_}⟩;rw[jc] at c;cases l:Nat.beq t m with|true=>(rw[l] at c;cases c;have:=ab l;subst this;obtain⟨v,j,d⟩:=h.fr t _ hg;cases d with|aG d=>cases d;exact⟨_,j,.gz hd k.sz (cf _ _ _)⟩)|false=>rw[l] at c;obtain⟨v,j,d⟩:=h.fr m g c;refine⟨v,j,(d.mono (Kept.refl _ _) (fun b _=>n b) (aH _)).gZ fun y f=>bc ?_⟩;intro e;subst e;rw[nm q c] at f;cases f
def GW.pz{c:Code}{Q:Exit->St->Prop}(t hd:Nat)(e:TypeId)(sz:Nat)(hg:get s.fr t=some (.val (.slice none 0 0)))(hf:fresh s hd=true)(h:GW P N cx c Q {fr:=(t,.aN hd sz 0 0)::s.fr,st:=(hd,⟨e,true,true,true,sz,[],none⟩)::s.st,df:=s.df}):GW P N cx c Q s:=fun _ a w b=>let ⟨μ',h'⟩:=b.pz hd ⟨e,true,true,true,sz,[],none⟩ hg hf rfl rfl;h μ' a w h'
def Nk(s:St):List (Nat×Operand)->Nat->Option (List G)|[],_=>some []|(i,x)::r,j=>match Nat.beq i j,ev s x,Nk s r (j+1) with|true,some g,some a=>some (g::a)|_,_,_=>none
def Nj{μ:Mu}{a:Act}{w:World}(h:Rel N cx μ s a w):∀(l:List (Nat×Operand)) (j:Nat) (gs:List G),Nk s l j=some gs->l.map (fun x=>(x.1,a.eval x.2))=((l.map (fun x=>a.eval x.2)).zipIdx j).map (fun x=>(x.2,x.1))/\gs.length=l.length/\∀(i:Nat) (g:G) (v:Value),gs[i]?=some g->(l.map (fun x=>a.eval x.2))[i]?=some v->(∃x,AM.ev s x=some g/\a.eval x=v)|[],_,gs,b=>by cases b;exact⟨rfl,rfl,fun i g v h=>by simp at h⟩|(i,x)::r,j,gs,b=>by simp only[Nk] at b;cases e:Nat.beq i j with|false=>rw[e] at b;cases b|true=>rw[e] at b;cases k:AM.ev s x with|none=>rw[k] at b;cases b|some g=>rw[k] at b;cases f:Nk s r (j+1) with|none=>rw[f] at b;cases b|some m=>rw[f] at b;cases b;obtain⟨o,t,p⟩:=Nj h r (j+1) m f;have:=ab e;subst this;refine⟨by simp only[bg,List.zipIdx_cons,o],by simp[t],?_⟩;intro n q v d c;cases n with|zero=>simp only[bg,jg,kB] at d c;subst d c;exact⟨x,k,rfl⟩|succ n=>simp only[bg,kD] at d c;exact p n q v d c
def rN(sz:Nat):List G->Bool|[]=>true|g::r=>G8 g&&Nat.beq (cZ g).length sz&&rN sz r
def ul{sz:Nat}:∀{gs:List G},rN sz gs=true->∀g∈gs,G8 g=true/\(cZ g).length=sz|[],_,_,h=>by cases h|g::r,h,x,a=>by simp only[rN,ag] at h;cases a with|head=>exact⟨h.1.1,ab h.1.2⟩|tail _ a=>exact ul h.2 x a
theorem uq {α β:Type}(f:α→List β) (sz:Nat) (hsz:0<sz):∀(l:List α),(∀x∈l,(f x).length=sz)→∀j,(l.flatMap f)[j]?=(l[j/sz]?).bind (fun x=>(f x)[j%sz]?)
 | [],_,j=>by simp
 | x::l,h,j=>by
  have hx:=h x au;rw[cd]
  by_cases hj:j<sz
  ·rw[ew (by omega),Nat.div_eq_of_lt hj,Nat.mod_eq_of_lt hj];rfl
  ·have h1:j/sz=(j-sz)/sz+1:=by
    conv=>lhs;rw[←Nat.sub_add_cancel (Nat.le_of_not_lt hj)]
    rw[Nat.add_div_right _ hsz]
   have h2:j%sz=(j-sz)%sz:=by
    conv=>lhs;rw[←Nat.sub_add_cancel (Nat.le_of_not_lt hj)]
    rw[Nat.add_mod_right]
   rw[fY (by omega),hx,uq f sz hsz l (fun y hy=>h y (ar _ hy)) (j-sz),h1,h2,kD]
def EF.buildSlice{t e : TypeId}{n sz : Nat}{b : Array (Nat × Operand)}{gs : List G}{z : Value}{bt : Nat}(hd : Nat)(hgs : Nk s b.toList 0 = some gs)(hn : gs.length = n)(ht : P.underlying t = some (.slice e))(hi : (P.info? e).map (fun i => (i.zero, i.size, i.bytes)) = some (some z, sz, bt))(h0 : 0 < n * sz)(q : n * sz <= 16777216)(A : rN sz gs = true)(I : fresh s hd = true):cu P W s ⟨some d, .buildSlice t n b, ty, pos, after, guard⟩ (· = { fr := (d, .aN hd sz 0 n) :: s.fr,st := (hd, ⟨e, false, true, false, sz, gs.flatMap cZ, none⟩) :: s.st,df := s.df}):=by
 refine cu.of (s1 := { fr := s.fr,st := (hd, ⟨e, false, true, false, sz, gs.flatMap cZ, none⟩) :: s.st,df := s.df}) (g := .aN hd sz 0 n) rfl (fun _ h => by cases h) ?_;intro N cx μ a w Y;obtain ⟨i, X, K⟩ := aA.1 hi;simp only [qJ] at K;obtain ⟨hz, y, hb1⟩ := K;have p : 0 < sz := by rcases jX sz with h|h;rw [h] at h0;omega;exact h
 obtain ⟨e1, e2, V⟩ := Nj Y b.toList 0 gs hgs;generalize T : b.toList.map (fun x => a.eval x.2) = f at e1 V;have J : f.length = n := by rw [<- T, aJ, <- e2, hn]
 have kW : ∀ (j : Nat) (v : Value), f[j]? = some v -> ∃ g, gs[j]? = some g /\ v.cells.size = (cZ g).length /\ (cZ g).length = sz /\ ∀ (j : Nat) (F : G), (cZ g)[j]? = some F -> ∃ u, v.cells[j]? = some u /\ aU (cx.O s.st μ) cx.base w μ F u := by intro j v O;(have m : j < gs.length := by have := (ap.1 O).1;omega);have E := af m;obtain ⟨x, R, S⟩ := V j _ v E O;obtain ⟨Q, U⟩ := ul A _ (ff m);obtain ⟨c1, c2⟩ := (Y.ev R).cells Q;rw [S] at c1 c2;exact ⟨_, E, c1, U, c2⟩
 have k : ∀ v ∈ f, v.cells.size = sz := by intro v O;obtain ⟨j, m⟩ := cF O;obtain ⟨g, _, B, H, _⟩ := kW j v m;rw [B, H]
 have D := Go.Great.fill_whole p f ((Array.range (n * sz)).map (z.cells[· % z.cells.size]!)) k (by simp [J]);have o : (b.map fun (x : Nat × Operand) => (x.1, a.eval x.2)).toList = (f.zipIdx 0).map fun x => (x.2, x.1) := by rw [iF];exact e1
 have M := Go.run_buildSlice (P := P) w t e n (b.map fun (x : Nat × Operand) => (x.1, a.eval x.2)) (f.flatMap fun v => v.cells.toList).toArray i z ht X hz (by rw [y];omega) (by rw [y];omega) (by rw [y, o];exact D);have l : (f.flatMap fun v => v.cells.toList).toArray.size = n * sz := by rw [List.size_toArray, List.length_flatMap];(have : f.map (fun v => v.cells.toList.length) = List.replicate n sz := by rw [<- J];apply List.ext_getElem;simp;intro j B H;simp only [List.getElem_map, List.getElem_replicate, cj];exact k _ (ff _));rw [this, List.sum_replicate_nat]
 have C : (gs.flatMap cZ).length = n * sz := by rw [List.length_flatMap];(have : gs.map (fun g => (cZ g).length) = List.replicate n sz := by rw [<- hn];apply List.ext_getElem;simp;intro j B H;simp only [List.getElem_map, List.getElem_replicate];exact (ul A _ (ff _)).2);rw [this, List.sum_replicate_nat]
 obtain ⟨Z, w', rfl, B, H, h3⟩ := Y.uf (k := ⟨e, false, true, false, sz, gs.flatMap cZ, none⟩) (cs := (f.flatMap fun v => v.cells.toList).toArray) I rfl (by rw [l];simp only;rw [C];exact aH _) (fun _ => by rw [l];have B : n <= n * sz := Nat.le_mul_of_pos_right n p;exact b9 sz (cL B (cL q (by decide)))) (fun j F c => by dsimp only at c;rw [uq cZ sz p gs (fun g E => (ul A g E).2) j] at c;cases r : gs[j / sz]? with|none=> rw [r] at c;cases c|some g=>rw [r] at c;simp only [aa] at c;(have m : j / sz < f.length := by have := (ap.1 r).1;omega);obtain ⟨g2, L, _, _, hc⟩ := kW (j / sz) _ (af m);rw [r] at L;cases L;obtain ⟨u, hu, hru⟩ := hc (j % sz) F c;refine ⟨u, ?_, hru⟩;rw [List.getElem?_toArray, Go.Great.flat_get p f k j, af m];exact hu) (fun _ F c => by obtain ⟨g, E, c⟩ := qf.1 c;cases hh : F.cD hd with|false=> rfl|true=>have := Ep c hh;obtain ⟨j, m⟩ := cF E;(have hjl : j < f.length := by have := (ap.1 m).1;omega);obtain ⟨x, R, _⟩ := V j g _ m (af hjl);rw [PI R (gC I).2.1] at this;cases this) W;rw [l] at H;refine ⟨_, Z, _, ?_, B, .aN hd sz 0 n _ _ n H (aH _) (by omega), h3⟩;simp [execOp, M]
end
end Go.AM
/-
 AM,part I:append.
-/
namespace Go.AM
def xP:List G->Option (List G×Bool)|[]=>some ([],true)|g::r=>match M8 g,xP r with|some (b,f),some (c,a)=>some (b::c,f&&a)|_,_=>none
def AF(st:List (Nat×aw))(sz:Nat):G->Option (List G×Nat×Bool)|.sl m c=>some (c,m,false)|.fr (.sl m c)=>some (c,m,true)|.aN d _ a m=>(match az st d with|some b=>(match b.lp with|some _=>none|none=>match b.pure with|true=>some ((b.cells.drop a).take (m*sz),m,b.fresh)|false=>match xP ((b.cells.drop a).take (m*sz)) with|some (l,f)=>some (l,m,f)|none=>none)|none=>none)|.val (.slice none 0 0)=>some ([],0,true)|_=>none
def CE:∀{gs b:List G}{f:Bool},xP gs=some (b,f)->b.length=gs.length/\∀(j:Nat) (g':G),b[j]?=some g'->∃g f',gs[j]?=some g/\M8 g=some (g',f')/\(f=true->f'=true)|[],_,_,h=>by cases h;exact⟨rfl,fun j g h=>by simp at h⟩|g::r,b,f,h=>by simp only[xP] at h;cases d:M8 g with|none=>rw[d] at h;cases h|some x=>obtain⟨p,k⟩:=x;rw[d] at h;cases c:xP r with|none=>rw[c] at h;cases h|some y=>obtain⟨q,s⟩:=y;rw[c] at h;cases h;obtain⟨l,m⟩:=CE c;refine⟨by simp[l],fun j g' a=>?_⟩;cases j with|zero=>simp only[jg,kB] at a;subst a;exact⟨g,k,rfl,d,fun h=>by simp at h;exact h.1⟩|succ j=>simp only[kD] at a|-;obtain⟨i,f',n,o,e⟩:=m j g' a;exact⟨i,f',n,o,fun h=>by simp at h;exact e h.2⟩
section
variable {P:Program}{N:Nat}{cx:Cx}{s:St}
def Rel.src{μ:Mu}{a:Act}{w:World}(hr:Rel N cx μ s a w){y:Operand}{gy:G}{m sz:Nat}{p:List G}{f:Bool}(hy:AM.ev s y=some gy)(e:AF s.st sz gy=some (p,m,f))(hl:p.length=m*sz)(z:∀g,g∈p->g.one=true):((∃o c,a.eval y=.slice o 0 c)/\m=0)\/∃(b off c:Nat) (d:List Value),a.eval y=.slice (some ⟨b,off,none⟩) m c/\d.length=m*sz/\(∀(j:Nat) (u:Value),d[j]?=some u->w.cell? ⟨b,off+j,none⟩=some u)/\(∀u∈d,u.oneCell'=true)/\(∀(j:Nat) (g:G),p[j]?=some g->∃u,d[j]?=some u/\bN (bif f then iE (cx.O s.st μ) cx.base else cx.O s.st μ) w g u)/\(∀h k H,az s.st h=some k->μ h=some (b,H)->gy.cD h=true):=by
 have I:=hr.ev hy;generalize a.eval y=v at I;have aG:∀(O:Nat->Prop) (n:Nat) (B:List G),B.length=n*sz->(∀g,g∈B->g.one=true)->bN O w (.sl n B) v->(∀b,¬O b->¬cx.O s.st μ b)->((∃o c,v=.slice o 0 c)/\n=0)\/∃(b off c:Nat) (d:List Value),v=.slice (some ⟨b,off,none⟩) n c/\d.length=n*sz/\(∀(j:Nat) (u:Value),d[j]?=some u->w.cell? ⟨b,off+j,none⟩=some u)/\(∀u∈d,u.oneCell'=true)/\(∀(j:Nat) (g:G),B[j]?=some g->∃u,d[j]?=some u/\bN O w g u)/\¬cx.O s.st μ b:=by intro O n B hl z h hO;cases h with|nil=>exact .inl ⟨⟨none,0,rfl⟩,rfl⟩|jk o c=>exact .inl ⟨⟨some o,c,rfl⟩,rfl⟩|sl _ _ b off A us hn hOb hb hc V=>refine .inr ⟨b,off,A,(List.range B.length).map us,rfl,by simp[hl],?_,?_,?_,hO b hOb⟩;intro j u q;rw[ao] at q;(cases t:(List.range B.length)[j]? with|none=>rw[t] at q;cases q|some i=>rw[t] at q;have R:=(ap.1 t).1;rw[jA] at R;rw[cN R] at t;cases t;cases q;exact hc j R);intro u q;obtain⟨j,t,rfl⟩:=eL.1 q;rw[gH] at t;exact(V j _ (af t)).one (z _ (ff t));intro j g C;have t:=(ap.1 C).1;exact⟨us j,by rw[ao,cN t];rfl,V j g C⟩
 cases gy with|sl n B=>(cases e;cases I with|aG h=>rcases aG _ _ _ hl z h (fun _ h=>h) with h|⟨b,off,c,d,h1,F,h3,U,h5,h6⟩;exact .inl h;exact .inr ⟨b,off,c,d,h1,F,h3,U,h5,fun h k H L P=>absurd (.inr (.root L P)) h6⟩)|fr g=>(cases I with|aG h=>cases h|fr h=>cases g with|sl n B=>cases e;rcases aG _ _ _ hl z h (fun _ hn ho=>hn (.inr ho)) with h|⟨b,off,c,d,h1,F,h3,U,h5,h6⟩;exact .inl h;exact .inr ⟨b,off,c,d,h1,F,h3,U,h5,fun h k H L P=>absurd (.inr (.root L P)) h6⟩|_=>cases e)|val u=>(cases I with|aG h=>cases h;cases v with|slice b n c=>(cases b with|none=>(cases n with|zero=>(cases c with|zero=>cases e;exact .inl ⟨⟨none,0,rfl⟩,rfl⟩|succ c=>cases e)|succ n=>cases e)|some b=>cases e)|_=>cases e)|aN F sz2 off n=>(simp only[AF] at e;cases X:az s.st F with|none=>rw[X] at e;cases e|some Q=>rw[X] at e;dsimp only at e;cases D:Q.lp with|some lp=>rw[D] at e;cases e|none=>rw[D] at e;dsimp only at e;(have own:∀b S A,v=.slice (some ⟨b,off,none⟩) n A->μ F=some (b,S)->(∀b off c,v=.slice (some ⟨b,off,none⟩) n c->n=m)->∃(b off c:Nat) (d:List Value),v=.slice (some ⟨b,off,none⟩) m c/\d.length=m*sz/\(∀(j:Nat) (u:Value),d[j]?=some u->w.cell? ⟨b,off+j,none⟩=some u)/\(∀u∈d,u.oneCell'=true)/\(∀(j:Nat) (g:G),p[j]?=some g->∃u,d[j]?=some u/\bN (bif f then iE (cx.O s.st μ) cx.base else cx.O s.st μ) w g u)/\(∀h k H,az s.st h=some k->μ h=some (b,H)->(G.aN F sz2 off n).cD h=true):=by intro b S A I K E;obtain rfl:=E b off A I;obtain⟨B,c1,c2,c3,c4,c6,c5⟩:=hr.own X K D;(have rd:∀(j:Nat) (g:G),p[j]?=some g->∃u,B[off+j]?=some u/\bN (bif f then iE (cx.O s.st μ) cx.base else cx.O s.st μ) w g u:=by intro j g C;cases M:Q.pure with|true=>rw[M] at e;cases e;rw[br] at C;split at C;rw[bC] at C;obtain⟨u,q,r⟩:=c5 _ g C;unfold dh at r;rw[M] at r;exact⟨u,q,r⟩;cases C|false=>rw[M] at e;dsimp only at e;cases T:xP ((Q.cells.drop off).take (n*sz)) with|none=>rw[T] at e;cases e|some x=>obtain⟨l,f0⟩:=x;rw[T] at e;cases e;obtain⟨_,U⟩:=CE T;obtain⟨g0,f',Y,e2,e3⟩:=U j g C;rw[br] at Y;split at Y;rw[bC] at Y;obtain⟨u,q,r⟩:=c5 _ g0 Y;unfold dh at r;rw[M] at r;exact⟨u,q,(CF r e2).flag e3⟩;cases Y);(have J:∀j,j<n*sz->∃u,B[off+j]?=some u/\u.oneCell'=true:=by intro j t;(have Z:j<p.length:=by omega);obtain⟨u,q,r⟩:=rd j _ (af Z);exact⟨u,q,r.one (z _ (ff Z))⟩);(have hlen:n*sz=0\/off+n*sz<=B.size:=by rcases jX (n*sz) with h|h;exact .inl h;obtain⟨u,q,_⟩:=J (n*sz-1) (by omega);have:=(ie.1 q).1;exact .inr (by omega));refine⟨b,off,A,(B.toList.drop off).take (n*sz),I,?_,?_,?_,?_,?_⟩;rw[bA,bY,cj];omega;intro j u q;rw[br] at q;split at q;rw[bC,bz] at q;rw[cell_of c1];exact q;cases q;intro u q;obtain⟨j,t⟩:=cF q;rw[br] at t;split at t;rename_i hlt;rw[bC,bz] at t;obtain⟨u',hu',ho⟩:=J j hlt;rw[t] at hu';cases hu';exact ho;cases t;intro j g C;obtain⟨u,q,r⟩:=rd j g C;(have t:j<n*sz:=by have:=(ap.1 C).1;omega);exact⟨u,by rw[br,if_pos t,bC,bz];exact q,r⟩;intro h k H L P;have:=hr.st.inj F h Q k b S H X L K P;subst this;simp[G.cD]);(have E:n=m:=by cases M:Q.pure with|true=>rw[M] at e;cases e;rfl|false=>rw[M] at e;dsimp only at e;cases T:xP ((Q.cells.drop off).take (n*sz)) with|none=>rw[T] at e;cases e|some x=>rw[T] at e;cases e;rfl);cases I with|aG h=>cases h|gz _ _ K=>exact .inl ⟨⟨none,0,rfl⟩,E.symm⟩|aN _ _ _ _ b S A K hn hc=>exact .inr (own b S A rfl K fun _ _ _ _=>E)|fD _ _ W b S K _=>subst E;refine .inr ⟨b,W,0,[],rfl,by simp,fun j u q=>by simp at q,fun u q=>(by cases q),fun j g C=>?_,?_⟩;have:=(ap.1 C).1;omega;intro h k H L P;have:=hr.st.inj F h Q k b _ H X L K P;subst this;simp[G.cD])|_=>cases e
def uo(h:Nat)(g:G):G:=bif g.cD h then .any else g
def nN(h:Nat):List (Nat×G)->List (Nat×G)|[]=>[]|(t,g)::r=>(t,uo h g)::nN h r
def gJ(h:Nat):List (Nat×aw)->List (Nat×aw)|[]=>[]|(x,k)::r=>(x,bif k.pure then k else {k with cells:=k.cells.map (uo h)})::gJ h r
def AG{h:Nat}{fr:List (Nat×G)}{t:Nat}{g:G}(hg:get (nN h fr) t=some g):∃b,get fr t=some b/\g=uo h b:=by induction fr with|nil=>cases hg|cons x r c=>obtain⟨k,d⟩:=x;simp only[nN,jc] at hg|-;cases a:Nat.beq k t with|true=>rw[a] at hg;cases hg;exact⟨d,rfl,rfl⟩|false=>rw[a] at hg;exact c hg
def dP{h:Nat}{st:List (Nat×aw)}{t:Nat}{k:aw}(hg:az (gJ h st) t=some k):∃a,az st t=some a/\k=bif a.pure then a else {a with cells:=a.cells.map (uo h)}:=by induction st with|nil=>cases hg|cons x r c=>obtain⟨y,d⟩:=x;simp only[gJ,rK] at hg|-;cases b:Nat.beq y t with|true=>rw[b] at hg;cases hg;exact⟨d,rfl,rfl⟩|false=>rw[b] at hg;exact c hg
def sG{O:Nat->Prop}{base:Nat}{w:World}{μ μ':Mu}{h:Nat}{g:G}{v:Value}(c:aU O base w μ g v)(a:∀k,k≠h->μ' k=μ k):aU O base w μ' (uo h g) v:=by unfold uo;cases d:g.cD h with|true=>exact .aG (.any _)|false=>exact c.gZ fun k b=>a k fun e=>by subst e;rw[d] at b;cases b
def WZ(h:Nat)(k:aw):aw:=bif k.pure then k else {k with cells:=k.cells.map (uo h)}
def aV.kill{O:Nat->Prop}{base:Nat}{w:World}{μ μ':Mu}{k:aw}{x:Option (Nat×Mm)}(hb:aV O base w μ k x)(h:Nat)(i:∀y,y≠h->μ' y=μ y):aV O base w μ' (WZ h k) x:=by unfold WZ;cases o:k.pure with|true=>exact hb.gZ fun l=>by rw[o] at l;cases l|false=>simp only[cond_false];cases x with|none=>obtain⟨q,f⟩:=hb;refine⟨by simp[q],?_⟩;dsimp only;split at f;trivial;exact f.elim;rw[o] at f;cases f.2|some B=>obtain⟨b,m⟩:=B;cases n:k.lp with|none=>(obtain⟨p,z,u,C,E,F,G⟩:=hb.cells n;refine .mk rfl (hb.nv n) ⟨p,z,u,by simpa using C,E,F,fun j g c=>?_⟩;dsimp only at c;rw[ao] at c;cases a:k.cells[j]? with|none=>rw[a] at c;cases c|some s=>rw[a] at c;cases c;obtain⟨v,r,e⟩:=G j s a;refine⟨v,r,?_⟩;unfold dh at e|-;rw[o] at e;simp only;exact sG e i)|some H=>cases H with|deep d=>have:=((aV.deep n).1 hb).2.1;rw[o] at this;cases this|loop K=>obtain⟨D,I,q,f,J,z,u⟩:=(aV.loop n).1 hb;refine(aV.loop rfl).2 ⟨D,I,q,f,J,rfl,fun j t g A c=>?_⟩;dsimp only at c;rw[ao] at c;cases a:k.cells[j]? with|none=>rw[a] at c;cases c|some s=>rw[a] at c;cases c;obtain⟨v,r,e⟩:=u j t s A a;exact⟨v,r,sG e i⟩
def Rel.SF{μ : Mu}{a : Act}{w w' : World}(l : Rel N cx μ s a w){h : Nat}{k k' : aw}{C S : Nat}{I : Array Value}(z : az s.st h = some k)(p : (∃ m, μ h = some (C, m)) \/ w.heap.size <= C)(U : w'.heap[C]? = some (.cells I k'.bP (0, 0)))(hs : I.size = S)(D : w.heap.size <= w'.heap.size)(r : ∀ b, b < w.heap.size -> (∀ m, μ h ≠ some (b, m)) -> w'.heap[b]? = w.heap[b]?)(hos : w'.os = w.os)(L : w'.tape = w.tape)(Z : w'.output = w.output)(B : k'.eC = true -> k.eC = true)(M : k'.pure = true)(hl : k'.cells.length <= S)(hbt : k'.sz ≠ 0 -> S <= maxLen * k'.sz)(hc : ∀ (j : Nat) (g : G), k'.cells[j]? = some g -> ∃ v, I[j]? = some v /\ dh (cx.O s.st μ) cx.base w μ k' g v)(W : List Nat)(hW : W.contains h = true)(hlp : k'.lp = none)(hpn : pinned h = false)(hdf : qE h s.df = true):Rel N cx (lD μ h (some (C, S, []))) { fr := nN h s.fr,st := (h, k') :: gJ h s.st,df := s.df} a w' /\ Step W s.st μ ((h, k') :: gJ h s.st) (lD μ h (some (C, S, []))) w w':=by
 have hO : ∀ b, b < w.heap.size -> ¬ cx.O s.st μ b -> ¬ cx.O ((h, k') :: gJ h s.st) (lD μ h (some (C, S, []))) b := by intro b T R ho;rcases ho with ho|⟨x, q, c, m, d, f, V⟩;exact R (.inl ho);by_cases e : x = h;subst e;rw [cf] at f;cases f;obtain rfl := In.plain.1 V;rcases p with ⟨E, i⟩|i;exact R (.inr (.root z i));omega;rw [aD _ _ e] at d;rw [bc e] at f;obtain ⟨o, i, _⟩ := dP d;exact R (.inr ⟨x, o, c, m, i, f, V⟩)
 have n : Kept (cx.O s.st μ) w w' := ⟨D, fun b T R => r b T fun m u => R (.inr (.root z u))⟩;have X : ∀ x q b m y, az s.st x = some q -> μ x = some (b, m) -> In y b m -> y < w.heap.size := fun x q b m y d f i => (l.st.cy x q b m y d f i).2.2.1;have J : ∀ x q b m, x ≠ h -> az s.st x = some q -> μ x = some (b, m) -> ¬ In C b m := by intro x q b m hne d f e;rcases p with ⟨E, i⟩|i;exact hne (l.st.dr x h q k C b m C E d z f i e (.self _ _));have := X x q b m C d f e;omega
 refine ⟨{ st := { ez := ?_,dr := ?_,cy := ?_,fJ := ?_,fq := l.st.fq,hb := cL l.st.hb D,os := hos.trans l.st.os,tape := L.trans l.st.tape,output := Z.trans l.st.output,gl := l.st.gl,dB := ?_},nd := (l.nd.mono n hO).gZ (fun g Y y O => bc fun e => by subst e;rw [p8 hdf Y] at O;cases O),sz := l.sz,fr := ?_}, ?_⟩;intro x q d;by_cases e : x = h;subst e;rw [dY] at d;cases d;rw [cf];refine .mk hlp rfl ⟨I, U, hs, hl, fun hmn => ?_, hbt, fun j g Y => ?_⟩;rcases p with ⟨E, i⟩|i;have H := l.st.ez x k z;rw [i] at H;exact H.heap.2 (B hmn);have := l.st.hb;omega;obtain ⟨v, hv, Q⟩ := hc j g Y;exact ⟨v, hv, (Q.mono n hO).gZ fun hp => by rw [M] at hp;cases hp⟩;rw [aD _ _ e] at d;rw [bc e];obtain ⟨o, f, rfl⟩ := dP d;exact ((l.st.ez x o f).mono (fun b m u y O => r y (X x o b m y f u O) fun E hm0 => e (l.st.dr x h o k y b m y E f z u hm0 O (.self _ _))) n hO).kill h fun y O => bc O;intro x x' q k2 y b m b2 m2 d f i H F P;by_cases e : x = h;by_cases e' : x' = h;rw [e, e'];subst e;rw [cf] at i;cases i;rw [bc e'] at H;rw [aD _ _ e'] at f;obtain ⟨o, A, _⟩ := dP f;exact absurd (In.plain.1 F ▸ P) (J x' o _ m2 e' A H);by_cases e' : x' = h;subst e';rw [cf] at H;cases H;rw [bc e] at i;rw [aD _ _ e] at d;obtain ⟨o, A, _⟩ := dP d;exact absurd (In.plain.1 P ▸ F) (J x o _ m e A i);rw [bc e] at i;rw [bc e'] at H;rw [aD _ _ e] at d;rw [aD _ _ e'] at f;obtain ⟨o, A, _⟩ := dP d;obtain ⟨k0', h5', _⟩ := dP f;exact l.st.dr x x' o k0' y b m b2 m2 A h5' i H F P;intro x q b m y d f F;by_cases e : x = h;subst e;rw [cf] at f;cases f;obtain rfl := In.plain.1 F;have K : y < w'.heap.size := dT U;rcases p with ⟨E, i⟩|i;obtain ⟨a1, a2, _, a4⟩ := l.st.cy x k _ E _ z i (.self _ _);exact ⟨a1, a2, K, fun u => a4 (B (by rw [dY] at d;cases d;exact u))⟩;have := l.st.hb;exact ⟨fun hx => by have := l.st.fq _ hx;omega, .inl (by omega), K, fun _ => by omega⟩;rw [aD _ _ e] at d;rw [bc e] at f;obtain ⟨o, A, rfl⟩ := dP d;obtain ⟨a1, a2, a3, a4⟩ := l.st.cy x o b m y A f F;exact ⟨a1, a2, cO a3 D, fun u => a4 (by cases hp : o.pure <;> simp only [hp] at u <;> exact u)⟩;intro x q d f;by_cases e : x = h;subst e;rw [hpn] at f;cases f;rw [aD _ _ e] at d;rw [bc e];obtain ⟨o, A, _⟩ := dP d;exact l.st.fJ x o A f;intro b T hA;rw [r b (by have := l.st.hb;omega) fun m u => ?_];exact l.st.dB b T hA;obtain ⟨_, d⟩ := l.st.out h k b m z u;rcases d with d|d;omega;exact hA d;intro t g Y;obtain ⟨g0, d, rfl⟩ := AG Y;obtain ⟨v, hv, Q⟩ := l.fr t g0 d;exact ⟨v, hv, sG (Q.mono n hO (aH _)) fun k z => bc z⟩;refine ⟨D, fun b T R => r b T fun m u => R.ne h k m (by simpa using hW) z u, fun x q b m y hw d f F => ?_⟩;by_cases e : x = h;subst e;rw [cf] at f;cases f;obtain rfl := In.plain.1 F;rcases p with ⟨E, i⟩|i;exact .inl ⟨x, k, y, E, hw, z, i, .self _ _⟩;exact .inr i;rw [aD _ _ e] at d;rw [bc e] at f;obtain ⟨o, A, _⟩ := dP d;exact .inl ⟨x, o, b, m, hw, A, f, F⟩
end
end Go.AM
/-
 AM,part J:append,the operation.
-/
namespace Go.AM
section
variable {P:Program}{N:Nat}{cx:Cx}{s:St}
def Rel.kill{μ:Mu}{a:Act}{w:World}(d:Rel N cx μ s a w)(h:Nat):Rel N cx μ {fr:=nN h s.fr,st:=gJ h s.st,df:=s.df} a w:=by
 have u:∀b,¬cx.O s.st μ b->¬cx.O (gJ h s.st) μ b:=by rintro b A (D|⟨x,l,c,m,e,i,o⟩);exact A (.inl D);obtain⟨f,n,_⟩:=dP e;exact A (.inr ⟨x,f,c,m,n,i,o⟩)
 refine {st:={ez:=?_,dr:=?_,cy:=?_,fJ:=?_,fq:=d.st.fq,hb:=d.st.hb,os:=d.st.os,tape:=d.st.tape,output:=d.st.output,gl:=d.st.gl,dB:=d.st.dB},nd:=d.nd.mono (Kept.refl _ _) (fun b _=>u b),sz:=d.sz,fr:=?_};intro x l e;obtain⟨f,i,rfl⟩:=dP e;exact((d.st.ez x f i).mono (fun _ _ _ _ _=>rfl) (Kept.refl _ _) (fun b _=>u b)).kill h fun _ _=>rfl;intro x E l L y b m B I e i n C;obtain⟨f,j,_⟩:=dP e;obtain⟨p,q,_⟩:=dP i;exact d.st.dr x E f p y b m B I j q n C;intro x l b m y e i;obtain⟨f,j,rfl⟩:=dP e;exact fun o=>let ⟨a1,a2,a3,a4⟩:=d.st.cy x f b m y j i o;⟨a1,a2,a3,fun z=>a4 (by cases H:f.pure <;> simp only[H] at z <;> exact z)⟩;intro x l e i;obtain⟨f,j,_⟩:=dP e;exact d.st.fJ x f j i;intro t g F;obtain⟨G,e,rfl⟩:=AG F;obtain⟨v,J,r⟩:=d.fr t G e;exact⟨v,J,sG (r.mono (Kept.refl _ _) (fun b _=>u b) (aH _)) fun k K=>rfl⟩
def Rel.WO{μ:Mu}{a:Act}{w:World}(i:Rel N cx μ s a w){h:Nat}{k k':aw}(I:az s.st h=some k)(S:k'.bP=k.bP)(W:k'.pure=k.pure)(o:k'.eC=true->k.eC=true)(hf:k'.fresh=true->k.fresh=true)(L:k'.sz=k.sz)(J:k'.cells=k.cells)(A:k.lp=none)(r:k'.lp=none):Rel N cx μ {fr:=s.fr,st:=(h,k')::s.st,df:=s.df} a w:=by
 have p:∀x l,az ((h,k')::s.st) x=some l->∃z,az s.st x=some z:=by intro x l d;by_cases e:x=h;subst e;exact⟨k,I⟩;rw[aD _ _ e] at d;exact⟨l,d⟩
 have G:∀b,¬cx.O s.st μ b->¬cx.O ((h,k')::s.st) μ b:=by rintro b R (V|⟨x,l,c,m,d,q,F⟩);exact R (.inl V);obtain⟨z,n⟩:=p x l d;exact R (.inr ⟨x,z,c,m,n,q,F⟩)
 refine {st:={ez:=?_,dr:=?_,cy:=?_,fJ:=?_,fq:=i.st.fq,hb:=i.st.hb,os:=i.st.os,tape:=i.st.tape,output:=i.st.output,gl:=i.st.gl,dB:=i.st.dB},nd:=i.nd.mono (Kept.refl _ _) (fun b _=>G b),sz:=i.sz,fr:=?_};intro x l d;by_cases e:x=h;subst e;rw[dY] at d;cases d;have n:=i.st.ez x k I;cases D:μ x with|none=>rw[D] at n;obtain⟨n,_⟩:=n;exact .nil (by rw[J];exact n) r|some U=>obtain⟨b,m⟩:=U;rw[D] at n;obtain⟨H,K,C,X,Y,h8,h9⟩:=n.cells A;refine .mk r (n.nv A) ⟨H,by rw[S];exact K,C,by rw[J];exact X,fun h=>Y (o h),by rw[L];exact h8,fun j g E=>?_⟩;rw[J] at E;obtain⟨v,O,u⟩:=h9 j g E;refine⟨v,O,?_⟩;have f:=u.mono (Kept.refl _ _) fun b _=>G b;unfold dh at f|-;rw[W];cases B:k.pure with|true=>rw[B] at f;exact f.flag hf|false=>rw[B] at f;exact f
 rw[aD _ _ e] at d;exact(i.st.ez x l d).mono (fun _ _ _ _ _=>rfl) (Kept.refl _ _) (fun b _=>G b);intro x Q l Z y b m b2 m2 d q n K;obtain⟨z,C⟩:=p x l d;obtain⟨M,P⟩:=p Q Z q;exact i.st.dr x Q z M y b m b2 m2 C P n K;intro x l b m y d q;intro F;by_cases e:x=h;subst e;rw[dY] at d;cases d;obtain⟨a1,a2,a3,T⟩:=i.st.cy x k b m y I q F;exact⟨a1,a2,a3,fun D=>T (o D)⟩;rw[aD _ _ e] at d;exact i.st.cy x l b m y d q F;intro x l d q;obtain⟨z,C⟩:=p x l d;exact i.st.fJ x z C q;intro t g E;obtain⟨v,O,u⟩:=i.fr t g E;exact⟨v,O,u.mono (Kept.refl _ _) (fun b _=>G b) (aH _)⟩
def wu{h x:Nat}{st:List (Nat×aw)}{k:aw}(a:az st x=some k)(c:k.pure=true):az (gJ h st) x=some k:=by induction st with|nil=>cases a|cons y r d=>obtain⟨z,e⟩:=y;simp only[gJ,rK] at a|-;cases b:Nat.beq z x with|true=>rw[b] at a;cases a;simp[c]|false=>rw[b] at a;exact d a
variable {ty:TypeId}{pos:String}{after:Array Edge}{guard:Option (Nat×Bool)}{W:List Nat}{d:Nat}
def ER(w:World)(t ty e:TypeId)(i:TypeInfo)(ht:P.underlying t=some (.slice e))(hi:P.info? e=some i)(b:Option Addr)(n c:Nat)(hn:n<=c)(d:Option Addr)(g:Nat):(Builtin.append_ #[t,t] ty #[.slice b n c,.slice d 0 g]).run P w=.ok (.slice b n c) w:=by
 have f:(Builtin.firstCells i.size 0 (.slice d 0 g)).run P w=.ok #[] w:=by cases d with|none=>simp[Builtin.firstCells]|some a=>simp[Builtin.firstCells,loadCells,loadCellsFrom]
 cases b with|none=>simp[Builtin.append_,run_underlying ht,sizeOf,typeInfo,hi,Builtin.lenOf,hn,f]|some a=>simp[Builtin.append_,run_underlying ht,sizeOf,typeInfo,hi,Builtin.lenOf,hn,f,storeCells]
def EF.append{t e : TypeId}{x y : Operand}{h sz n bt m : Nat}{k : aw}{gy : G}{o : List G}{f : Bool}{z : Value}(hx : ev s x = some (.aN h sz 0 n))(hy : ev s y = some gy)(hk : az s.st h = some k)(hp : k.pure = true)(hety : k.bP = e)(hksz : k.sz = sz)(S : k.cells.length = n * sz)(hsrc : AF s.st sz gy = some (o, m, f))(U : o.length = m * sz)(hone : ∀ g, g ∈ o -> g.one = true)(hap : gy.cD h = false)(ht : P.underlying t = some (.slice e))(hi : (P.info? e).map (fun i => (i.zero, i.size, i.bytes)) = some (some z, sz, bt))(hzs : z.cells.size = sz)(hsz : 0 < sz)(u5 : n + m <= maxLen)(C : (n + m) * bt <= 140737488355328)(hW : W.contains h = true)(hlp : k.lp = none := by rfl)(hpn : pinned h = false := by rfl)(hdf : qE h s.df = true := by rfl):cu P W s ⟨some d, .call ⟨.builtin .append, #[x, y], #[t, t]⟩, ty, pos, after, guard⟩ (· = { fr := (d, .aN h sz 0 (n + m)) :: nN h s.fr,st := (h, { k with fresh := k.fresh && f,cells := k.cells ++ o}) :: gJ h s.st,df := s.df}):=by
 subst hety hksz;refine ⟨(fun _ h => by cases h), ?_⟩;intro N cx J a w hr hN K Q hK;obtain ⟨i, V, hi2⟩ := aA.1 hi;simp only [qJ] at hi2;obtain ⟨hz, L, hb1⟩ := hi2;have E : (a.eval x = .slice none 0 0 /\ n = 0 /\ J h = none /\ k.cells = []) \/∃ b c H T, a.eval x = .slice (some ⟨b, 0, none⟩) n c /\ n <= c /\ J h = some (b, H) /\ c * k.sz = H.1 /\ w.heap[b]? = some (.cells T k.bP (0, 0)) /\ T.size = H.1 /\ H.1 <= maxLen * k.sz /\∀ (j : Nat) (g : G), k.cells[j]? = some g -> ∃ v, T[j]? = some v /\ dh (cx.O s.st J) cx.base w J k g v := by have E := hr.ev hx;generalize a.eval x = v at E;cases E with|aG h=> cases h|gz _ _ M=>have := hr.st.ez h k hk;rw [M] at this;exact .inl ⟨rfl, rfl, M, this.1⟩|aN _ _ _ _ b H c M hn hc=>obtain ⟨T, A, p, h3, h4, h5, h6⟩ := hr.own hk M hlp;exact .inr ⟨b, c, H, T, rfl, hn, M, by omega, A, p, h5 (by omega), h6⟩|fD _ _ off0 b _ M Y=> exact absurd Y (nh _)
 have idle : ∀ (b2 : Option Addr) (Z : Nat), m = 0 -> a.eval y = .slice b2 0 Z -> (Oper.wp P ⟨some d, .call ⟨.builtin .append, #[x, y], #[t, t]⟩, ty, pos, after, guard⟩ a w K Q) := by intro b2 Z R hyv;subst R;have hnil : o = [] := bu (by simpa using U);subst hnil;(have hxv : ∃ b n' c, a.eval x = .slice b n c /\ n <= c /\ n' = n /\ aU (cx.O s.st J) cx.base w J (.aN h k.sz 0 n) (.slice b n c) := by have hv' := hr.ev hx;rcases E with ⟨A, p, _⟩|⟨b, c, H, T, A, p, _⟩;subst p;rw [A] at hv' |-;exact ⟨none, 0, 0, rfl, aH _, rfl, hv'⟩;rw [A] at hv' |-;exact ⟨_, n, c, rfl, p, rfl, hv'⟩);obtain ⟨b, n', c, A, p, rfl, h3⟩ := hxv;have l := ER (P := P) w t ty k.bP i ht V b n' c p b2 Z;unfold Oper.wp;(have : (execOp a.eval ⟨some d, .call ⟨.builtin .append, #[x, y], #[t, t]⟩, ty, pos, after, guard⟩).run P w = .ok (.value (.slice b n' c)) w := by simp only [execOp, resolve, invoke, builtin, Sem.run_bind, Sem.run_pure, Result.andThen_ok, List.map_toArray, bg, sc, A, hyv, l]);rw [this];have hk2 := wu (h := h) hk hp;have D := (hr.kill h).WO (k' := { k with fresh := k.fresh && f,cells := k.cells ++ []}) hk2 rfl rfl id (fun h => by simp at h;exact h.1) rfl (by simp) hlp hlp;refine hK J _ _ w (D.put (d := d) (g := .aN h k.sz 0 (n' + 0)) (hN d rfl) ?_) rfl ?_;(have h4 : aU (cx.O ((h, { k with fresh := k.fresh && f,cells := k.cells ++ []}) :: gJ h s.st) J) cx.base w J (.aN h k.sz 0 n') (.slice b n' c) := by cases h3 with|aG h=> cases h|gz _ _ M=> exact .gz _ _ M|aN _ _ _ _ b H c M hn hc=> exact .aN _ _ _ _ b H c M hn hc|fD _ _ off0 b _ M Y=> exact .fD _ _ off0 b _ M Y);exact h4;refine ⟨aH _, fun _ _ _ => rfl, fun x k1 c1 m1 b1 hw A p hi => ?_⟩;by_cases e : x = h;subst e;exact .inl ⟨x, k, c1, m1, hw, hk, p, hi⟩;(have h1' : az (gJ h s.st) x = some k1 := by rw [<- aD _ _ e];exact A);obtain ⟨k0, h5, _⟩ := dP h1';exact .inl ⟨x, k0, c1, m1, hw, h5, p, hi⟩
 rcases hr.src hy hsrc U hone with ⟨⟨o2, Z, A⟩, p⟩|⟨b2, F, Z, r, e1, e2, e3, e4, e5, e6⟩;exact idle o2 Z p A;rcases jX m with R|R;subst R;exact idle _ Z rfl e1;have B : ∀ j u, r[j]? = some u -> w.cell? ((⟨b2, F, none⟩ : Addr).add j) = some u := fun j u hu => by rw [Addr.lK];exact e3 j u hu
 have hown : ∃ v xs, a.eval x = v /\ w.ownsRow 0 k.bP k.sz v n xs /\ (∀ (j : Nat) (g : G), k.cells[j]? = some g -> ∃ v, xs[j]? = some v /\ dh (cx.O s.st J) cx.base w J k g v) := by rcases E with ⟨A, p, h3, h4⟩|⟨b, c, H, T, A, p, h3, h4, h6, h7, h8, h9⟩;subst p;exact ⟨_, [], A, World.ownsRow_nil w 0 k.bP k.sz, fun j g hg => by rw [h4] at hg;simp at hg⟩;refine ⟨_, T.toList.take (n * k.sz), A, ⟨?_, .inr ⟨b, c, T, rfl, iO _, h6, p, ?_, by rw [h7, h4], rfl⟩⟩, fun j g hg => ?_⟩;rw [bA, cj, h7, <- h4];exact iX (b9 _ p);rw [<- h4] at h8;exact Nat.le_of_mul_le_mul_right h8 hsz;obtain ⟨v, E, I⟩ := h9 j g hg;(have hj : j < n * k.sz := by have := (ap.1 hg).1;omega);exact ⟨v, by rw [br, if_pos hj, bz];exact E, I⟩
 obtain ⟨v, xs, A, p, h5⟩ := hown;have law := run_append_own (P := P) w 0 t ty k.bP i z k.sz bt ht V hz L hb1 hzs hsz v n xs p ⟨b2, F, none⟩ m Z r e2 B e4 u5 C (iO _);rw [<- A, <- e1] at law;obtain ⟨v', w', l, ho, q, _⟩ := law;have hblock : ∃ g c, v' = .slice (some ⟨g, 0, none⟩) (n + m) c /\ ((∃ H, J h = some (g, H)) \/ w.heap.size <= g) := by (have hmm : n + m <= 9223372036854775807 := by unfold maxLen at u5;omega);rcases E with ⟨X, q2, q3, q4⟩|⟨b, c, H, T, X, q2, q3, q4, q6, q7, q8, q9⟩;subst q2;have D := run_append_nil (P := P) w t ty k.bP i z ht V hz ⟨b2, F, none⟩ m Z r (by rw [L];exact e2) B R (by omega) (by rw [hb1];simp only [dl] at C;omega);rw [X, e1, D] at l;injection l with r1 r2;exact ⟨_, _, by rw [<- r1, dl], .inr (aH _)⟩;rcases p.2 with ⟨q10, q11⟩|⟨g, cap', cur, q10, _, q12, q13, q14, q15, q16⟩;rw [<- A, X] at q10;cases q10;rw [<- A, X] at q10;cases q10;by_cases hroom : n + m <= c;(have hfit : n * i.size + r.length <= cur.size := by rw [e2, L, q15, <- fp];exact b9 _ hroom);have D := run_append_room (P := P) w t ty k.bP i ht V b n c cur q12 ⟨b2, F, none⟩ m Z r (by rw [L];exact e2) B e4 hroom hfit;rw [X, e1, D] at l;injection l with r1 r2;exact ⟨_, _, r1.symm, .inl ⟨H, q3⟩⟩;have holds := p.cells (g := b) (by rw [<- A, X];rfl);have D := run_append_grow (P := P) w t ty k.bP i z ht V hz ⟨b, 0, none⟩ n c xs (by rw [L];exact p.1) holds ⟨b2, F, none⟩ m Z r (by rw [L];exact e2) B (by omega) (by omega) (growslice_fits (by omega) (by rw [hb1];exact C));rw [X, e1, D] at l;injection l with r1 r2;exact ⟨_, _, r1.symm, .inr (aH _)⟩
 have hoth : ∀ b, b < w.heap.size -> (∀ m, J h ≠ some (b, m)) -> w'.heap[b]? = w.heap[b]? := by intro b hb' hn;refine q.block b hb' fun e => ?_;rcases E with ⟨X, q2, q3, q4⟩|⟨b', c, H, T, X, q2, q3, q4, q6, q7, q8, q9⟩;rw [X] at e;cases e;rw [X] at e;cases e;exact hn H q3
 obtain ⟨g, c, rfl, hg⟩ := hblock;obtain ⟨ho1, ho2⟩ := ho;rcases ho2 with ⟨ho2, _⟩|⟨g', cap', cur, ho2, _, hcur, hnc, hcm, hcs, htake⟩;cases ho2;cases ho2;have hxl := p.1;have kW : ∀ (j : Nat) (v : Value), (xs ++ r)[j]? = some v -> cur[j]? = some v := by intro j v E;rw [<- htake, br] at E;split at E;rw [bz] at E;exact E;cases E
 have hle : (n + m) * k.sz <= c * k.sz := b9 _ hnc;obtain ⟨D, hst⟩ := hr.SF (k' := { k with fresh := k.fresh && f,cells := k.cells ++ o}) hk hg hcur rfl q.size hoth q.os q.tape q.output id hp (by dsimp only;rw [aK, S, U, <- fp, hcs];exact hle) (fun _ => by dsimp only;rw [hcs];exact b9 _ hcm) (by intro j g' O;dsimp only at O;rw [bZ] at O;split at O;obtain ⟨v, E, I⟩ := h5 j g' O;refine ⟨v, kW j v ?_, ?_⟩;rw [ew (by omega)];exact E;unfold dh at I |-;dsimp only;rw [hp] at I |-;(exact I.flag fun h => by simp at h;exact h.1);rename_i hj;obtain ⟨v, E, I⟩ := e5 _ g' O;refine ⟨v, kW j v ?_, ?_⟩;rw [fY (by omega), hxl, <- S];exact E;unfold dh;dsimp only;rw [hp];exact I.flag fun h => by simp at h;exact h.2) W hW hlp hpn hdf;unfold Oper.wp;have : (execOp a.eval ⟨some d, .call ⟨.builtin .append, #[x, y], #[t, t]⟩, ty, pos, after, guard⟩).run P w = .ok (.value (.slice (some ⟨g, 0, none⟩) (n + m) c)) w' := by simp only [execOp, resolve, invoke, builtin, Sem.run_bind, Sem.run_pure, Result.andThen_ok, List.map_toArray, bg, sc, l]
 rw [this];refine hK _ _ _ w' (D.put (d := d) (g := .aN h k.sz 0 (n + m)) (hN d rfl) ?_) rfl hst;exact .aN _ _ _ _ _ _ c (cf _ _ _) hnc (by rw [hcs];omega)
end
end Go.AM
/-
 AM,part K:contracts of functions;results;calls.
-/
namespace Go.AM
def oX:List G->Nat->List (Nat×G)|[],_=>[]|g::r,j=>(j,g)::oX r (j+1)
def En:∀{gs:List G}{j t:Nat}{g:G},get (oX gs j) t=some g->j<=t/\gs[t-j]?=some g|[],_,_,_,h=>by cases h|x::r,j,t,g,h=>by simp only[oX,jc] at h;cases a:Nat.beq j t with|true=>rw[a] at h;cases h;have:=ab a;subst this;simp|false=>rw[a] at h;obtain⟨d,c⟩:=En (gs:=r) h;(have b:t≠j:=fun e=>by subst e;rw[aW] at a;cases a);refine⟨by omega,?_⟩;(have:t-j=(t-(j+1))+1:=by omega);rw[this,kD];exact c
def jl(X:Nat->Prop)(st:List (Nat×aw))(μ:Mu)(w:World):Cx:=⟨X,Own st μ,w.heap.size,w,none,μ⟩
def F7(X:Nat->Prop)(st:List (Nat×aw))(μ:Mu)(w:World)(Q:G->List (Nat×aw)->Prop)(Qp:List PanicEntry->List (Nat×aw)->Prop)(e:Ending)(w':World):Prop:=(∃v r a b,e=.returned v/\Q r a/\cM (jl X st μ w) b a w'/\aU ((jl X st μ w).O a b) w.heap.size w' b r v)\/(∃c a b,e=.panicked c/\Qp c a/\cM (jl X st μ w) b a w')
def GP(P:Program)(f:FuncId)(args:List G)(st:List (Nat×aw))(Q:G->List (Nat×aw)->Prop)(Qp:List PanicEntry->List (Nat×aw)->Prop):Prop:=∀(X:Nat->Prop) (a:Mu) (w:World) (c:List Value),(∀b,X b->b<w.heap.size)->cM (jl X st a w) a st w->c.length=args.length->(∀(j:Nat) (g:G) (v:Value),args[j]?=some g->c[j]?=some v->aU ((jl X st a w).O st a) w.heap.size w a g v)->Calls P f c.toArray w (F7 X st a w Q Qp)
def GM(P:Program)(f:FuncId)(args:List G)(st:List (Nat×aw))(Q:G->List (Nat×aw)->Prop):Prop:=GP P f args st Q fun _ _=>False
def F7.mono{X:Nat->Prop}{st:List (Nat×aw)}{μ:Mu}{w:World}{Q Q':G->List (Nat×aw)->Prop}{Qp d:List PanicEntry->List (Nat×aw)->Prop}{e:Ending}{w':World}(h:F7 X st μ w Q Qp e w')(j:∀r st,Q r st->Q' r st)(k:∀c st,Qp c st->d c st):F7 X st μ w Q' d e w':=by rcases h with ⟨v,r,b,a,f,g,i⟩|⟨c,b,a,f,g,i⟩;exact .inl ⟨v,r,b,a,f,j _ _ g,i⟩;exact .inr ⟨c,b,a,f,k _ _ g,i⟩
def GP.mono{P:Program}{f:FuncId}{args:List G}{st:List (Nat×aw)}{Q Q':G->List (Nat×aw)->Prop}{Qp a:List PanicEntry->List (Nat×aw)->Prop}(h:GP P f args st Q Qp)(d:∀r st,Q r st->Q' r st)(e:∀c st,Qp c st->a c st):GP P f args st Q' a:=fun X g w i j k l m=>(h X g w i j k l m).mono fun _ _ b=>b.mono d e
def GM.mono{P:Program}{f:FuncId}{args:List G}{st:List (Nat×aw)}{Q Q':G->List (Nat×aw)->Prop}(h:GM P f args st Q)(a:∀r st,Q r st->Q' r st):GM P f args st Q':=GP.mono h a fun _ _ h=>h
def GM.returned{P:Program}{f:FuncId}{args:List G}{st:List (Nat×aw)}{Q:G->List (Nat×aw)->Prop}(h:GM P f args st Q)(X:Nat->Prop)(μ:Mu)(w:World)(vs:List Value)(h1:∀b,X b->b<w.heap.size)(h2:cM (jl X st μ w) μ st w)(c:vs.length=args.length)(d:∀(j:Nat) (g:G) (v:Value),args[j]?=some g->vs[j]?=some v->aU ((jl X st μ w).O st μ) w.heap.size w μ g v):Calls P f vs.toArray w fun e w'=>∃v r st' μ',e=.returned v/\Q r st'/\cM (jl X st μ w) μ' st' w'/\aU ((jl X st μ w).O st' μ') w.heap.size w' μ' r v:=(h X μ w vs h1 h2 c d).mono fun _ _ a=>a.elim id fun ⟨_,_,_,_,h,_⟩=>h.elim
def yZ (a:Act):ResultVar→Sem Value
 | .tmp t=>pure (a.tmps.getD t undef)
 | .cell b t=>do loadVar t (←asAddr (a.tmps.getD b undef))
def uZ(P:Program)(s:St)(d:ResultVar)(g:G):Prop:=∀(N:Nat) (c:Cx) (b:Mu) (a:Act) (w:World),Rel N c b s a w->∃v,aU (c.O s.st b) c.base w b g v/\(yZ a d).run P w=.ok v w
def Du(P:Program)(s:St):List ResultVar->List G->Prop|[],[]=>True|b::r,g::a=>uZ P s b g/\Du P s r a|_,_=>False
def pack:List G->G|[g]=>g|a=>.bE a
section
variable {P:Program}{N:Nat}{cx:Cx}{s:St}
def uZ.tmp{t:Nat}{g:G}(h:get s.fr t=some g):uZ P s (.tmp t) g:=fun _ _ _ a w c=>by obtain⟨v,d,b⟩:=c.fr t g h;exact⟨v,b,by simp[yZ,d]⟩
def uZ.cell{b t h off:Nat}{k:aw}{g g':G}(hb:get s.fr b=some (.loc h off))(r:az s.st h=some k)(hg:k.cells[off]?=some g)(d:∀w,(isAgg t).run P w=.ok false w)(ho:k.out g=g')(e:k.lp=none:=by rfl):uZ P s (.cell b t) g':=fun N p q a w f=>by have y := YL.load (P := P) (W := []) (dst := none) (ty := 0) (pos := "") (after := #[]) (guard := none) (x := .tmp b) (s := s) hb r hg d rfl ho e;obtain⟨v,o,c⟩:=y N p q a w f;have c:=c w (aH _) fun _ _ _=>rfl;obtain⟨j,m,i,z⟩:=Rel.loc f (x:=.tmp b) hb;refine⟨v,o,?_⟩;have u:a.tmps.getD b undef=.pointer (some ⟨j,off,none⟩):=i;simp only[execOp,Instr.loadAt,Instr.sureAddr,i,Sem.run_bind,Sem.run_pure,Result.andThen_ok] at c;simp only[yZ,u,asAddr,Sem.run_bind,Sem.run_pure,Result.andThen_ok];cases l:(loadVar t ⟨j,off,none⟩).run P w with|ok x n=>rw[l] at c;simp at c;rw[c.1,c.2]|halt x n=>rw[l] at c;cases c
def uZ.Yn{b t h off sz:Nat}{k:aw}(hb:get s.fr b=some (.loc h off))(o:az s.st h=some k)(r:k.pure=false)(f:∀w,(isAgg t).run P w=.ok true w)(e:∀w,(sizeOf t).run P w=.ok sz w)(d:off+sz<=k.cells.length)(g:k.lp=none:=by rfl):uZ P s (.cell b t) (.agg ((k.cells.drop off).take sz)):=fun N u y a w i=>by have p := YL.Pg (P := P) (W := []) (dst := none) (ty := 0) (pos := "") (after := #[]) (guard := none) (x := .tmp b) (s := s) hb o r f e d rfl g;obtain⟨v,q,c⟩:=p N u y a w i;have c:=c w (aH _) fun _ _ _=>rfl;obtain⟨l,m,j,A⟩:=Rel.loc i (x:=.tmp b) hb;refine⟨v,q,?_⟩;have z:a.tmps.getD b undef=.pointer (some ⟨l,off,none⟩):=j;simp only[execOp,Instr.loadAt,Instr.sureAddr,j,Sem.run_bind,Sem.run_pure,Result.andThen_ok] at c;simp only[yZ,z,asAddr,Sem.run_bind,Sem.run_pure,Result.andThen_ok];cases d:(loadVar t ⟨l,off,none⟩).run P w with|ok x n=>rw[d] at c;simp at c;rw[c.1,c.2]|halt x n=>rw[d] at c;cases c
def Du.run:∀{rvs:List ResultVar}{gs:List G},Du P s rvs gs->∀{μ:Mu}{a:Act}{w:World},Rel N cx μ s a w->∃vs:List Value,vs.length=gs.length/\(∀(j:Nat) (g:G) (v:Value),gs[j]?=some g->vs[j]?=some v->aU (cx.O s.st μ) cx.base w μ g v)/\(rvs.mapM (yZ a)).run P w=.ok vs w|[],[],_,_,_,_,_=>⟨[],rfl,fun j g v h=>by simp at h,rfl⟩|q::r,g::gs,⟨m,p⟩,μ,a,w,i=>by obtain⟨v,n,c⟩:=m N cx μ a w i;obtain⟨vs,k,e,b⟩:=p.run i;refine⟨v::vs,by simp[k],?_,?_⟩;intro j l o f d;(cases j with|zero=>cases f;cases d;exact n|succ j=>exact e j l o f d);simp[List.mapM_cons,c,b]|[],_::_,h,_,_,_,_=>h.elim|_::_,[],h,_,_,_,_=>h.elim
def DH:Value->G|.slice none 0 0=>.fr (.sl 0 [])|v=>.val v
def SW{O:Nat->Prop}{base:Nat}{w:World}{μ:Mu}(v:Value):aU O base w μ (DH v) v:=by unfold DH;split;exact .fr .nil;exact .aG (.val _)
def Ra(k:aw):Option (List G×Bool):=bif k.pure then some (k.cells,k.fresh) else xP k.cells
def Tu{O:Nat->Prop}{base:Nat}{w:World}{μ:Mu}{k:aw}{cs:List G}{f:Bool}(hi:Ra k=some (cs,f)):cs.length=k.cells.length/\∀(j:Nat) (g':G),cs[j]?=some g'->∃g,k.cells[j]?=some g/\∀v,dh O base w μ k g v->bN (bif f then iE O base else O) w g' v:=by unfold Ra at hi;cases b:k.pure with|true=>rw[b] at hi;cases hi;refine⟨rfl,fun j g i=>⟨g,i,fun v a=>?_⟩⟩;unfold dh at a;rw[b] at a;exact a|false=>rw[b] at hi;obtain⟨e,h⟩:=CE hi;refine⟨e,fun j g' c=>?_⟩;obtain⟨g,n,l,m,d⟩:=h j g' c;refine⟨g,l,fun v a=>?_⟩;unfold dh at a;rw[b] at a;exact(CF a m).flag d
def jj (st st':List (Nat×aw)):G→Option G
 | .aN h sz off n=>match az st' h with
  | some _=>some (.aN h sz off n)
  | none=>match az st h with
   | some k=>match k.pure,k.eC,k.lp with
    | true,true,none=>some (bif k.fresh then .fr (.sl n ((k.cells.drop off).take (n*sz))) else .sl n ((k.cells.drop off).take (n*sz)))
    | _,_,_=>none
   | none=>none
 | .loc h off=>match az st' h with
  | some _=>some (.loc h off)
  | none=>match az st h with
   | some k=>match k.eC,k.lp,Ra k with
    | true,none,some (cs,f)=>some (bif f then .fr (.ptr (cs.drop off)) else .ptr (cs.drop off))
    | _,_,_=>none
   | none=>none
 | .agg gs=>(go gs).map .agg
 | .bE gs=>(go gs).map .bE
 | .bf f gs=>(go gs).map (.bf f)
 | .da _=>none
 | .val v=>some (DH v)
 | g=>some g
where go:List G→Option (List G)
 | []=>some []
 | g::r=>match jj st st' g,go r with
  | some g',some r'=>some (g'::r')
  | _,_=>none
def sL{st st':List (Nat×aw)}:∀{gs a:List G},jj.go st st' gs=some a->a.length=gs.length/\∀(j:Nat) (g':G),a[j]?=some g'->∃g,gs[j]?=some g/\jj st st' g=some g'|[],_,h=>by cases h;exact⟨rfl,fun j g h=>by simp at h⟩|g::r,a,h=>by simp only[jj.go] at h;cases d:jj st st' g with|none=>rw[d] at h;cases h|some i=>rw[d] at h;cases c:jj.go st st' r with|none=>rw[c] at h;cases h|some k=>rw[c] at h;cases h;obtain⟨e,f⟩:=sL c;refine⟨by simp[e],fun j g' b=>?_⟩;cases j with|zero=>cases b;exact⟨g,rfl,d⟩|succ j=>exact f j g' b
def X5{st st':List (Nat×aw)}{O:Nat->Prop}{base:Nat}{μ:Mu}{w:World}{g g':G}{v:Value}(h:bN O w g v)(hf:jj st st' g=some g'):aU O base w μ g' v:=by induction h generalizing g' with|any v=>cases hf;exact .aG (.any _)|val v=>cases hf;exact SW v|dC b v h=>cases hf;exact .aG (.dC b v h)|nil=>cases hf;exact .aG .nil|jk a c=>cases hf;exact .aG (.jk a c)|sl n d b e o k i m l f q p=>cases hf;exact .aG (.sl n d b e o k i m l f q)|ptr d b e k i m l f p=>cases hf;exact .aG (.ptr d b e k i m l f)|agg d k y x p=>simp only[jj,aA] at hf;obtain⟨r,i,rfl⟩:=hf;obtain⟨m,l⟩:=sL i;refine .agg r k (by omega) fun j g v u t=>?_;obtain⟨s,f,q⟩:=l j g u;exact p j s v f t q
def Nb{st st':List (Nat×aw)}{μ:Mu}{w:World}(r:cM cx μ st w)(hs:∀h k,az st' h=some k->∃k0,az st h=some k0){g g':G}{v:Value}(C:aU (cx.O st μ) cx.base w μ g v)(hf:jj st st' g=some g'):aU (cx.O st' μ) cx.base w μ g' v:=by have X:∀b,b<w.heap.size->¬cx.O st μ b->¬cx.O st' μ b:=fun b _ B q=>B (q.imp id fun ⟨x,k,c,m,y,V,hi⟩=>let ⟨k0,R⟩:=hs x k y;⟨x,k0,c,m,R,V,hi⟩);induction C generalizing g' with|aG h=>exact X5 (h.mono (Kept.refl _ _) X) hf|fr h=>cases hf;refine .fr (h.mono (Kept.refl _ _) ?_);rintro b u B (q|q);exact B (.inl q);exact X b u (fun h=>B (.inr h)) q|loc h a b m d=>simp only[jj] at hf;split at hf;cases hf;exact .loc h a b m d;rename_i l;split at hf;rename_i k A;split at hf;rename_i p f o K hi;cases hf;have u:=r.ez h k A;rw[d] at u;obtain⟨J,y,V,R,L,S,h6⟩:=u.cells K;(have z:¬cx.O st' μ b:=by rintro(hx|⟨x,Z,c1,m1,F,U,N⟩);exact(r.out h k b _ A d).1 hx;obtain⟨Y,O⟩:=hs x Z F;have:=r.dr h x k Y b b _ c1 m1 A O d U (.self _ _) N;subst this;rw[l] at F;cases F);obtain⟨i1,i2⟩:=Tu (O:=cx.O st μ) (base:=cx.base) (w:=w) (μ:=μ) hi;(have rd:∀(j:Nat) (g:G),(p.drop a)[j]?=some g->∃v,J[a+j]?=some v/\bN (bif f then iE (cx.O st' μ) cx.base else cx.O st' μ) w g v:=by intro j g t;rw[bC] at t;obtain⟨T,F,U⟩:=i2 _ g t;obtain⟨v,C,s⟩:=h6 _ T F;refine⟨v,C,?_⟩;have h9:=U v s;cases f with|true=>refine bN.mono h9 (Kept.refl _ _) ?_;rintro b u B (q|q);exact B (.inl q);exact X b u (fun h=>B (.inr h)) q|false=>exact bN.mono h9 (Kept.refl _ _) X);(have M:∀j,j<(p.drop a).length->w.cell? ⟨b,a+j,none⟩=some (J.getD (a+j) undef):=by intro j W;obtain⟨v,C,_⟩:=rd j _ (af W);rw[cell_of y,C];simp[C]);(have D:∀(j:Nat) (g:G),(p.drop a)[j]?=some g->bN (bif f then iE (cx.O st' μ) cx.base else cx.O st' μ) w g (J.getD (a+j) undef):=by intro j g t;obtain⟨v,C,s⟩:=rd j g t;simpa[C] using s);(cases f with|true=>refine .fr (.ptr _ b a (fun j=>J.getD (a+j) undef) ?_ (dT y) M D);rintro(q|q);have:=L o;omega;exact z q|false=>exact .aG (.ptr _ b a (fun j=>J.getD (a+j) undef) z (dT y) M D));cases hf;cases hf|gz h I d=>simp only[jj] at hf;split at hf;cases hf;exact .gz h I d;split at hf;rename_i k A;split at hf;cases hf;have u:=r.ez h k A;rw[d] at u;simp only[aV] at u;obtain⟨u,_⟩:=u;simp only[u,List.drop_nil,List.take_nil];(cases k.fresh with|true=>exact .fr .nil|false=>exact .aG .nil);cases hf;cases hf|aN h I a n b m E d B hc=>simp only[jj] at hf;split at hf;cases hf;exact .aN h I a n b m E d B hc;rename_i l;split at hf;rename_i k A;split at hf;rename_i hp o K;cases hf;have u:=r.ez h k A;rw[d] at u;obtain⟨J,y,V,R,L,S,h6⟩:=u.cells K;(have z:¬cx.O st' μ b:=by rintro(hx|⟨x,Z,c1,m1,F,U,N⟩);exact(r.out h k b _ A d).1 hx;obtain⟨Y,O⟩:=hs x Z F;have:=r.dr h x k Y b b _ c1 m1 A O d U (.self _ _) N;subst this;rw[l] at F;cases F);(have hlen:((k.cells.drop a).take (n*I)).length<=J.size-a:=by rw[bA,bY];omega);(have M:∀j,j<((k.cells.drop a).take (n*I)).length->w.cell? ⟨b,a+j,none⟩=some (J.getD (a+j) undef):=by intro j W;rw[cell_of y];(have:a+j<J.size:=by omega);simp[this]);(have D:∀(j:Nat) (g:G),((k.cells.drop a).take (n*I))[j]?=some g->bN (bif k.fresh then iE (cx.O st' μ) cx.base else cx.O st' μ) w g (J.getD (a+j) undef):=by intro j g t;rw[br] at t;split at t;rw[bC] at t;obtain⟨v,C,s⟩:=h6 _ g t;(have e:J.getD (a+j) undef=v:=by simp[C]);rw[e];unfold dh at s;rw[hp] at s;(cases H:k.fresh with|true=>rw[H] at s;refine bN.mono s (Kept.refl _ _) ?_;rintro b u B (q|q);exact B (.inl q);exact X b u (fun h=>B (.inr h)) q|false=>rw[H] at s;exact bN.mono s (Kept.refl _ _) X);cases t);(cases H:k.fresh with|true=>rw[H] at D;refine .fr (.sl n _ b a E _ B ?_ (dT y) M D);rintro(q|q);have:=L o;omega;exact z q|false=>rw[H] at D;exact .aG (.sl n _ b a E _ B z (dT y) M D));cases hf;cases hf|fD h I P b m d hpos=>simp only[jj] at hf;split at hf;cases hf;exact .fD h I P b m d hpos;rename_i l;split at hf;rename_i k A;split at hf;rename_i hp o K;cases hf;have u:=r.ez h k A;rw[d] at u;obtain⟨J,y,V,R,L,S,h6⟩:=u.cells K;(have z:¬cx.O st' μ b:=by rintro(hx|⟨x,Z,c1,m1,F,U,N⟩);exact(r.out h k b _ A d).1 hx;obtain⟨Y,O⟩:=hs x Z F;have:=r.dr h x k Y b b _ c1 m1 A O d U (.self _ _) N;subst this;rw[l] at F;cases F);simp only[gR,dE];(cases H:k.fresh with|true=>refine .fr (.sl 0 [] b P 0 (fun _=>undef) (aH _) ?_ (dT y) (fun j W=>by simp at W) (fun j g t=>by simp at t));rintro(q|q);have:=L o;omega;exact z q|false=>exact .aG (.sl 0 [] b P 0 (fun _=>undef) (aH _) z (dT y) (fun j W=>by simp at W) (fun j g t=>by simp at t)));cases hf;cases hf|agg p us hl hr ih=>simp only[jj,aA] at hf;obtain⟨Q,y,rfl⟩:=hf;obtain⟨V,R⟩:=sL y;refine .agg Q us (by omega) fun j g v t C=>?_;obtain⟨T,L,S⟩:=R j g t;exact ih j T v L C S|bE p us hl hr ih=>simp only[jj,aA] at hf;obtain⟨Q,y,rfl⟩:=hf;obtain⟨V,R⟩:=sL y;refine .bE Q us (by omega) fun j g v t C=>?_;obtain⟨T,L,S⟩:=R j g t;exact ih j T v L C S|bf f caps us hl hr ih=>simp only[jj,aA] at hf;obtain⟨Q,y,rfl⟩:=hf;obtain⟨V,R⟩:=sL y;refine .bf f Q us (by omega) fun j g v t C=>?_;obtain⟨T,L,S⟩:=R j g t;exact ih j T v L C S|da h b m d=>cases hf|kp h i a b m c n d A=>cases hf;exact .kp h i a b m c n d A|my h i I x E hi=>cases hf;exact .my h i I x E hi|ks h i I n b m c k E d A B hc=>cases hf;exact .ks h i I n b m c k E d A B hc|eT h b m d=>cases hf;exact .eT h b m d
end
end Go.AM
