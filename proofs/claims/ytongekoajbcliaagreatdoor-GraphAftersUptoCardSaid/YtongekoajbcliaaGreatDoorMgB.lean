/-
  AM, second part.
-/
import Derived.Test.YtongekoajbcliaaGreatDoorMgA
import Derived.Laws.Tables
import Derived.WalkSpells
import Derived.Laws.Slices
import Derived.Laws.Strings2
import Derived.IntWalk
set_option linter.all false
/-
 AM,part L:a e8 from a walk;calls by e8.
-/
namespace Go.AM
def vi(P:Program)(fn:Func)(Q:G->List (Nat×aw)->Prop):Exit->St->Prop:=fun e s=>(e=.ret\/e=.normal)/\s.df=[]/\∃b r a,Du P s fn.results.toList b/\pB s.st a/\jj s.st a (pack b)=some r/\Q r a
def Z8(P:Program)(fn:Func)(Q:G->List (Nat×aw)->Prop)(Qp:List PanicEntry->List (Nat×aw)->Prop):Exit->St->Prop:=fun e s=>vi P fn Q e s\/∃c,e=.panic c/\s.df=[]/\∃a,pB s.st a/\Qp c a
def iW.refl(Z:Nat->Prop)(w:World):iW Z w w:=⟨rfl,fun _=>.inl rfl,rfl,rfl,rfl⟩
def iW.put{Z:Nat->Prop}{w:World}{D:Nat}{o:Obj}(o':Obj)(c:Z D)(ho:w.heap[D]?=some o)(a:Q8 o=false):iW Z w (w.putObj D o'):=by refine⟨by simp[World.putObj],fun b=>?_,rfl,rfl,rfl⟩;by_cases e:b=D;subst e;exact .inr ⟨c,o,ho,a⟩;exact .inl (World.putObj_heap_other e)
def iW.cells{Z:Nat->Prop}{w w':World}(h:iW Z w w'){b:Nat}{cs:Array Value}{e:TypeId}{f:Nat×Nat}(hb:w.heap[b]?=some (.cells cs e f)):w'.heap[b]?=some (.cells cs e f):=by rcases h.block b with a|⟨_,x,a,c⟩;exact a.trans hb;rw[hb] at a;cases a;cases c
def iW.cell{Z:Nat->Prop}{w w':World}(h:iW Z w w'){b j:Nat}{v:Value}(hb:w.cell? ⟨b,j,none⟩=some v):w'.cell? ⟨b,j,none⟩=some v:=by rcases h.block b with a|⟨_,x,a,c⟩;rw[World.cell?_of_block (w:=w) a];exact hb;cases x with|cells d e f=>cases c|_=>simp[World.cell?,a] at hb
def bN.shut{O Z:Nat->Prop}{w w':World}{g:G}{v:Value}(m:bN O w g v)(h:iW Z w w'):bN O w' g v:=by induction m with|any v=>exact .any v|val v=>exact .val v|dC b v h=>exact .dC b v h|nil=>exact .nil|jk a e=>exact .jk a e|sl n c b d e k r f i o m l=>exact .sl n c b d e k r f (by rw[h.size];exact i) (fun j p=>h.cell (o j p)) l|ptr c b d k f i o m l=>exact .ptr c b d k f (by rw[h.size];exact i) (fun j p=>h.cell (o j p)) l|agg c k q m l=>exact .agg c k q l
def aU.shut{O Z:Nat->Prop}{base:Nat}{w w':World}{μ:Mu}{g:G}{v:Value}(o:aU O base w μ g v)(h:iW Z w w'):aU O base w' μ g v:=by induction o with|aG o=>exact .aG (o.shut h)|fr o=>exact .fr (o.shut h)|loc h j b m d=>exact .loc h j b m d|gz h l d=>exact .gz h l d|aN h l j n b m e d z y=>exact .aN h l j n b m e d z y|fD h l p b m d s=>exact .fD h l p b m d s|agg a q r o t=>exact .agg a q r t|bE a q r o t=>exact .bE a q r t|bf f u q r o t=>exact .bf f u q r t|da h b m d=>exact .da h b m d|kp h i j b m c n d A=>exact .kp h i j b m c n d A|my h i l x e B=>exact .my h i l x e B|ks h i l n b m c k e d A z y=>exact .ks h i l n b m c k e d A z y|eT h b m d=>exact .eT h b m d
def aV.shut{O Z:Nat->Prop}{base:Nat}{w w':World}{μ:Mu}{k:aw}{x:Option (Nat×Mm)}(f:aV O base w μ k x)(h:iW Z w w')(n:∀b m,x=some (b,m)->k.lp≠none->∀y,In y b m->¬Z y):aV O base w' μ k x:=by cases x with|none=>exact f|some B=>obtain⟨b,m⟩:=B;cases c:k.lp with|none=>(obtain⟨A,e,l,i,q,G,o⟩:=f.cells c;refine .mk c (f.nv c) ⟨A,h.cells e,l,i,q,G,fun j g r=>?_⟩;obtain⟨v,p,a⟩:=o j g r;refine⟨v,p,?_⟩;unfold dh at a|-;cases u:k.pure with|true=>rw[u] at a;exact a.shut h|false=>rw[u] at a;exact a.shut h)|some C=>have n:=n b m rfl (by rw[c];exact fun h=>by cases h);cases C with|loop H=>obtain⟨D,F,e,l,i,o,q⟩:=(aV.loop c).1 f;refine(aV.loop c).2 ⟨D,F,?_,l,i,o,fun j t g E r=>let ⟨v,p,a⟩:=q j t g E r;⟨v,p,a.shut h⟩⟩;rcases h.block b with s|⟨s,_⟩;exact s.trans e;exact absurd s (n b (.self _ _))|deep d=>obtain⟨z,e,l,i⟩:=(aV.deep c).1 f;exact(aV.deep c).2 ⟨d.shut z h n,e,l,i⟩
def cM.shut{cx:Cx}{μ:Mu}{st:List (Nat×aw)}{w w' w0:World}{Z:Nat->Prop}(a:cM cx μ st w)(h:iW Z w w')(r:∀x k b m,az st x=some k->μ x=some (b,m)->k.lp≠none->∀y,In y b m->¬Z y)(j:w0.os=cx.w0.os/\w0.tape=cx.w0.tape/\w0.output=cx.w0.output)(n:∀b,b<cx.base->¬cx.A b->w'.heap[b]?=w0.heap[b]?):cM {cx with w0:=w0} μ st w':={ez:=fun x k l=>(a.ez x k l).shut h fun b m q s=>r x k b m l q s,dr:=a.dr,cy:=fun x k b m y c d g=>by rw[h.size];exact a.cy x k b m y c d g,fJ:=a.fJ,fq:=a.fq,hb:=by rw[h.size];exact a.hb,os:=(h.os.trans a.os).trans j.1.symm,tape:=(h.tape.trans a.tape).trans j.2.1.symm,output:=(h.output.trans a.output).trans j.2.2.symm,dB:=n,gl:=fun p t=>by obtain⟨c,d,u,e,f,g,v⟩:=a.gl p t;refine⟨c,d,u,e,f,?_,v⟩;rw[<-n p.1 c d];rcases h.block p.1 with i|⟨_,o,i,z⟩;exact i.trans ((a.dB p.1 c d).trans g);rw[a.dB p.1 c d,g] at i;cases i;cases z}
def iR.shut{O Z:Nat->Prop}{base:Nat}{w w':World}{μ:Mu}{c:List Deferred}{gs:List G}(j:iR O base w μ c gs)(h:iW Z w w')(e:∀d∈c,∀D,d.target=.collected D->¬Z D):iR O base w' μ c gs:=by induction j with|nil=>exact .nil|mark b i l m k n f=>refine .mark b i (by rw[h.size];exact l) ?_ k (f fun d g=>e d (ar _ g));rcases h.block _ with a|⟨a,_⟩;exact a.trans m;exact absurd a (e _ au _ rfl)|bf b i f=>exact .bf (b.shut h) (f fun d g=>e d (ar _ g))
def wG{F:Fence}{n:Nat}{P:Program}{fn:Func}{tmps:Array Value}{R:Ending->World->Prop}{u:FrameMode}(k:u≠.run){O:Nat->Prop}{base:Nat}{μ:Mu}:∀{j:List Deferred}{w:World},iR O base w μ j []->(∀w',iW (fun b=>¬O b/\base<=b) w w'->LeavesIn F n P fn tmps R [] u w')->LeavesInM F n P fn tmps R j u w|[],w,_,K=>K w (iW.refl _ _)|d::j,w,h,K=>by cases h with|mark l m y c p q=>rename_i D;refine⟨k,.inl ⟨D,_,rfl,run_takeDeferred c,?_⟩⟩;have f:iW (fun b=>¬O b/\base<=b) w (w.putObj D (.deferred none)):=iW.put _ ⟨l,m⟩ c rfl;have g:iW (fun b=>b=D) w (w.putObj D (.deferred none)):=iW.put _ rfl c rfl;refine wG k (O:=O) (base:=base) (μ:=μ) (w:=w.putObj D (.deferred none)) (q.shut g fun d s x e t=>p d s (by rw[e,t])) fun w' a=>K w' ⟨a.size.trans f.size,fun b=>?_,a.os.trans f.os,a.tape.trans f.tape,a.output.trans f.output⟩;by_cases e:b=D;subst e;exact .inr ⟨⟨l,m⟩,_,c,rfl⟩;rcases a.block b with i|⟨i,o,v,r⟩;exact .inl (i.trans (World.putObj_heap_other e));exact .inr ⟨i,o,by rw[<-World.putObj_heap_other (o:=.deferred none) e];exact v,r⟩
def cM.OP{cx:Cx}{μ:Mu}{st:List (Nat×aw)}{w w':World}(c:cM cx μ st w)(h:iW (fun b=>¬cx.O st μ b/\cx.base<=b) w w'):cM cx μ st w':=c.shut (w0:=cx.w0) h (fun x k b m a e _ y f g=>g.1 (.inr ⟨x,k,b,m,a,e,f⟩)) ⟨rfl,rfl,rfl⟩ fun b i d=>by rcases h.block b with a|⟨⟨_,a⟩,_⟩;exact a.trans (c.dB b i d);omega
section
variable {P:Program}{N:Nat}{cx:Cx}{s:St}
def U5{O:Nat->Prop}{base:Nat}{w:World}{μ:Mu}{gs:List G}{vs:List Value}(b:vs.length=gs.length)(a:∀(j:Nat) (g:G) (v:Value),gs[j]?=some g->vs[j]?=some v->aU O base w μ g v):aU O base w μ (pack gs) (if h:vs.toArray.size=1 then vs.toArray[0] else .tuple vs.toArray):=by match gs,vs,b,a with|[],[],_,a=>exact .bE [] [] rfl a|[g],[v],_,a=>exact a 0 g v rfl rfl|g::d::gs,v::c::vs,b,a=>rw[dif_neg (by simp)];exact .bE _ _ b a
theorem Qy (fn:Func) (a:Act):results fn a.tmps=(do let vs ←fn.results.mapM (yZ a);pure (if h:vs.size=1 then vs[0] else .tuple vs)):=rfl
def Ie{α:Type}(f:α->Sem Value)(xs:Array α)(w w':World)(vs:List Value)(h:(xs.toList.mapM f).run P w=.ok vs w'):(xs.mapM f).run P w=.ok vs.toArray w':=by rw[Array.mapM_eq_mapM_toList];simp[Sem.run_map,h]
def GP.of{f : FuncId}{fn : Func}{c : Code}{args : List G}{st : List (Nat × aw)}{Q : G -> List (Nat × aw) -> Prop}{Qp : List PanicEntry -> List (Nat × aw) -> Prop}(hf : P.funcs[f]? = some fn)(hb : fn.body = some c)(hN : fn.ntmps = N)(z : Nat.ble args.length N = true)(h : ∀ cx, cx.ro = none -> GW P N cx c (Z8 P fn Q Qp) { fr := oX args 0,st := st,df := []}): GP P f args st Q Qp:=by
 intro X p w x hX K o ha;have z := fS z;have A : Rel N (jl X st p w) p { fr := oX args 0,st := st,df := []} { tmps := x.toArray ++ Array.replicate (fn.ntmps - x.toArray.size) undef,defers := []} w := by refine { st := K,nd := .nil,sz := by simp;omega,fr := fun t g J => ?_};obtain ⟨_, n⟩ := En J;simp only [Nat.sub_zero] at n;(have M : t < x.length := by have := (ap.1 n).1;omega);refine ⟨x[t], ?_, ha t g x[t] n (af M)⟩;rw [Array.getElem?_append_left (by simpa using M)];simp [M]
 refine A5.1 (callsIn_of_wp_marks (F := FF none) (n := 0) hf hb trivial ?_);refine wpIn_mono (h (jl X st p w) rfl p _ w A) fun e s O o => ?_;have y : ∀ (d : Mu) (i : St), Rel N (jl X st p w) d i s O -> Z8 P fn Q Qp e i -> (e = .ret \/ e = .normal) -> LeavesInM (FF none) 0 P fn s.tmps (F7 X st p w Q Qp) s.defers .returning O := by rintro d i b a E;(have a : vi P fn Q e i := by rcases a with a|⟨c, u, _⟩;exact a;subst u;rcases E with E|E <;> cases E);obtain ⟨_, m, Y, r, q, u, n, T, F⟩ := a;have R := b.nd;rw [m] at R;refine wG (fun h => by cases h) R fun C D => ?_;have j : Rel N (jl X st p w) d { i with df := []} { s with defers := []} C :={ st := b.st.OP D,nd := .nil,sz := b.sz,fr := fun t g J => let ⟨v, hv, hrv⟩ := b.fr t g J; ⟨v, hv, hrv.shut D⟩};(have I : Du P { i with df := []} fn.results.toList Y := by (have : ({ i with df := []} : St) = i := by cases i;simp only at m;subst m;rfl);rw [this];exact u);obtain ⟨V, H, L, B⟩ := I.run j;have U := U5 H L;refine ⟨_, ?_, .inl ⟨_, r, q, d, rfl, F, j.st.sub n, Nb j.st (fun h k W => ⟨k, n.get W⟩) U T⟩⟩;have Z : results fn s.tmps = results fn ({ s with defers := []} : Act).tmps := rfl;rw [Z, Qy];simp only [Sem.run_bind, Ie _ _ _ _ _ B, Result.andThen_ok, Sem.run_pure]
 cases e with|normal=> obtain ⟨d, i, b, a⟩ := o;exact y d i b a (.inr rfl)|ret=> obtain ⟨d, i, b, a⟩ := o;exact y d i b a (.inl rfl)|panic ch=>obtain ⟨d, i, b, a⟩ := o;have u := b.st;have n := b.nd;rcases a with ⟨a, _⟩|⟨c', F, m, q, h5, S⟩;rcases a with a|a <;> cases a;cases F;rw [m] at n;refine wG (fun h => by cases h) n fun C D => ?_;exact .inr ⟨_, q, d, rfl, S, (u.OP D).sub h5⟩|outgrown=> exact o.elim|exit id=>obtain ⟨d, i, b, a⟩ := o;rcases a with ⟨a, _⟩|⟨c, a, _⟩;rcases a with a|a <;> cases a;cases a|goto l=>obtain ⟨d, i, b, a⟩ := o;rcases a with ⟨a, _⟩|⟨c, a, _⟩;rcases a with a|a <;> cases a;cases a
def GM.of{f : FuncId}{fn : Func}{c : Code}{args : List G}{st : List (Nat × aw)}{Q : G -> List (Nat × aw) -> Prop}(hf : P.funcs[f]? = some fn)(hb : fn.body = some c)(e : fn.ntmps = N)(b : Nat.ble args.length N = true)(h : ∀ cx, cx.ro = none -> GW P N cx c (vi P fn Q) { fr := oX args 0,st := st,df := []}): GM P f args st Q:=GP.of hf hb e b fun cx a => (h cx a).mono fun _ _ d => .inl d
def eX(f:G->Option G):List G->Option (List G)|[]=>some []|g::r=>match f g,eX f r with|some b,some a=>some (b::a)|_,_=>none
def rz{f:G->Option G}:∀{gs a:List G},eX f gs=some a->a.length=gs.length/\∀(j:Nat) (g':G),a[j]?=some g'->∃g,gs[j]?=some g/\f g=some g'|[],_,h=>by cases h;exact⟨rfl,fun j g h=>by simp at h⟩|g::r,a,h=>by simp only[eX] at h;cases d:f g with|none=>rw[d] at h;cases h|some k=>rw[d] at h;cases c:eX f r with|none=>rw[c] at h;cases h|some l=>rw[c] at h;cases h;obtain⟨e,i⟩:=rz c;refine⟨by simp[e],fun j g' b=>?_⟩;cases j with|zero=>cases b;exact⟨g,rfl,d⟩|succ j=>exact i j g' b
def og:Value->G|.slice none 0 0=>.sl 0 []|v=>.val v
def B4{O:Nat->Prop}{w:World}(v:Value):bN O w (og v) v:=by unfold og;split;exact .nil;exact .val _
def view:Nat->List (Nat×aw)->G->Option G|0,_,_=>none|n+1,e,g=>match g with|.val v=>some (og v)|.dC b=>some (.dC b)|.sl n c=>some (.sl n c)|.ptr c=>some (.ptr c)|.fr g=>some g|.aN h f a m=>(match az e h with|some k=>(match k.lp with|some _=>none|none=>match k.pure with|true=>some (.sl m ((k.cells.drop a).take (m*f)))|false=>match eX (view n e) ((k.cells.drop a).take (m*f)) with|some c=>some (.sl m c)|none=>none)|none=>none)|.loc h a=>(match az e h with|some k=>(match k.lp with|some _=>none|none=>match k.pure with|true=>some (.ptr (k.cells.drop a))|false=>match eX (view n e) (k.cells.drop a) with|some c=>some (.ptr c)|none=>none)|none=>none)|.agg j=>(match eX (view n e) j with|some l=>some (.agg l)|none=>none)|.ks h i f m=>(bif Nat.beq m 0&&Nat.beq i Jq then some (.sl 0 []) else match az e h with|some k=>(match k.lp with|some (.deep d)=>(match d.row i with|some j=>bif Nat.beq j.length (m*f) then some (.sl m j) else none|none=>none)|_=>none)|none=>none)|_=>none
def zO{st:List (Nat×aw)}{O X:Nat->Prop}{base:Nat}{μ:Mu}{w:World}(B:∀h k,az st h=some k->aV O base w μ k (μ h))(D:∀h k b m x,az st h=some k->μ h=some (b,m)->In x b m->¬X x)(T:∀b,X b->O b):∀(n:Nat){g g':G}{v:Value},aU O base w μ g v->view n st g=some g'->bN X w g' v|0,_,_,_,_,h=>by cases h|n+1,g,g',v,a,h=>by have U:∀{g v},bN O w g v->bN X w g v:=fun h=>h.mono (Kept.refl _ _) fun b _ V hx=>V (T b hx);(have A:∀(t e S:Nat) (k:aw) (b:Nat) (m:Mm) (f:List G),az st t=some k->k.lp=none->μ t=some (b,m)->(match k.pure with|true=>some ((k.cells.drop e).take S)|false=>eX (view n st) ((k.cells.drop e).take S))=some f->∃r:Nat->Value,¬X b/\b<w.heap.size/\(∀j,j<f.length->w.cell? ⟨b,e+j,none⟩=some (r j))/\(∀(j:Nat) (g:G),f[j]?=some g->bN X w g (r j))/\f.length<=m.1-e:=by intro t e S k b m f s q y o;have hb:=B t k s;rw[y] at hb;obtain⟨vs,C,E,P,W,h5,h6⟩:=hb.cells q;(have rd:f.length<=m.1-e/\∀(j:Nat) (g:G),f[j]?=some g->∃v,vs[e+j]?=some v/\bN X w g v:=by cases F:k.pure with|true=>rw[F] at o;cases o;refine⟨by rw[bA,bY];omega,fun j g z=>?_⟩;rw[br] at z;split at z;rw[bC] at z;obtain⟨v,a,p⟩:=h6 _ g z;refine⟨v,a,?_⟩;unfold dh at p;rw[F] at p;exact U (p.flag (f':=false) (fun h=>by cases h));cases z|false=>rw[F] at o;obtain⟨h7,h8⟩:=rz o;refine⟨by rw[h7,bA,bY];omega,fun j g z=>?_⟩;obtain⟨g0,h9,h10⟩:=h8 j g z;rw[br] at h9;split at h9;rw[bC] at h9;obtain⟨v,a,p⟩:=h6 _ g0 h9;refine⟨v,a,?_⟩;unfold dh at p;rw[F] at p;exact zO B D T n p h10;cases h9);refine⟨fun j=>vs.getD (e+j) undef,D t k b m b s y (.self _ _),dT C,fun j hj=>?_,fun j g z=>?_,rd.1⟩;obtain⟨v,a,_⟩:=rd.2 j _ (af hj);rw[cell_of C,a];simp[a];obtain⟨v,a,p⟩:=rd.2 j g z;simpa[a] using p);cases g with|val u=>(cases h;cases a with|aG a=>cases a;exact B4 _)|sl m f=>(cases h;cases a with|aG a=>exact U a)|ptr f=>(cases h;cases a with|aG a=>exact U a)|fr g=>(cases h;cases a with|aG a=>cases a|fr a=>exact U a.O5)|dC b=>(cases h;cases a with|aG a=>exact U a)|aN t L e m=>(simp only[view] at h;cases s:az st t with|none=>rw[s] at h;cases h|some k=>rw[s] at h;dsimp only at h;cases q:k.lp with|some lp=>rw[q] at h;cases h|none=>rw[q] at h;dsimp only at h;(have I:∃f,g'=.sl m f/\(match k.pure with|true=>some ((k.cells.drop e).take (m*L))|false=>eX (view n st) ((k.cells.drop e).take (m*L)))=some f:=by cases F:k.pure with|true=>rw[F] at h;cases h;exact⟨_,rfl,rfl⟩|false=>rw[F] at h;dsimp only at h|-;cases M:eX (view n st) ((k.cells.drop e).take (m*L)) with|none=>rw[M] at h;cases h|some f=>rw[M] at h;cases h;exact⟨_,rfl,rfl⟩);obtain⟨f,rfl,o⟩:=I;(have Q:∀{f},m*L=0->(match k.pure with|true=>some ((k.cells.drop e).take (m*L))|false=>eX (view n st) ((k.cells.drop e).take (m*L)))=some f->f=[]:=by intro f h0 h;rw[h0,dE] at h;cases F:k.pure with|true=>rw[F] at h;cases h;rfl|false=>rw[F] at h;cases h;rfl);cases a with|aG a=>cases a|gz _ _ y=>rw[Q (gR _) o];exact .nil|aN _ _ _ _ b m0 l y V hc=>obtain⟨r,C,E,P,W,_⟩:=A t e (m*L) k b m0 f s q y o;exact .sl m f b e l r V C E P W|fD _ _ off0 b _ y hpos=>rw[Q (gR _) o];obtain⟨r,C,E,_⟩:=A t e (0*L) k b _ f s q y o;exact .sl 0 [] b off0 0 r (aH _) C E (fun j hj=>by simp at hj) (fun j g z=>by simp at z))|loc t e=>(simp only[view] at h;cases s:az st t with|none=>rw[s] at h;cases h|some k=>rw[s] at h;dsimp only at h;cases q:k.lp with|some lp=>rw[q] at h;cases h|none=>rw[q] at h;dsimp only at h;have tk:(k.cells.drop e).take (k.cells.length)=k.cells.drop e:=dc (by rw[bY];omega);(have I:∃f,g'=.ptr f/\(match k.pure with|true=>some ((k.cells.drop e).take k.cells.length)|false=>eX (view n st) ((k.cells.drop e).take k.cells.length))=some f:=by rw[tk];cases F:k.pure with|true=>rw[F] at h;cases h;exact⟨_,rfl,rfl⟩|false=>rw[F] at h;dsimp only at h|-;cases M:eX (view n st) (k.cells.drop e) with|none=>rw[M] at h;cases h|some f=>rw[M] at h;cases h;exact⟨_,rfl,rfl⟩);obtain⟨f,rfl,o⟩:=I;cases a with|aG a=>cases a|loc _ _ b m0 y=>obtain⟨r,C,E,P,W,_⟩:=A t e _ k b m0 f s q y o;exact .ptr f b e r C E P W)|agg R=>(simp only[view] at h;cases M:eX (view n st) R with|none=>rw[M] at h;cases h|some gs'=>rw[M] at h;cases h;obtain⟨C,E⟩:=rz M;(have I:∃r:List Value,v=.agg r.toArray/\r.length=R.length/\∀(j:Nat) (g:G) (v:Value),R[j]?=some g->r[j]?=some v->aU O base w μ g v:=by cases a with|aG a=>(cases a with|agg _ r Y hr=>exact⟨r,rfl,Y,fun j g v C E=>.aG (hr j g v C E)⟩)|agg _ r Y hr=>exact⟨r,rfl,Y,hr⟩);obtain⟨r,rfl,Y,hr⟩:=I;refine .agg gs' r (by omega) fun j g v z a=>?_;obtain⟨g0,P,W⟩:=E j g z;exact zO B D T n (hr j g0 v P a) W)|ks t i L m=>(simp only[view] at h;cases H:Nat.beq m 0&&Nat.beq i Jq with|true=>(rw[H] at h;cases h;simp only[ag] at H;have hm0:=ab H.1;have hi0:=ab H.2;subst hm0;cases a with|aG a=>cases a|my _ _ _ x l hi=>obtain⟨rfl,rfl⟩:=hi hi0;exact .nil|ks _ _ _ _ b m' c k l y s V hc=>exact .jk _ _)|false=>rw[H,cond_false] at h;cases s:az st t with|none=>rw[s] at h;cases h|some k=>rw[s] at h;dsimp only at h;split at h;rename_i d Y;split at h;rename_i R K;(cases J:Nat.beq R.length (m*L) with|false=>rw[J] at h;cases h|true=>rw[J] at h;cases h;have hl0:=ab J;cases N:μ t with|none=>(cases a with|aG a=>cases a|my _ _ _ x l hi=>exact absurd (bu (by rw[hl0,gR])) (d.LZ K)|ks _ _ _ _ b m' c kk l y=>rw[N] at y;cases y)|some bm=>obtain⟨b,mm⟩:=bm;have hb:=B t k s;rw[N] at hb;have hφ:=((aV.deep Y).1 hb).1;obtain⟨c,kk,f,bP,C,E,P⟩:=d.Qt hφ K;(have hXi:∀{g v},bN (bif k.fresh then iE O base else O) w g v->bN X w g v:=fun {g v} h=>by cases hkf:k.fresh with|false=>rw[hkf] at h;exact U h|true=>rw[hkf] at h;exact U h.O5);(have hsl:∀l,m<=l->bN X w (.sl m R) (.slice (some ⟨c,0,none⟩) m l):=fun l hcap=>.sl m R c 0 l (fun j=>f.getD j undef) hcap (D t k b mm c s N (.inr ⟨kk,ak C⟩)) (dT E) (fun j hj=>by obtain⟨v,a,_⟩:=P j _ (af hj);rw[cell_of E,dl,a];simp[a]) fun j g z=>by obtain⟨v,a,p⟩:=P j g z;have:=hXi p;simpa[a] using this);cases a with|aG a=>cases a|my _ _ _ x l hi=>exact absurd (bu (by rw[hl0,gR])) (d.LZ K)|ks _ _ _ _ b' m' c' kk' l y Z V hc=>rw[N] at y;cases y;rw[C] at Z;cases Z;exact hsl l V);cases h;cases h)|_=>cases h
def JB{st:List (Nat×aw)}{μ:Mu}{w:World}(a:cM cx μ st w)(n:Nat){g g':G}{v:Value}(d:aU (cx.O st μ) cx.base w μ g v)(h:view n st g=some g'):bN cx.X w g' v:=zO a.ez (fun h k b m x e f c=>(a.cy h k b m x e f c).1) (fun _ h=>.inl h) n d h
def k4:G→Bool
 | .val _=>true
 | .dC _=>true
 | .fr _=>true
 | .agg gs=>go gs
 | .bE gs=>go gs
 | _=>false
where go:List G→Bool
 | []=>true
 | g::r=>k4 g&&go r
def CI{gs:List G}(h:k4.go gs=true):∀(j:Nat) (g:G),gs[j]?=some g->k4 g=true:=by induction gs with|nil=>intro j g a;simp at a|cons x r b=>simp only[k4.go,ag] at h;intro j g a;cases j with|zero=>cases a;exact h.1|succ j=>exact b h.2 j g a
end
end Go.AM
/-
 AM,part M:calls of functions by their contracts.
-/
namespace Go.AM
def uk(n:Nat)(st:List (Nat×aw)):G->Option G|.bf f a=>(match eX (view n st) a with|some c=>some (.bf f c)|none=>none)|g=>view n st g
def wO(s:St):List Operand->Option (List G)|[]=>some []|x::r=>match ev s x,wO s r with|some g,some a=>some (g::a)|_,_=>none
section
variable {P:Program}{N:Nat}{cx:Cx}{s:St}
def oY:∀{xs:List Operand}{gs:List G},wO s xs=some gs->gs.length=xs.length/\∀(j:Nat) (g:G),gs[j]?=some g->∃x,xs[j]?=some x/\ev s x=some g|[],_,h=>by cases h;exact⟨rfl,fun j g h=>by simp at h⟩|x::r,gs,h=>by simp only[wO] at h;cases b:ev s x with|none=>rw[b] at h;cases h|some k=>rw[b] at h;cases c:wO s r with|none=>rw[c] at h;cases h|some i=>rw[c] at h;cases h;obtain⟨d,f⟩:=oY c;refine⟨by simp[d],fun j e a=>?_⟩;cases j with|zero=>cases a;exact⟨x,rfl,b⟩|succ j=>exact f j e a
def P4{O:Nat->Prop}{base:Nat}{st:List (Nat×aw)}{μ μ':Mu}{w:World}(e:cM cx μ st w)(n:Nat){g g':G}{v:Value}(a:aU (cx.O st μ) cx.base w μ g v)(h:uk n st g=some g')(m:∀b,b<w.heap.size->¬cx.X b->¬O b):aU O base w μ' g' v:=by have k:∀{g v},bN cx.X w g v->aU O base w μ' g v:=fun h=>.aG (h.mono (Kept.refl _ _) m);cases g with|bf f d=>(simp only[uk] at h;cases i:eX (view n st) d with|none=>rw[i] at h;cases h|some c=>rw[i] at h;cases h;obtain⟨x,p⟩:=rz i;cases a with|aG a=>cases a|bf _ _ q u o=>refine .bf f c q (by omega) fun j g v r a=>?_;obtain⟨t,s,l⟩:=p j g r;exact k (JB e n (o j t v s a) l))|_=>exact k (JB e n a h)
def cM.kept{μ:Mu}{st:List (Nat×aw)}{w w':World}(h:cM cx μ st w)(c:w.heap.size<=w'.heap.size)(hb:∀b,b<w.heap.size->w'.heap[b]?=w.heap[b]?)(g:w'.os=w.os)(a:w'.tape=w.tape)(d:w'.output=w.output):cM cx μ st w':=by have j:∀O,Kept O w w':=fun O=>⟨c,fun b h _=>hb b h⟩;refine {ez:=?_,dr:=h.dr,cy:=fun x k b m y e f l=>let ⟨a1,a2,a3,a4⟩:=h.cy x k b m y e f l;⟨a1,a2,cO a3 c,a4⟩,fJ:=h.fJ,fq:=h.fq,hb:=cL h.hb c,os:=g.trans h.os,tape:=a.trans h.tape,output:=d.trans h.output,gl:=h.gl,dB:=fun b e f=>?_};intro x k i;exact(h.ez x k i).mono (fun b m o y n=>hb y (h.cy x k b m y i o n).2.2.1) (j _) (fun _ _ h=>h);rw[hb b (by have:=h.hb;omega)];exact h.dB b e f
def Rel.kept{μ:Mu}{a:Act}{w w':World}(h:Rel N cx μ s a w)(d:w.heap.size<=w'.heap.size)(hb:∀b,b<w.heap.size->w'.heap[b]?=w.heap[b]?)(f:w'.os=w.os)(c:w'.tape=w.tape)(e:w'.output=w.output):Rel N cx μ s a w':={st:=h.st.kept d hb f c e,nd:=h.nd.mono ⟨d,fun b h _=>hb b h⟩ (fun _ _ h=>h),sz:=h.sz,fr:=fun t g i=>let ⟨v,hv,hr⟩:=h.fr t g i;⟨v,hv,hr.mono ⟨d,fun b h _=>hb b h⟩ (fun _ _ h=>h) (aH _)⟩}
def qS{μ:Mu}{st:List (Nat×aw)}{w:World}(h:cM cx μ st w){b:Nat}(ho:Own st μ b):b<w.heap.size:=by obtain⟨x,k,c,m,d,e,a⟩:=ho;exact(h.cy x k c m b d e a).2.2.1
def oW{μ:Mu}{b:Nat}:¬Own [] μ b:=fun ⟨_,_,_,_,h,_⟩=>by cases h
def Ci{X:Nat->Prop}{μ:Mu}{w:World}(c:∀b,X b->b<w.heap.size)(a:Jw (Own [] μ) w.heap.size w):cM (jl X [] μ w) μ [] w:={ez:=fun _ _ h=>(by cases h),dr:=fun _ _ _ _ _ _ _ _ _ h=>(by cases h),cy:=fun _ _ _ _ _ h=>(by cases h),fJ:=fun _ _ h=>(by cases h),fq:=c,hb:=aH _,os:=rfl,tape:=rfl,output:=rfl,gl:=a,dB:=fun _ _ _=>rfl}
variable {ty:TypeId}{pos:String}{after:Array Edge}{guard:Option (Nat×Bool)}{W:List Nat}{d:Nat}
def KB{f:FuncId}{vs:List Value}{gs y:List G}{Q:G->List (Nat×aw)->Prop}(n:Nat){μ:Mu}{a:Act}{w:World}(p:Rel N cx μ s a w)(t:eX (uk n s.st) gs=some y)(hvs:vs.length=gs.length)(B:∀(j:Nat) (g:G) (v:Value),gs[j]?=some g->vs[j]?=some v->aU (cx.O s.st μ) cx.base w μ g v)(E:GM P f y [] Q)(A:∀r st',Q r st'->k4 r=true):Calls P f vs.toArray w fun e w'=>∃v r st',e=.returned v/\Q r st'/\Rel N cx μ s a w'/\aU (cx.O s.st μ) cx.base w' μ r v/\Step W s.st μ s.st μ w w':=by
 obtain⟨S,K⟩:=rz t;have R:∀b,cx.X b->b<w.heap.size:=fun b x=>by have:=p.st.fq b x;have:=p.st.hb;omega
 refine(E.returned cx.X (fun _=>none) w vs R (Ci R (p.st.W5 fun _ h=>(oW h).elim)) (by omega) fun j g v q t=>?_).mono ?_;obtain⟨Z,U,V⟩:=K j g q;exact P4 p.st n (B j Z v U t) V fun b _ D u=>u.elim D oW;rintro e w' ⟨v,r,st',I,rfl,L,l,z⟩;have o:∀b,b<w.heap.size->w'.heap[b]?=w.heap[b]?:=fun b x=>l.dB b x oW;refine⟨v,r,st',rfl,L,p.kept l.hb o l.os l.tape l.output,?_,⟨l.hb,fun b x _=>o b x,fun h k c m b hw S K T=>.inl ⟨h,k,c,m,hw,S,K,T⟩⟩⟩;have i:=A r st' L;have x:=p.st.hb;have M:=p.st.fq;have J:∀b,Own s.st μ b->b<w.heap.size:=fun b u=>qS p.st u;generalize hO:(jl cx.X [] (fun _=>none) w).O st' I=O at z;have Y:∀{g:G}{v:Value},bN O w' g v->k4 g=true->aU (cx.O s.st μ) cx.base w' μ g v:=by intro g v h;induction h with|any v=>intro i;cases i|val v=>intro _;exact .aG (.val v)|dC b v h=>intro _;exact .aG (.dC b v h)|nil=>intro i;cases i|jk _ _=>intro i;cases i|sl _ _ _ _ _ _ _ _ _ _ _=>intro i;cases i|ptr _ _ _ _ _ _ _ _=>intro i;cases i|agg d C F p H=>intro i;exact .agg d C F fun j g v q t=>H j g v q t (CI i j g q)
 clear L;induction z with|aG h=>exact Y h i|fr h=>refine .fr (h.mono (Kept.refl _ _) ?_);rintro b X D (u|u|u);exact D (.inl (by show b<w.heap.size;omega));exact D (.inl (by have:=M b u;show b<w.heap.size;omega));exact D (.inl (J b u))|agg d C F p H=>exact .agg d C F fun j g v q t=>H j g v q t (CI i j g q)|bE d C F p H=>exact .bE d C F fun j g v q t=>H j g v q t (CI i j g q)|_=>cases i
def EF.call{f:FuncId}{xs:Array Operand}{ts:Array TypeId}{gs i:List G}{Q:G->List (Nat×aw)->Prop}(n:Nat)(I:∀args w,(callFunc f args).run P w=.ok (.enter f args) w)(hx:wO s xs.toList=some gs)(l:eX (uk n s.st) gs=some i)(c:GM P f i [] Q)(k:∀r st',Q r st'->k4 r=true):cu P W s ⟨some d,.call ⟨.value (.func f),xs,ts⟩,ty,pos,after,guard⟩ (fun u=>∃r st',Q r st'/\u=s.put d r):=by
 refine⟨(fun _ h=>by cases h),?_⟩;intro N L y a w t H K J z;obtain⟨A,B⟩:=oY hx;have b:=KB (vs:=xs.toList.map a.eval) (W:=W) n t l (by simp[A]) (fun j g v D l=>by obtain⟨x,o,F⟩:=B j g D;rw[ao,o] at l;cases l;exact t.ev F) c k;unfold Oper.wp;have:(execOp a.eval ⟨some d,.call ⟨.value (.func f),xs,ts⟩,ty,pos,after,guard⟩).run P w=.ok (.enter f (xs.toList.map a.eval).toArray) w:=by (have e:xs.map a.eval=(xs.toList.map a.eval).toArray:=by rw[<-iF]);simp[execOp,resolve,invoke,Deferred.ofValue,Act.eval,I,e]
 rw[this];refine b.mono ?_;rintro e C ⟨v,r,st',rfl,E,p,q,m⟩;exact z y _ _ C (p.put (H d rfl) q) ⟨r,st',E,rfl⟩ m
def Cd{P:Program}{a:Act}{w:World}{d:Nat}{ty:TypeId}{pos:String}{after:Array Edge}{guard:Option (Nat×Bool)}{f:FuncId}{x:Operand}{xs:Array Operand}{ts:Array TypeId}{h:List Value}(hb:vP f xs.toList=true)(n:∀args w,(callFunc f args).run P w=.ok (.enter f args) w)(c:a.eval x=sU f h):(execOp a.eval ⟨some d,.call ⟨.value x,xs,ts⟩,ty,pos,after,guard⟩).run P w=.ok (.enter f (xs.toList.map a.eval++h).toArray) w:=by
 obtain⟨A,B,i,g,k,m⟩:=Ja f h;rw[i] at c;have e:A++xs.map a.eval++B=(xs.toList.map a.eval++h).toArray:=by cases b:tY.contains f with|false=>rw[k b,Array.empty_append] at g|-;rw[g,<-List.append_toArray,<-iF]|true=>(have j:xs=#[]:=by cases xs with|mk l=>cases l with|nil=>rfl|cons y r=>simp[vP] at hb;exact absurd b (by simp[hb]));subst j;rw[m b] at g|-;simpa using g
 simp[execOp,resolve,invoke,Deferred.ofValue,c,n,e]
def EF.aaA{f:FuncId}{x:Operand}{xs:Array Operand}{ts:Array TypeId}{gs caps k:List G}{Q:G->List (Nat×aw)->Prop}(n:Nat)(hb:vP f xs.toList=true)(J:∀args w,(callFunc f args).run P w=.ok (.enter f args) w)(hf:ev s x=some (.bf f caps))(hx:wO s xs.toList=some gs)(b:eX (uk n s.st) (gs++caps)=some k)(l:GM P f k [] Q)(m:∀r st',Q r st'->k4 r=true):cu P W s ⟨some d,.call ⟨.value x,xs,ts⟩,ty,pos,after,guard⟩ (fun D=>∃r st',Q r st'/\D=s.put d r):=by refine⟨(fun _ h=>by cases h),?_⟩;intro N U M a w z E K T L;obtain⟨C,O⟩:=oY hx;have i:=z.ev hf;generalize u:a.eval x=V at i;cases i with|aG h=>cases h|bf _ _ F H p=>have c:=KB (vs:=xs.toList.map a.eval++F) (W:=W) n z b (by simp[C,H]) (fun j g v o b=>by rw[bZ] at o b;rw[aJ,<-C] at b;split at o;rename_i q;rw[if_pos q] at b;obtain⟨x,y,I⟩:=O j g o;rw[ao,y] at b;cases b;exact z.ev I;rename_i q;rw[if_neg q] at b;exact p _ g v o b) l m;unfold Oper.wp;have:=Cd (P:=P) (w:=w) (d:=d) (ty:=ty) (pos:=pos) (after:=after) (guard:=guard) (ts:=ts) hb J u;rw[this];refine c.mono ?_;rintro e S ⟨v,r,st',rfl,R,B,A,t⟩;exact L M _ _ S (B.put (E d rfl) A) ⟨r,st',R,rfl⟩ t
end
end Go.AM
/-
 AM,part N:the steps in the form in which a walk takes them;encodings.
-/
namespace Go.AM
section
variable {P:Program}{N:Nat}{cx:Cx}{Q:Exit→St→Prop}{s:St}{ops:Array Oper}{rest:List Oper}
variable {d:Nat}{op:Op}{ty:TypeId}{pos:String}{after:Array Edge}{guard:Option (Nat×Bool)}
def GL.py{g:G}(b:PY P s ⟨some d,op,ty,pos,after,guard⟩ g)(c:ey ops s guard=some true)(a:Nat.blt d N=true)(h:GL P N cx ops Q rest (s.put d g)):GL P N cx ops Q (⟨some d,op,ty,pos,after,guard⟩::rest) s:=GL.yield c rfl (by simpa[gO] using a) (b.yield []) h
def GL.y{g:G}(b:fQ P [] s ⟨some d,op,ty,pos,after,guard⟩ g)(c:ey ops s guard=some true)(a:Nat.blt d N=true)(h:GL P N cx ops Q rest (s.put d g)):GL P N cx ops Q (⟨some d,op,ty,pos,after,guard⟩::rest) s:=GL.yield c rfl (by simpa[gO] using a) b h
def GL.e{W:List Nat}{T:St->Prop}(f:cu P W s ⟨some d,op,ty,pos,after,guard⟩ T)(c:ey ops s guard=some true)(b:Nat.blt d N=true)(h:∀a,T a->GL P N cx ops Q rest a):GL P N cx ops Q (⟨some d,op,ty,pos,after,guard⟩::rest) s:=GL.effect c (fun g e=>by cases e;simpa[gO] using b) f h
def GL.e1{W:List Nat}{s1:St}(b:cu P W s ⟨some d,op,ty,pos,after,guard⟩ (·=s1))(c:ey ops s guard=some true)(a:Nat.blt d N=true)(h:GL P N cx ops Q rest s1):GL P N cx ops Q (⟨some d,op,ty,pos,after,guard⟩::rest) s:=GL.e b c a fun _ e=>e▸h
def GL.e0{W:List Nat}{s1:St}(b:cu P W s ⟨none,op,ty,pos,after,guard⟩ (·=s1))(a:ey ops s guard=some true)(h:GL P N cx ops Q rest s1):GL P N cx ops Q (⟨none,op,ty,pos,after,guard⟩::rest) s:=GL.effect a (fun c e=>by cases e) b fun _ e=>e▸h
end
def ints(l:List Int):List G:=l.map fun n=>.val (.int .i64 n)
@[simp] theorem aab(l:List Int):(ints l).length=l.length:=by simp[ints]
end Go.AM
/-
 AM,part O:data as Lean data:encodings;loops and joins as partial functions.
-/
namespace Go.AM
inductive Ex (β γ:Type) where
 | bL (b:β)
 | ret (r:γ)
def aY{c d a:Type}(inj:d->a)(m:Option (Ex c d))(k:c->Option a):Option a:=match m with|some (.bL b)=>k b|some (.ret r)=>some (inj r)|none=>none
def aL{σ a:Type}(body:σ->Option (σ⊕a)):Nat->σ->Option a|0,_=>none|n+1,x=>match body x with|some (.inl b)=>aL body n b|some (.inr r)=>some r|none=>none
def idx{α:Type}(l:List α)(i:Int):Option α:=if 0<=i then l[i.toNat]? else none
def Wz(l:ByteArray)(i:Int):Option UInt8:=if 0<=i then l[i.toNat]? else none
def Ue{l:ByteArray}{i:Int}{x:UInt8}(h:Wz l i=some x):0<=i/\l[i.toNat]?=some x:=by unfold Wz at h;split at h;rename_i a;exact⟨a,h⟩;cases h
def ba(p:Prop)[Decidable p]:Option Unit:=if p then some () else none
def pV{α:Type}{l:List α}{i:Int}{x:α}(h:idx l i=some x):0<=i/\i<(l.length:Int)/\l[i.toNat]?=some x:=by unfold idx at h;split at h;rename_i a;have:=(ap.1 h).1;exact⟨a,by omega,h⟩;cases h
def cI{p:Prop}[Decidable p]{u:Unit}(h:ba p=some u):p:=by unfold ba at h;split at h;assumption;cases h
def bind_some{α a:Type}{m:Option α}{k:α->Option a}{r:a}(h:m.bind k=some r):∃x,m=some x/\k x=some r:=Option.bind_eq_some_iff.1 h
def HQ{d f c:Type}{inj:f->c}{m:Option (Ex d f)}{k:d->Option c}{r:c}(h:aY inj m k=some r):∃e,m=some e/\(∀b,e=.bL b->k b=some r)/\(∀a,e=.ret a->inj a=r):=by unfold aY at h;split at h;exact⟨_,rfl,fun b e=>(by cases e;exact h),fun a e=>(by cases e)⟩;exact⟨_,rfl,fun b e=>(by cases e),fun a e=>(by cases e;cases h;rfl)⟩;cases h
def Hy{α:Type}{b:Bool}{x y:α}{r:α}(h:b=true)(H:cond b x y=r):x=r:=by rw[h] at H;exact H
def Hz{α:Type}{b:Bool}{x y:α}{r:α}(h:b=false)(H:cond b x y=r):y=r:=by rw[h] at H;exact H
section
variable {P:Program}{N:Nat}{cx:Cx}{Q:Exit→St→Prop}
def QB{a:Type}(d:Exit)(E:a->St)(b:a)(c:Exit)(s:St):Prop:=c=d/\Sub s (E b)
def QL{σ b:Type}(E:σ->St)(R:b->Exit->St->Prop):σ⊕b->Exit->St->Prop|.inl x,a,s=>a=.normal/\Sub s (E x)|.inr r,a,s=>a≠.normal/\R r a s
def GW.aL{σ f:Type}{c:Code}(E:σ->St)(R:f->Exit->St->Prop){body:σ->Option (σ⊕f)}{n:Nat}{g:σ}{e:f}(u:AM.aL body n g=some e)(l:∀x o,body x=some o->GW P N cx c (QL E R o) (E x))(m:∀d s,d≠.normal->R e d s->Q d s):GW P N cx (.loop c) Q (E g):=by let a:Nat->σ->Prop:=fun k x=>AM.aL body k x=some e;refine(GW.loop (P:=P) (N:=N) (cx:=cx) (Q:=Q) (σ:=Nat×σ) (fun x=>E x.2) (fun x=>a x.1 x.2) (fun x=>x.1) (n,g) u ?_);rintro⟨k,x⟩ b;cases k with|zero=>exact absurd b (by simp[a,AM.aL])|succ k=>simp only[a,AM.aL] at b;cases h:body x with|none=>rw[h] at b;cases b|some o=>rw[h] at b;refine(l x o h).mono fun d s i=>?_;cases o with|inl q=>obtain⟨rfl,t⟩:=i;exact⟨(k,q),b,Nat.lt_succ_self k,t⟩|inr r=>cases b;obtain⟨j,p⟩:=i;have:=m d s j p;cases d <;> first|exact absurd rfl j|exact this
def PH{id:Nat}:Exit.exit id≠Exit.normal:=fun h=>by cases h
def vi.mk{fn:Func}{b:G->List (Nat×aw)->Prop}{s:St}{e:Exit}(c:e=.ret\/e=.normal)(gs:List G)(r:G)(st':List (Nat×aw))(h1:Du P s fn.results.toList gs)(h2:pB s.st st')(d:jj s.st st' (pack gs)=some r)(f:b r st')(a:s.df=[]:=by rfl):vi P fn b e s:=⟨c,a,gs,r,st',h1,h2,d,f⟩
end
def Cs(n:Int):Prop:=-9223372036854775808<=n/\n<=9223372036854775807
def Mp(s:ByteArray):Prop:=s.size<=9223372036854775807
def abd{α:Type}(ok:α->Prop)(l:List α):Prop:=l.length<=9223372036854775807/\∀x∈l,ok x
class aI (α:Type) where
 sz:Nat
 cells:α→List G
 len:∀a,(cells a).length=sz
 pos:0<sz
 one:∀a g,g∈cells a→g.one=true
def cz{α:Type}[aI α](l:List α):List G:=l.flatMap aI.cells
instance:aI Int:=⟨1,fun n=>[.val (.int .i64 n)],fun _=>rfl,by decide,fun a g h=>by simp at h;subst h;rfl⟩
instance:aI Bool:=⟨1,fun n=>[.val (.bool n)],fun _=>rfl,by decide,fun a g h=>by simp at h;subst h;rfl⟩
instance:aI ByteArray:=⟨1,fun n=>[.val (.string n)],fun _=>rfl,by decide,fun a g h=>by simp at h;subst h;rfl⟩
instance {α:Type}[aI α]:aI (List α):=⟨1,fun l=>[.sl l.length (cz l)],fun _=>rfl,by decide,fun a g h=>by simp at h;subst h;rfl⟩
section
variable {α:Type}[aI α]
def fN(l:List α):(cz l).length=l.length*aI.sz α:=by unfold cz;induction l with|nil=>simp|cons x r a=>rw[cd,aK,a,aI.len,bQ,fp];omega
def VY(l:List α):∀g,g∈cz l->g.one=true:=by intro g b;obtain⟨a,_,h⟩:=qf.1 b;exact aI.one a g h
def rC{l:List α}{i:Nat}{x:α}(h:l[i]?=some x){j:Nat}(b:j<aI.sz α):(cz l)[i*aI.sz α+j]?=(aI.cells x)[j]?:=by
 unfold cz;rw[uq aI.cells (aI.sz α) aI.pos l (fun a _=>aI.len a)];have d:(i*aI.sz α+j)/aI.sz α=i:=by rw[k6,Nat.mul_add_div aI.pos,Nat.div_eq_of_lt b];rfl
 have c:(i*aI.sz α+j)%aI.sz α=j:=by rw[k6,Nat.mul_add_mod,Nat.mod_eq_of_lt b]
 rw[d,c,h];rfl
def KO{l:List α}{i:Nat}{x:α}(h:l[i]?=some x){j:Nat}(a:j<aI.sz α):((cz l).drop (i*aI.sz α))[j]?=(aI.cells x)[j]?:=by rw[bC];exact rC h a
def Ez(l m:List α):cz (l++m)=cz l++cz m:=by simp[cz]
def TZ(x:α)(l:List α):cz (x::l)=aI.cells x++cz l:=rfl
def IW(l:List α):(cz l).take (l.length*aI.sz α)=cz l:=dc (by rw[fN];exact aH _)
def uQ(l:List α)(n:Nat):(cz l).take (n*aI.sz α)=cz (l.take n):=by unfold cz;induction l generalizing n with|nil=>simp|cons x r b=>cases n with|zero=>simp|succ n=>rw[List.take_succ_cons,cd,cd,List.take_append,aI.len,<-b n];(have a:(n+1)*aI.sz α-aI.sz α=n*aI.sz α:=by rw[fp];omega);rw[a,dc (by rw[aI.len,fp];omega)]
def CR(l:List α)(n:Nat):(cz l).drop (n*aI.sz α)=cz (l.drop n):=by unfold cz;induction l generalizing n with|nil=>simp|cons x r b=>cases n with|zero=>simp|succ n=>rw[List.drop_succ_cons,cd,List.drop_append,aI.len,<-b n];(have a:(n+1)*aI.sz α-aI.sz α=n*aI.sz α:=by rw[fp];omega);rw[a,List.drop_of_length_le (by rw[aI.len,fp];omega),iz]
end
end Go.AM
/-
 AM,part P:the steps over encoded data.
-/
namespace Go.AM
section
variable {α:Type}[aI α]
variable {P:Program}{N:Nat}{cx:Cx}{s:St}{W:List Nat}
variable {dst:Option Tmp}{ty:TypeId}{pos:String}{after:Array Edge}{guard:Option (Nat×Bool)}
def Yx{l:List α}{i:Int}{x:α}(h:idx l i=some x){j:Nat}{g:G}(hg:(aI.cells x)[j]?=some g):(cz l)[i.toNat*aI.sz α+j]?=some g:=by
 have a:j<aI.sz α:=by have:=(ap.1 hg).1;rw[aI.len] at this;exact this
 rw[rC (pV h).2.2 a];exact hg
def YT.iU{l:List α}{i:Int}{x:α}{t:TypeId}{b:Operand}{g:G}(hx:ev s b=some (.ptr ((cz l).drop (i.toNat*aI.sz α))))(h:idx l i=some x)(hg:(aI.cells x)[0]?=some g)(a:∀w,(isAgg t).run P w=.ok false w):fQ P W s ⟨dst,.load t b,ty,pos,after,guard⟩ g:=YL.ptr hx (by rw[bC];exact Yx h hg) a
def Ns{l:List α}{i:Int}{x:α}(h:idx l i=some x):((cz l).drop (i.toNat*aI.sz α)).take (aI.sz α)=aI.cells x:=by apply dm;intro j;rw[br];split;rename_i a;exact KO (pV h).2.2 a;rename_i a;rw[bT];rw[aI.len];omega
variable {d:Nat}
def ET.append{l m:List α}{t e:TypeId}{v w:Operand}{h bt:Nat}{k:aw}{q:G}{f:Bool}{z:Value}(hx:ev s v=some (.aN h (aI.sz α) 0 l.length))(D:ev s w=some q)(y:az s.st h=some k)(x:k.cells=cz l)(A:k.pure=true)(c:k.bP=e)(b:k.sz=aI.sz α)(j:AF s.st (aI.sz α) q=some (cz m,m.length,f))(o:q.cD h=false)(ht:P.underlying t=some (.slice e))(hi:(P.info? e).map (fun i=>(i.zero,i.size,i.bytes))=some (some z,aI.sz α,bt))(n:z.cells.size=aI.sz α)(C:l.length+m.length<=maxLen)(a:(l.length+m.length)*bt<=140737488355328)(B:W.contains h=true)(p:k.lp=none:=by rfl)(r:pinned h=false:=by rfl)(u:qE h s.df=true:=by rfl):cu P W s ⟨some d,.call ⟨.builtin .append,#[v,w],#[t,t]⟩,ty,pos,after,guard⟩ (·={fr:=(d,.aN h (aI.sz α) 0 (l++m).length)::nN h s.fr,st:=(h,{k with fresh:=k.fresh&&f,cells:=cz (l++m)})::gJ h s.st,df:=s.df}):=by have:=EF.append (P:=P) (d:=d) (W:=W) (ty:=ty) (pos:=pos) (after:=after) (guard:=guard) hx D y A c b (by rw[x,fN]) j (by rw[fN]) (fun g E=>VY m g E) o ht hi n aI.pos C a B p r u;rw[Ez,aK,<-x];exact this
def Zs{st st':List (Nat×aw)}{h:Nat}{k:aw}{l:List α}(b:az st h=some k)(hn:az st' h=none)(c:k.pure=true)(d:k.eC=true)(hf:k.fresh=true)(e:k.cells=cz l)(a:k.lp=none:=by rfl):jj st st' (.aN h (aI.sz α) 0 l.length)=some (.fr (.sl l.length (cz l))):=by simp only[jj,hn,b,c,d,hf,e,a,ib,IW,cond_true]
end
end Go.AM
/-
 AM,part Q:a slot whose value is known;two loads of which either may come up first.
-/
namespace Go.AM
section
variable {P:Program}{N:Nat}{cx:Cx}{Q:Exit→St→Prop}{s:St}{ops:Array Oper}{rest:List Oper}
def Rel.dup{μ:Mu}{a:Act}{w:World}{t:Nat}{g:G}(b:Rel N cx μ s a w)(hg:get s.fr t=some g):Rel N cx μ {fr:=(t,g)::s.fr,st:=s.st,df:=s.df} a w:={st:=b.st,nd:=b.nd,sz:=b.sz,fr:=fun c d h=>by simp only[get] at h;cases e:t.beq c with|true=>rw[e,cond_true] at h;cases h;have e:=ab e;subst e;exact b.fr _ _ hg|false=>rw[e,cond_false] at h;exact b.fr _ _ h}
def Rel.UZ{μ:Mu}{a:Act}{w:World}{t h sz off n m:Nat}(b:Rel N cx μ s a w)(hg:get s.fr t=some (.aN h sz off n))(hn:n=m):Rel N cx μ {fr:=(t,.aN h sz off m)::s.fr,st:=s.st,df:=s.df} a w:=by subst hn;exact b.dup hg
def GL.UZ(t:Nat){h sz off n m:Nat}(hg:get s.fr t=some (.aN h sz off n))(hn:n=m)(k:GL P N cx ops Q rest {fr:=(t,.aN h sz off m)::s.fr,st:=s.st,df:=s.df}):GL P N cx ops Q rest s:=fun c a w b=>k c a w (b.UZ hg hn)
def GL.lit(t:Nat){b v:Bool}(hg:get s.fr t=some (.val (.bool b)))(hb:b=v)(h:GL P N cx ops Q rest {fr:=(t,.val (.bool v))::s.fr,st:=s.st,df:=s.df}):GL P N cx ops Q rest s:=fun d a w c=>by subst hb;exact h d a w (c.dup hg)
def sa.lit{W:List Nat}{d:Nat}{c:Array Bool}(t:Nat){b v:Bool}(hg:get s.fr t=some (.val (.bool b)))(hb:b=v)(h:sa P N cx ops Q W d c {fr:=(t,.val (.bool v))::s.fr,st:=s.st,df:=s.df}):sa P N cx ops Q W d c s:=fun f a w e=>by subst hb;exact h f a w (e.dup hg)
def gr.lit{W:List Nat}{d:Nat}{c:Array Bool}(t:Nat){b v:Bool}(hg:get s.fr t=some (.val (.bool b)))(hb:b=v)(h:gr P N cx ops Q W d c {fr:=(t,.val (.bool v))::s.fr,st:=s.st,df:=s.df}):gr P N cx ops Q W d c s:=fun f g i a w e=>by subst hb;exact h f g i a w (e.dup hg)
end
section
variable {α:Type}[aI α]
variable {P:Program}{N:Nat}{cx:Cx}{s:St}{W:List Nat}
variable {dst:Option Tmp}{ty:TypeId}{pos:String}{after:Array Edge}{guard:Option (Nat×Bool)}
end
end Go.AM
/-
 AM,part R:struct values put together;an empty slice written out;operations that were skipped.
-/
namespace Go.AM
section
variable {P:Program}{N:Nat}{cx:Cx}{Q:Exit→St→Prop}{s:St}{ops:Array Oper}{rest:List Oper}
def Rel.undef{μ:Mu}{a:Act}{w:World}{d:Nat}(h:Rel N cx μ s a w)(c:d<N):Rel N cx μ (s.put d (.bE [])) (a.put (some d) Go.undef) w:=h.put c (.bE [] [] rfl fun j g v b=>by cases b)
def GL.abe{d:Nat}{op:Op}{ty:TypeId}{pos:String}{after:Array Edge}{guard:Option (Nat×Bool)}(c:ey ops s guard=some false)(e:Nat.blt d N=true)(h:GL P N cx ops Q rest (s.put d (.bE []))):GL P N cx ops Q (⟨some d,op,ty,pos,after,guard⟩::rest) s:=by intro f a w b;unfold wpListIn;rw[if_neg (by rw[fH b c];simp)];refine⟨fun _ _=>trivial,?_⟩;exact h f _ w (b.undef (by simpa[gO] using e))
def sa.DD{W:List Nat}{f:Nat}{b:Array Bool}(i:Nat){o:Oper}{d:Nat}(n:Ob Q (wQ ops))(hi:ops[i]?=some o)(j:Region.noSelect ops=true)(hf:Region.free .any ops b i=true)(k:(Region.ready .any ops b).contains i=true)(g:ey ops s o.guard=some false)(hd:o.dst=some d)(m:d<N)(h:sa P N cx ops Q W f (b.setIfInBounds i true) (s.put d (.bE []))):sa P N cx ops Q W (f+1) b s:=by intro l a w e;refine wpAnyH_take (v:=undef) hi j hf k (fun c q p h=>vK n (Ap hi hd) (hd▸h)) (.inr ⟨fH e g,rfl⟩) ⟨aH _,fun _ _ _=>rfl⟩ ?_;rw[hd];exact h l _ w (e.undef m)
def gr.DD{W:List Nat}{f:Nat}{b:Array Bool}(i:Nat){o:Oper}{d:Nat}(n:Ob Q (wQ ops))(hi:ops[i]?=some o)(t:Region.noSelect ops=true)(hf:Region.free .any ops b i=true)(k:(Region.ready .any ops b).contains i=true)(l:ey ops s o.guard=some false)(hd:o.dst=some d)(m:d<N)(h:gr P N cx ops Q W f (b.setIfInBounds i true) (s.put d (.bE []))):gr P N cx ops Q W (f+1) b s:=by intro j p q a w e g r;refine wpAnyH_take (v:=undef) hi t hf k (fun c v u h=>vK n (Ap hi hd) (hd▸h)) (.inr ⟨fH e l,rfl⟩) g ?_;rw[hd];exact h j p q _ w (e.undef m) g r
end
section
variable {P:Program}{N:Nat}{cx:Cx}{s:St}{W:List Nat}{d:Nat}
variable {dst:Option Tmp}{ty:TypeId}{pos:String}{after:Array Edge}{guard:Option (Nat×Bool)}
def EF.OD{t e:TypeId}{sz:Nat}{z:Value}{bt:Nat}(hd:Nat)(ht:P.underlying t=some (.slice e))(hi:(P.info? e).map (fun i=>(i.zero,i.size,i.bytes))=some (some z,sz,bt))(k:fresh s hd=true):cu P W s ⟨some d,.buildSlice t 0 #[],ty,pos,after,guard⟩ (·={fr:=(d,.aN hd sz 0 0)::s.fr,st:=(hd,⟨e,true,true,true,sz,[],none⟩)::s.st,df:=s.df}):=by
 refine cu.of (s1:={fr:=s.fr,st:=(hd,⟨e,true,true,true,sz,[],none⟩)::s.st,df:=s.df}) (g:=.aN hd sz 0 0) rfl (fun _ h=>by cases h) ?_;intro N A B a w q;obtain⟨i,l,c⟩:=aA.1 hi;simp only[qJ] at c;obtain⟨y,o,p⟩:=c;obtain⟨g,x,rfl,u,n,r⟩:=q.uf (k:=⟨e,true,true,true,sz,[],none⟩) (cs:=#[]) k rfl (by simp) (fun _=>by simp) (fun j v b=>by simp at b) (fun _ v b=>by simp at b) W;refine⟨_,g,_,?_,u,.aN hd sz 0 0 _ _ 0 n (aH _) (by simp),r⟩;have f:(Instr.buildSlice t 0 #[]).run P w=.ok (.slice (some ⟨w.heap.size,0,none⟩) 0 0) (w.alloc (.cells #[] e)):=by (have m:(Array.range 0).map (fun _=>(default:Value))=#[]:=by apply Array.eq_empty_of_size_eq_zero;simp);simp[Instr.buildSlice,run_underlying ht,sizeOf,typeInfo,l,Instr.fill,newRow];rw[m]
 simp[execOp,f]
def setAt{α:Type}(cs:List α)(off:Nat):List α->List α|[]=>cs|x::r=>setAt (cs.set off x) (off+1) r
def DQ(a:Nat->Option (Nat×Nat))(cells:List G):List (Nat×G)->Option (List G)|[]=>some cells|(i,g)::r=>match a i with|some (c,b)=>(match G8 g&&(Nat.beq (cZ g).length b&&Nat.ble (c+b) cells.length) with|true=>DQ a (setAt cells c (cZ g)) r|false=>none)|none=>none
def Nn(s:St):List (Nat×Operand)->Option (List (Nat×G))|[]=>some []|(i,x)::r=>match ev s x,Nn s r with|some g,some a=>some ((i,g)::a)|_,_=>none
def vj(O:Nat->Prop)(base:Nat)(w:World)(μ:Mu)(gs:List G)(vs:List Value):Prop:=vs.length=gs.length/\∀(j:Nat) (g:G) (v:Value),gs[j]?=some g->vs[j]?=some v->aU O base w μ g v
def vj.set{O:Nat->Prop}{base:Nat}{w:World}{μ:Mu}{gs:List G}{vs:List Value}(h:vj O base w μ gs vs)(off:Nat){g:G}{v:Value}(c:aU O base w μ g v):vj O base w μ (gs.set off g) (vs.set off v):=by refine⟨by simp[h.1],fun j f d a b=>?_⟩;rw[dQ] at a b;by_cases e:off=j;subst e;rw[if_pos rfl] at a b;split at a;split at b;cases a;cases b;exact c;cases b;cases a;rw[if_neg e] at a b;exact h.2 j f d a b
def vj.setAt{O:Nat->Prop}{base:Nat}{w:World}{μ:Mu}:∀(b:List G) (a:List Value) (off:Nat){gs:List G}{vs:List Value},vj O base w μ gs vs->vj O base w μ b a->vj O base w μ (AM.setAt gs off b) (AM.setAt vs off a)|[],[],_,_,_,h,_=>h|[],_::_,_,_,_,_,h=>by cases h.1|_::_,[],_,_,_,_,h=>by cases h.1|g::b,v::a,off,_,_,h,c=>vj.setAt b a (off+1) (h.set off (c.2 0 g v rfl rfl)) ⟨by have:=c.1;simpa using this,fun j e f i d=>c.2 (j+1) e f i d⟩
def Et(off:Nat):∀(l:List Value) (k:Nat) (cs:Array Value),((l.zipIdx k).foldl (fun cs (x:Value×Nat)=>cs.setIfInBounds (off+x.2) x.1) cs).toList=setAt cs.toList (off+k) l|[],_,_=>rfl|x::r,k,cs=>by simp only[List.zipIdx_cons,cE,setAt];rw[Et off r (k+1)];simp[Nat.add_assoc]
def G9{O:Nat->Prop}{base:Nat}{w:World}{μ:Mu}{a:Nat->Option (Nat×Nat)}:∀(o:List (Nat×G)) (l:List (Nat×Value)) (gs:List G) (vs:Array Value) (c:List G),DQ a gs o=some c->vj O base w μ gs vs.toList->l.length=o.length->(∀(j:Nat) (x:Nat×G) (y:Nat×Value),o[j]?=some x->l[j]?=some y->x.1=y.1/\aU O base w μ x.2 y.2)->∃cs,Instr.fill a vs l=some cs/\vj O base w μ c cs.toList|[],[],gs,vs,c,h,p,_,_=>by cases h;exact⟨vs,rfl,p⟩|[],_::_,_,_,_,_,_,n,_=>by cases n|_::_,[],_,_,_,_,_,n,_=>by cases n|(i,g)::o,(P,v)::l,gs,vs,c,h,p,n,B=>by obtain⟨e,C⟩:=B 0 _ _ rfl rfl;simp only at e C;subst e;simp only[DQ] at h;cases k:a i with|none=>rw[k] at h;cases h|some F=>obtain⟨b,d⟩:=F;rw[k] at h;simp only at h;cases q:G8 g&&(Nat.beq (cZ g).length d&&Nat.ble (b+d) gs.length) with|false=>rw[q] at h;cases h|true=>rw[q] at h;simp only[ag] at q;obtain⟨H,D,E⟩:=q;have D:=ab D;have E:=fS E;obtain⟨I,J⟩:=C.cells H;(have s:vj O base w μ (cZ g) v.cells.toList:=by refine⟨by rw[cj];exact I,fun j M N t r=>?_⟩;obtain⟨u,K,z⟩:=J j M t;rw[bz,K] at r;cases r;exact z);have A:=vj.setAt _ _ b p s;(have L:vs.size=gs.length:=by rw[<-p.1,cj]);(have m:Instr.fill a vs ((i,v)::l)=Instr.fill a (v.cells.zipIdx.foldl (fun cs (x:Value×Nat)=>cs.setIfInBounds (b+x.2) x.1) vs) l:=by simp only[Instr.fill,k];rw[if_neg (by simp;omega)]);rw[m];(have f:(v.cells.zipIdx.foldl (fun cs (x:Value×Nat)=>cs.setIfInBounds (b+x.2) x.1) vs).toList=AM.setAt vs.toList b v.cells.toList:=by rw[<-Array.foldl_toList,Array.toList_zipIdx];exact Et b v.cells.toList 0 vs);refine G9 o l _ _ c h (by rw[f];exact A) (by simpa using n) fun j x y t r=>B (j+1) x y t r
def Nl{μ:Mu}{a:Act}{w:World}(h:Rel N cx μ s a w):∀(l:List (Nat×Operand)) (c:List (Nat×G)),Nn s l=some c->(l.map fun x=>(x.1,a.eval x.2)).length=c.length/\∀(j:Nat) (x:Nat×G) (y:Nat×Value),c[j]?=some x->(l.map fun x=>(x.1,a.eval x.2))[j]?=some y->x.1=y.1/\aU (cx.O s.st μ) cx.base w μ x.2 y.2|[],c,b=>by cases b;exact⟨rfl,fun j x y h=>by cases h⟩|(i,x)::r,c,b=>by simp only[Nn] at b;cases d:AM.ev s x with|none=>rw[d] at b;cases b|some g=>rw[d] at b;cases e:Nn s r with|none=>rw[e] at b;cases b|some m=>rw[e] at b;cases b;obtain⟨p,n⟩:=Nl h r m e;refine⟨by simpa using p,fun j o y k f=>?_⟩;cases j with|zero=>cases k;cases f;exact⟨rfl,h.ev d⟩|succ j=>exact n j o y k f
def PY.build{t:TypeId}{c:Array (Nat×Operand)}{o:Array Field}{z:Value}{b:List (Nat×Nat)}{n:List (Nat×G)}{d:List G}(ht:P.underlying t=some (.struct o))(r:(P.info? t).map (·.zero)=some (some z))(F:o.toList.mapM (fun f=>(P.info? f.type).map fun i=>(f.offset,i.size))=some b)(D:Nn s c.toList=some n)(hf:DQ (b[·]?) (z.cells.toList.map .val) n=some d):PY P s ⟨dst,.build t c,ty,pos,after,guard⟩ (.agg d):=fun N k l a w E=>by obtain⟨J,y,A⟩:=aA.1 r;obtain⟨B,C⟩:=Nl E _ _ D;obtain⟨m,u,q⟩:=G9 (O:=k.O s.st l) (base:=k.base) (w:=w) (μ:=l) n _ _ z.cells d hf ⟨by simp,fun j g v p H=>by rw[ao,H] at p;cases p;exact .aG (.val _)⟩ B C;(have I:∀h,(Instr.build t (c.map fun (x:Nat×Operand)=>(x.1,a.eval x.2))).run P h=.ok (.agg m) h:=fun h=>by refine Go.run_build h t _ m ?_;unfold Program.built;simp only[y,ht,A,F];rw[iF];(have e:(fun x:Nat=>b.toArray[x]?)=(fun x:Nat=>b[x]?):=by funext x;simp);rw[e];exact u);refine⟨.agg m,?_,fun h=>?_⟩;have:=aU.agg (O:=k.O s.st l) (base:=k.base) (w:=w) (μ:=l) d m.toList q.1 q.2;simpa using this;simp[execOp,I]
def run_equal_bool{t:TypeId}(ht:P.underlying t=some .bool)(a b:Bool)(w:World):(Op.equal t (.bool a) (.bool b)).run P w=.ok (a==b) w:=by have e:∃n,Op.maxDepth=n+1:=⟨_,rfl⟩;obtain⟨n,e⟩:=e;unfold Op.equal;rw[e];simp[Op.equalIn,run_underlying ht]
def PY.abj{t t':TypeId}{x y:Operand}{a b:Bool}(hx:ev s x=some (.val (.bool a)))(d:ev s y=some (.val (.bool b)))(ht:P.underlying t=some .bool):PY P s ⟨dst,.binOp .eql t x y t',ty,pos,after,guard⟩ (.val (.bool (a==b))):=fun _ _ _ _ _ c=>by refine⟨_,.aG (.val _),fun e=>?_⟩;simp[execOp,c.val hx,c.val d,eqGuard,binOp,run_equal_bool ht]
def PY.abf{t t':TypeId}{x y:Operand}{a b:Bool}(hx:ev s x=some (.val (.bool a)))(d:ev s y=some (.val (.bool b)))(ht:P.underlying t=some .bool):PY P s ⟨dst,.binOp .neq t x y t',ty,pos,after,guard⟩ (.val (.bool (!(a==b)))):=fun _ _ _ _ _ c=>by refine⟨_,.aG (.val _),fun e=>?_⟩;simp[execOp,c.val hx,c.val d,eqGuard,binOp,run_equal_bool ht]
end
end Go.AM
/-
 AM,part S:is a slice nil?
-/
namespace Go.AM
noncomputable def Al{b:Type}(n:Int)(c a:Option b):Option b:=open Classical in if n=0 then(if c=a then c else none) else a
def J0{b:Type}{n:Int}{c a:Option b}{r:b}(h:Al n c a=some r):(n=0->c=some r)/\a=some r:=by unfold Al at h;split at h;split at h;rename_i e;exact⟨fun _=>h,e▸h⟩;cases h;exact⟨fun e=>absurd e (by assumption),h⟩
section
variable {P:Program}{N:Nat}{cx:Cx}{Q:Exit→St→Prop}{s:St}{ops:Array Oper}{rest:List Oper}
def aU.UP{O:Nat->Prop}{base:Nat}{w:World}{μ:Mu}{g:G}{v:Value}{n:Int}(h:aU O base w μ g v)(hn:Q4 g=some n):∃b m c,v=.slice b m c/\(m:Int)=n/\(b=none->n=0):=by
 have q:∀(O:Nat->Prop) (n:Nat) (e:List G) (v:Value),bN O w (.sl n e) v->∃b m c,v=.slice b m c/\m=n/\(b=none->n=0):=by intro O n e v h;cases h with|nil=>exact⟨none,0,0,rfl,rfl,fun _=>rfl⟩|jk a d=>exact⟨some a,0,d,rfl,rfl,fun h=>rfl⟩|sl _ _ b j d=>exact⟨_,n,d,rfl,rfl,fun h=>by cases h⟩
 cases g with|sl f e=>(cases hn;cases h with|aG h=>obtain⟨b,m,c,o,l,p⟩:=q _ _ _ _ h;exact⟨b,m,c,o,by rw[l],fun h=>by rw[p h];rfl⟩)|fr g=>(cases h with|aG h=>cases h|fr h=>cases g with|sl f e=>cases hn;obtain⟨b,m,c,o,l,p⟩:=q _ _ _ _ h;exact⟨b,m,c,o,by rw[l],fun h=>by rw[p h];rfl⟩|_=>cases hn)|aN t s j f=>(cases hn;cases h with|aG h=>cases h|gz=>exact⟨none,0,0,rfl,rfl,fun _=>rfl⟩|aN _ _ _ _ b m d=>exact⟨_,f,d,rfl,rfl,fun h=>by cases h⟩|fD _ _ r b m _ _=>exact⟨_,0,0,rfl,rfl,fun _=>rfl⟩)|ks t i s f=>(cases hn;cases h with|aG h=>cases h|my _ _ _ x d=>exact⟨x,0,d,rfl,rfl,fun _=>rfl⟩|ks _ _ _ _ b m c k d=>exact⟨_,f,d,rfl,rfl,fun h=>by cases h⟩)|val u=>(cases h with|aG h=>cases h;cases v with|slice b m c=>(cases b with|none=>(cases m with|zero=>(cases c with|zero=>cases hn;exact⟨none,0,0,rfl,rfl,fun _=>rfl⟩|succ c=>cases hn)|succ m=>cases hn)|some b=>cases hn)|_=>cases hn)|_=>cases hn
theorem Ss {t e:TypeId}(ht:P.underlying t=some (.slice e)) (xo yo:Operand) (b:Option Addr) (m c:Nat) (w:World):
  (do eqGuard .eql t xo yo (.slice b m c) (.slice none 0 0);binOp .eql t (.slice b m c) (.slice none 0 0):Sem Value).run P w=.ok (.bool b.isNone) w:=by
 have h:=Lib.run_eql_slice_nil (P:=P) w t e b m c 0 0 ht;have hg:(eqGuard .eql t xo yo (.slice b m c) (.slice none 0 0)).run P w=.ok () w:=by simp[eqGuard]
 simp only[Sem.run_bind,hg,Result.andThen_ok,h]
theorem Sr {t e:TypeId}(ht:P.underlying t=some (.slice e)) (xo yo:Operand) (b:Option Addr) (m c:Nat) (w:World):
  (do eqGuard .neq t xo yo (.slice b m c) (.slice none 0 0);binOp .neq t (.slice b m c) (.slice none 0 0):Sem Value).run P w=.ok (.bool (!b.isNone)) w:=by
 have h:=run_neq_slice_nil_any (P:=P) w t e b m c 0 0 ht;have hg:(eqGuard .neq t xo yo (.slice b m c) (.slice none 0 0)).run P w=.ok () w:=by simp[eqGuard]
 simp only[Sem.run_bind,hg,Result.andThen_ok,h]
end
end Go.AM
/-
 AM,part T:a block said in other words;slices given out of hand;a nil slice in a box taken in hand;lists written out.
-/
namespace Go.AM
section
variable {P:Program}{N:Nat}{cx:Cx}{Q:Exit→St→Prop}{s:St}{ops:Array Oper}{rest:List Oper}
def Rel.DA{μ:Mu}{a:Act}{w:World}(h:Rel N cx μ s a w){l:Nat}{k k':aw}(p:az s.st l=some k)(T:k'.bP=k.bP)(i:k'.eC=k.eC)(P:k'.sz=k.sz)(M:k'.cells.length<=k.cells.length)(E:k.lp=none)(n:k'.lp=none)(V:∀(j:Nat) (g':G),k'.cells[j]?=some g'->∃g,k.cells[j]?=some g/\∀v,dh (cx.O s.st μ) cx.base w μ k g v->dh (cx.O s.st μ) cx.base w μ k' g' v):Rel N cx μ {fr:=s.fr,st:=dJ s.st l k',df:=s.df} a w:=by have z:=h.st.ez l k p;cases u:μ l with|some bm=>obtain⟨b,m⟩:=bm;rw[u] at z;obtain⟨cs,c,o,Z,h4,h5,Y⟩:=z.cells E;exact(h.write p u (by rw[T];exact c) o rfl (fun _ _=>rfl) rfl rfl rfl (fun e=>i▸e) (cL M Z) (by rw[P];exact h5) (fun j g' F=>by obtain⟨g,H,I⟩:=V j g' F;obtain⟨v,C,J⟩:=Y j g H;exact⟨v,C,I v J⟩) [l] (by simp) n).1|none=>rw[u] at z;obtain⟨z,_⟩:=z;have K:k'.cells=[]:=bu (by rw[z] at M;simpa using M);have L:∀b,cx.O (dJ s.st l k') μ b↔cx.O s.st μ b:=fun b=>or_congr Iff.rfl (Own.dJ p);have D:∀b,b<w.heap.size->¬cx.O s.st μ b->¬cx.O (dJ s.st l k') μ b:=fun b _ hn U=>hn ((L b).1 U);(have f:∀x d,az (dJ s.st l k') x=some d->∃d,az s.st x=some d:=fun x d c=>by rcases dz p c with ⟨rfl,rfl⟩|⟨_,c⟩;exact⟨k,p⟩;exact⟨_,c⟩);refine {st:={ez:=?_,dr:=?_,cy:=?_,fJ:=?_,fq:=h.st.fq,hb:=h.st.hb,os:=h.st.os,tape:=h.st.tape,output:=h.st.output,gl:=h.st.gl,dB:=h.st.dB},nd:=h.nd.mono (Kept.refl _ _) D,sz:=h.sz,fr:=fun t g H=>?_};intro x d c;rcases dz p c with ⟨rfl,rfl⟩|⟨_,c⟩;rw[u];exact .nil K n;exact(h.st.ez x d c).mono (fun _ _ _ _ _=>rfl) (Kept.refl _ _) D;intro x R d X y A B b2 m2 c o;obtain⟨q,r⟩:=f x d c;obtain⟨O,Q⟩:=f R X o;exact h.st.dr x R q O y A B b2 m2 r Q;intro x d A B y c o;intro S;rcases dz p c with ⟨rfl,rfl⟩|⟨_,c⟩;obtain⟨a1,a2,a3,W⟩:=h.st.cy x k A B y p o S;exact⟨a1,a2,a3,fun u=>W (i▸u)⟩;exact h.st.cy x d A B y c o S;intro x d c o;obtain⟨q,r⟩:=f x d c;exact h.st.fJ x q r o;obtain⟨v,C,I⟩:=h.fr t g H;exact⟨v,C,I.mono (Kept.refl _ _) D (aH _)⟩
def Rel.zj{μ : Mu}{a : Act}{w : World}(h : Rel N cx μ s a w)(hd : Nat)(k : aw)(hf : fresh s hd = true)(o : ∀ O base w μ, aV O base w μ k none): Rel N cx (lD μ hd none) { fr := s.fr,st := (hd, k) :: s.st,df := s.df} a w:=by obtain ⟨q, t, j, l, m⟩ := gC hf;obtain ⟨n, f⟩ := h.st.zj q j (kj m) o;refine { st := n,nd := (h.nd.mono (Kept.refl _ _) (fun b _ => f b)).gZ (fun g p y d => bc fun e => by subst e;rw [p8 l p] at d;cases d),sz := h.sz,fr := fun r g c => ?_};obtain ⟨v, u, i⟩ := h.fr r g c;refine ⟨v, u, (i.mono (Kept.refl _ _) (fun b _ => f b) (aH _)).gZ fun y d => bc ?_⟩;intro e;subst e;rw [nm t c] at d;cases d
def Rel.GG{μ : Mu}{a : Act}{w : World}(h : Rel N cx μ s a w)(hd : Nat)(k : aw)(hf : fresh s hd = true)(c : k.cells = [])(b : k.lp = none): Rel N cx (lD μ hd none) { fr := s.fr,st := (hd, k) :: s.st,df := s.df} a w:=h.zj hd k hf fun _ _ _ _ => .nil c b
end
end Go.AM
/-
 AM,part U:parts of slices and of texts.
-/
namespace Go.AM
section
variable {α:Type}[aI α]
variable {P:Program}{N:Nat}{cx:Cx}{s:St}{W:List Nat}
variable {dst:Option Tmp}{ty:TypeId}{pos:String}{after:Array Edge}{guard:Option (Nat×Bool)}
def IX{t e:TypeId}(ht:P.underlying t=some (.slice e)):P.underlying t=some (.slice (P.elem t)):=by
 have:P.elem t=e:=by unfold Program.elem;rw[ht]
 rw[this];exact ht
def dZ(l:List α)(i j:Int):List α:=(l.drop i.toNat).take (j.toNat-i.toNat)
omit [aI α] in
theorem wE {l:List α}{i j:Int}(_:0≤i) (h1:i≤j) (h2:j≤(l.length:Int)):(dZ l i j).length=j.toNat-i.toNat:=by
 unfold dZ;rw[bA,bY];omega
def bN.part{O:Nat->Prop}{w:World}{l:List α}{v:Value}{i j:Int}(h:bN O w (.sl l.length (cz l)) v)(r:0<=i)(h1:i<=j)(h2:j<=(l.length:Int)):∃(a:Option Addr) (len c:Nat),v=.slice a len c/\(len:Int)=l.length/\j<=c/\(len:Int)<=c/\∀m:Nat,(m:Int)=c->bN O w (.sl (dZ l i j).length (cz (dZ l i j))) (sliced a i.toNat j.toNat m (aI.sz α)):=by
 have zero:l=[]->dZ l i j=[]:=fun e=>by subst e;simp[dZ]
 generalize u:l.length=n at h;generalize G:cz l=H at h;cases h with|nil=>have s:l=[]:=bu u;refine⟨none,0,0,rfl,by omega,by omega,by omega,fun m x=>?_⟩;rw[zero s];(obtain rfl:m=0:=by omega);(obtain rfl:i=0:=by omega);(obtain rfl:j=0:=by omega);exact .nil|jk a c=>have s:l=[]:=bu u;refine⟨some a,0,c,rfl,by omega,by omega,by omega,fun m x=>?_⟩;rw[zero s];(obtain rfl:i=0:=by omega);(obtain rfl:j=0:=by omega);unfold sliced;split;exact .jk _ _;exact .jk _ _|sl _ _ b t c A E z F f B=>subst u;subst G;refine⟨_,_,c,rfl,rfl,by omega,by omega,fun m x=>?_⟩;(obtain rfl:m=c:=by omega);unfold sliced;by_cases e:m=i.toNat;(have:(dZ l i j).length=0:=by rw[wE r h1 h2];omega);have C:dZ l i j=[]:=bu this;rw[C,if_pos e];(have D:j.toNat-i.toNat=0:=by omega);rw[D];exact .jk _ _;rw[if_neg e,cn,Addr.lK,wE r h1 h2];(have k:cz (dZ l i j)=((cz l).drop (i.toNat*aI.sz α)).take ((j.toNat-i.toNat)*aI.sz α):=by unfold dZ;rw[<-uQ,<-CR]);(have d:(cz (dZ l i j)).length=(j.toNat-i.toNat)*aI.sz α:=by rw[fN,wE r h1 h2]);(have y:i.toNat*aI.sz α+(j.toNat-i.toNat)*aI.sz α<=l.length*aI.sz α:=by rw[<-fp];exact b9 _ (by omega));refine .sl _ _ b (t+i.toNat*aI.sz α) (m-i.toNat) (fun q=>A (i.toNat*aI.sz α+q)) (by omega) z F (fun q o=>?_) (fun q g p=>?_);rw[d] at o;have:=f (i.toNat*aI.sz α+q) (by rw[fN];omega);rw[<-this];congr 2;omega;have o:=(ap.1 p).1;rw[d] at o;rw[k,br,if_pos o,bC] at p;exact B _ g p
def LY{t e:TypeId}(ht:P.underlying t=some (.slice e))(c:∀w,(sizeOf e).run P w=.ok (aI.sz α) w){k k':IntKind}{i j:Int}(a:Option Addr)(len b:Nat)(f:0<=i)(h1:i<=j)(h2:j<=b)(w:World):(Instr.sliceAt t (.slice a len b) (some (.int k i)) (some (.int k' j)) none).run P w=.ok (sliced a i.toNat j.toNat b (aI.sz α)) w:=by
 have d:=IX ht;have e:P.elem t=e:=by unfold Program.elem;rw[ht]
 rw[run_sliceAt_slice w t _ _ _ _ d,run_slice_lh w t a len b d k k' i j f h1 h2,e,c w];rfl
def Gl{t e:TypeId}(ht:P.underlying t=some (.slice e))(c:∀w,(sizeOf e).run P w=.ok (aI.sz α) w){k:IntKind}{i:Int}(a:Option Addr)(len b:Nat)(f:0<=i)(h1:i<=len)(w:World):(Instr.sliceAt t (.slice a len b) (some (.int k i)) none none).run P w=.ok (sliced a i.toNat len b (aI.sz α)) w:=by
 have d:=IX ht;have e:P.elem t=e:=by unfold Program.elem;rw[ht]
 rw[run_sliceAt_slice w t _ _ _ _ d,run_slice_l w t a len b d k i f h1,e,c w];rfl
def vB{t e:TypeId}(ht:P.underlying t=some (.slice e))(c:∀w,(sizeOf e).run P w=.ok (aI.sz α) w){k:IntKind}{j:Int}(a:Option Addr)(len b:Nat)(f:0<=j)(h1:j<=b)(w:World):(Instr.sliceAt t (.slice a len b) none (some (.int k j)) none).run P w=.ok (sliced a 0 j.toNat b (aI.sz α)) w:=by
 have d:=IX ht;have e:P.elem t=e:=by unfold Program.elem;rw[ht]
 rw[run_sliceAt_slice w t _ _ _ _ d,run_slice_h w t a len b d k j f h1,e,c w];rfl
def Gi(f:Bool)(l:List α):G:=bif f then .fr (.sl l.length (cz l)) else .sl l.length (cz l)
def aU.part{O:Nat->Prop}{base:Nat}{w:World}{μ:Mu}{f:Bool}{l:List α}{v:Value}{i j:Int}(h:aU O base w μ (Gi f l) v)(m:0<=i)(h1:i<=j)(h2:j<=(l.length:Int)):∃(a:Option Addr) (len b:Nat),v=.slice a len b/\(len:Int)=l.length/\j<=b/\(len:Int)<=b/\aU O base w μ (Gi f (dZ l i j)) (sliced a i.toNat j.toNat b (aI.sz α)):=by cases f with|false=>(cases h with|aG h=>obtain⟨a,len,b,e,d,g,k,c⟩:=h.part m h1 h2;exact⟨a,len,b,e,d,g,k,.aG (c b rfl)⟩)|true=>cases h with|aG h=>cases h|fr h=>obtain⟨a,len,b,e,d,g,k,c⟩:=h.part m h1 h2;exact⟨a,len,b,e,d,g,k,.fr (c b rfl)⟩
def PY.slice{t e:TypeId}{x lo hi:Operand}{f:Bool}{l:List α}{k k':IntKind}{i j:Int}(hx:ev s x=some (Gi f l))(p:ev s lo=some (.val (.int k i)))(q:ev s hi=some (.val (.int k' j)))(ht:P.underlying t=some (.slice e))(c:∀w,(sizeOf e).run P w=.ok (aI.sz α) w)(h:0<=i)(h1:i<=j)(h2:j<=(l.length:Int)):PY P s ⟨dst,.slice t x (some lo) (some hi) none,ty,pos,after,guard⟩ (Gi f (dZ l i j)):=fun N y A a w b=>by obtain⟨m,g,d,n,v,o,z,r⟩:=(b.ev hx).part h h1 h2;refine⟨_,r,fun u=>?_⟩;simp[execOp,n,b.val p,b.val q,LY ht c m g d h h1 o]
def PY.YS{t e:TypeId}{x lo:Operand}{f:Bool}{l:List α}{k:IntKind}{i:Int}(hx:ev s x=some (Gi f l))(o:ev s lo=some (.val (.int k i)))(ht:P.underlying t=some (.slice e))(c:∀w,(sizeOf e).run P w=.ok (aI.sz α) w)(g:0<=i)(h1:i<=(l.length:Int)):PY P s ⟨dst,.slice t x (some lo) none none,ty,pos,after,guard⟩ (Gi f (dZ l i (l.length:Int))):=fun N r y a w h=>by obtain⟨n,b,d,m,z,u,v,p⟩:=(h.ev hx).part g h1 (jh _);(have q:b=((l.length:Int)).toNat:=by omega);refine⟨_,p,fun j=>?_⟩;have:=Gl (α:=α) (P:=P) ht c (k:=k) n b d g (by omega) j;rw[<-q];simp[execOp,m,h.val o,this]
def PY.YU{t e:TypeId}{x hi:Operand}{f:Bool}{l:List α}{k:IntKind}{j:Int}(hx:ev s x=some (Gi f l))(o:ev s hi=some (.val (.int k j)))(ht:P.underlying t=some (.slice e))(b:∀w,(sizeOf e).run P w=.ok (aI.sz α) w)(g:0<=j)(h2:j<=(l.length:Int)):PY P s ⟨dst,.slice t x none (some hi) none,ty,pos,after,guard⟩ (Gi f (dZ l 0 j)):=fun N r u a w h=>by obtain⟨n,c,d,m,y,p,v,q⟩:=(h.ev hx).part (jh 0) g h2;refine⟨_,q,fun i=>?_⟩;have:=vB (α:=α) (P:=P) ht b (k:=k) n c d g p i;simp[execOp,m,h.val o,this]
def PY.YP{t : TypeId}{x lo hi : Operand}{b : ByteArray}{k k' : IntKind}{i j : Int}(hx : ev s x = some (.val (.string b)))(g : ev s lo = some (.val (.int k i)))(f : ev s hi = some (.val (.int k' j)))(ht : P.underlying t = some .string)(h : 0 <= i)(h1 : i <= j)(h2 : j <= (b.size : Int)): PY P s ⟨dst, .slice t x (some lo) (some hi) none, ty, pos, after, guard⟩ (.val (.string (b.extract i.toNat j.toNat))):=fun N l m a w d => by refine ⟨_, .aG (.val _), fun c => ?_⟩;have e : (j.toNat : Int) = j := fV (by omega);(have : (Instr.slice t (.string b) (some (.int k i)) (some (.int k' j)) none).run P c = .ok (.string (b.extract i.toNat j.toNat)) c := by simp [Instr.slice, run_underlying ht, Instr.sliceBounds, run_sliceBound, *, e, (by omega : 0 <= i), (by omega : 0 <= j)]);simp [execOp, d.val hx, d.val g, d.val f, run_sliceAt_string c t _ _ _ _ ht, this]
def PY.Xt{t:TypeId}{x lo:Operand}{b:ByteArray}{k:IntKind}{i:Int}(hx:ev s x=some (.val (.string b)))(e:ev s lo=some (.val (.int k i)))(ht:P.underlying t=some .string)(f:0<=i)(h1:i<=(b.size:Int)):PY P s ⟨dst,.slice t x (some lo) none none,ty,pos,after,guard⟩ (.val (.string (b.extract i.toNat b.size))):=fun N g h a w c=>by refine⟨_,.aG (.val _),fun d=>?_⟩;simp[execOp,c.val hx,c.val e,run_sliceAt_string d t _ _ _ _ ht,run_slice_string_l d t b ht k i f h1]
def PY.Xu{t:TypeId}{x hi:Operand}{b:ByteArray}{k:IntKind}{j:Int}(hx:ev s x=some (.val (.string b)))(e:ev s hi=some (.val (.int k j)))(ht:P.underlying t=some .string)(f:0<=j)(h2:j<=(b.size:Int)):PY P s ⟨dst,.slice t x none (some hi) none,ty,pos,after,guard⟩ (.val (.string (b.extract 0 j.toNat))):=fun N g h a w c=>by refine⟨_,.aG (.val _),fun d=>?_⟩;simp[execOp,c.val hx,c.val e,run_sliceAt_string d t _ _ _ _ ht,run_slice_string_h d t b ht k j f h2]
def PY.YQ{t e:TypeId}{x hi:Operand}{h n:Nat}{k:IntKind}{j:Int}(hx:ev s x=some (.aN h (aI.sz α) 0 n))(D:ev s hi=some (.val (.int k j)))(ht:P.underlying t=some (.slice e))(o:∀w,(sizeOf e).run P w=.ok (aI.sz α) w)(B:0<=j)(h2:j<=(n:Int)):PY P s ⟨dst,.slice t x none (some hi) none,ty,pos,after,guard⟩ (.aN h (aI.sz α) 0 j.toNat):=fun N q r a w p=>by have g:=p.ev hx;(have l:∃(d:Option Addr) (f c:Nat),a.eval x=.slice d f c/\j<=(c:Int)/\aU (q.O s.st r) q.base w r (.aN h (aI.sz α) 0 j.toNat) (sliced d 0 j.toNat c (aI.sz α)):=by generalize a.eval x=v at g;(have H:∀d:Option Addr,sliced d 0 0 0 (aI.sz α)=.slice d 0 0:=fun d=>by simp[sliced]);cases g with|aG g=>cases g|gz _ _ i=>(obtain rfl:j=0:=by omega);exact⟨none,0,0,rfl,by omega,.gz h _ i⟩|aN _ _ _ _ b m c i G C=>refine⟨_,_,c,rfl,by omega,?_⟩;unfold sliced;(have:(if c=0 then(some ⟨b,0,none⟩:Option Addr) else(some (⟨b,0,none⟩:Addr)).map (·.add (0*aI.sz α)))=some ⟨b,0,none⟩:=by split;rfl;simp[Addr.add]);rw[this];exact .aN h _ 0 _ b m c i (by omega) C|fD _ _ u b m i y=>omega);obtain⟨d,f,c,A,E,F⟩:=l;refine⟨_,F,fun z=>?_⟩;have:=vB (α:=α) (P:=P) ht o (k:=k) d f c B E z;simp[execOp,A,p.val D,this]
def Rel.P8{μ:Mu}{a:Act}{w:World}(h:Rel N cx μ s a w){d:Nat}{k:aw}{l:List α}(i:az s.st d=some k)(e:k.cells=cz l)(n:Nat)(c:k.lp=none):Rel N cx μ {fr:=s.fr,st:=dJ s.st d {k with cells:=cz (l.take n)},df:=s.df} a w:=by refine h.DA i rfl rfl rfl ?_ c c fun j g b=>⟨g,?_,fun v f=>f⟩;simp only;rw[e,<-uQ,bA];omega;simp only at b;rw[<-uQ,br] at b;split at b;rw[e];exact b;cases b
def GL.P8{Q:Exit->St->Prop}{ops:Array Oper}{rest:List Oper}(c:Nat){k:aw}{l:List α}(f:az s.st c=some k)(e:k.cells=cz l)(n:Nat)(h:GL P N cx ops Q rest {fr:=s.fr,st:=dJ s.st c {k with cells:=cz (l.take n)},df:=s.df})(b:k.lp=none:=by rfl):GL P N cx ops Q rest s:=fun g a w d=>h g a w (d.P8 f e n b)
def UG{l:List α}{j:Int}(a:0<=j)(h1:j<=(l.length:Int)):j.toNat=(l.take j.toNat).length:=by rw[bA];omega
end
end Go.AM
/-
 AM,part V:results that lean on what was handed in;calls that hand in nothing of the call's own.
-/
namespace Go.AM
def Si:G→G
 | .fr g=>g
 | .agg gs=>.agg (go gs)
 | .bE gs=>.bE (go gs)
 | .bf f gs=>.bf f (go gs)
 | g=>g
where go:List G→List G
 | []=>[]
 | g::r=>Si g::go r
def gS:G→Option G
 | .val v=>some (og v)
 | .dC b=>some (.dC b)
 | .sl n cs=>some (.sl n cs)
 | .ptr cs=>some (.ptr cs)
 | .fr g=>some g
 | .agg gs=>(go gs).map .agg
 | .bf f caps=>(go caps).map (.bf f)
 | _=>none
where go:List G→Option (List G)
 | []=>some []
 | g::r=>match gS g,go r with
  | some g',some r'=>some (g'::r')
  | _,_=>none
def rn:∀{gs a:List G},gS.go gs=some a->a.length=gs.length/\∀(j:Nat) (g':G),a[j]?=some g'->∃g,gs[j]?=some g/\gS g=some g'|[],_,h=>by cases h;exact⟨rfl,fun j g h=>by simp at h⟩|g::r,a,h=>by simp only[gS.go] at h;cases d:gS g with|none=>rw[d] at h;cases h|some i=>rw[d] at h;cases c:gS.go r with|none=>rw[c] at h;cases h|some k=>rw[c] at h;cases h;obtain⟨e,f⟩:=rn c;refine⟨by simp[e],fun j g' b=>?_⟩;cases j with|zero=>cases b;exact⟨g,rfl,d⟩|succ j=>exact f j g' b
def R4{O:Nat->Prop}{base:Nat}{μ:Mu}{w:World}{g g':G}{v:Value}(h:bN O w g v)(hf:gS g=some g'):aU O base w μ g' v:=by induction h generalizing g' with|any v=>cases hf|val v=>cases hf;unfold og;split;exact .aG .nil;exact .aG (.val _)|dC b v h=>cases hf;exact .aG (.dC b v h)|nil=>cases hf;exact .aG .nil|jk a c=>cases hf;exact .aG (.jk a c)|sl n d b e o k i m l f q p=>cases hf;exact .aG (.sl n d b e o k i m l f q)|ptr d b e k i m l f p=>cases hf;exact .aG (.ptr d b e k i m l f)|agg d k y x p=>simp only[gS,aA] at hf;obtain⟨r,i,rfl⟩:=hf;obtain⟨m,l⟩:=rn i;refine .agg r k (by omega) fun j g v u t=>?_;obtain⟨s,f,q⟩:=l j g u;exact p j s v f t q
def P2{O:Nat->Prop}{base base':Nat}{μ μ':Mu}{w:World}{g g':G}{v:Value}(h:aU O base w μ g v)(hf:gS g=some g'):aU O base' w μ' g' v:=by induction h generalizing g' with|aG h=>exact R4 h hf|fr h=>cases hf;exact .aG h.O5|agg e c r q d=>simp only[gS,aA] at hf;obtain⟨a,i,rfl⟩:=hf;obtain⟨s,b⟩:=rn i;refine .agg a c (by omega) fun j g v l m=>?_;obtain⟨k,n,o⟩:=b j g l;exact d j k v n m o|bf f p c r q d=>simp only[gS,aA] at hf;obtain⟨a,i,rfl⟩:=hf;obtain⟨s,b⟩:=rn i;refine .bf f a c (by omega) fun j g v l m=>?_;obtain⟨k,n,o⟩:=b j g l;exact d j k v n m o|_=>cases hf
def nO:G→Bool
 | .val _=>true
 | .dC _=>true
 | .sl _ _=>true
 | .ptr _=>true
 | .fr _=>true
 | .agg gs=>go gs
 | .bE gs=>go gs
 | .bf _ gs=>go gs
 | _=>false
where go:List G→Bool
 | []=>true
 | g::r=>nO g&&go r
def tK{gs:List G}(h:nO.go gs=true):∀(j:Nat) (g:G),gs[j]?=some g->nO g=true:=by induction gs with|nil=>intro j g a;simp at a|cons x r b=>simp only[nO.go,ag] at h;intro j g a;cases j with|zero=>cases a;exact h.1|succ j=>exact b h.2 j g a
def Tt{O O':Nat->Prop}{base base':Nat}{μ μ':Mu}{w:World}{g:G}{v:Value}(h:aU O base w μ g v)(hi:nO g=true)(n:∀b,O' b->O b)(hb:∀b,b<base'->b<base):aU O' base' w μ' g v:=by induction h with|aG h=>exact .aG (h.mono (Kept.refl _ _) fun b _ m e=>m (n b e))|fr h=>refine .fr (h.mono (Kept.refl _ _) ?_);rintro b _ m (e|e);exact m (.inl (hb b e));exact m (.inr (n b e))|agg a k l o i=>exact .agg a k l fun j g v c d=>i j g v c d (tK hi j g c)|bE a k l o i=>exact .bE a k l fun j g v c d=>i j g v c d (tK hi j g c)|bf f a k l o i=>exact .bf f a k l fun j g v c d=>i j g v c d (tK hi j g c)|_=>cases hi
section
variable {P:Program}{N:Nat}{cx:Cx}{s:St}
variable {ty:TypeId}{pos:String}{after:Array Edge}{guard:Option (Nat×Bool)}{W:List Nat}{d:Nat}
def HA{f:FuncId}{vs:List Value}{gs q:List G}{Q:G->List (Nat×aw)->Prop}{μ:Mu}{a:Act}{w:World}(n:Rel N cx μ s a w)(y:eX gS gs=some q)(I:vs.length=gs.length)(p:∀(j:Nat) (g:G) (v:Value),gs[j]?=some g->vs[j]?=some v->aU (cx.O s.st μ) cx.base w μ g v)(t:GM P f q [] Q)(o:∀r st',Q r st'->nO r=true/\st'=[]):Calls P f vs.toArray w fun e w'=>∃v r st',e=.returned v/\Q r st'/\Rel N cx μ s a w'/\aU (cx.O s.st μ) cx.base w' μ r v/\Step W s.st μ s.st μ w w':=by
 obtain⟨A,u⟩:=rz y;have z:∀b,cx.O s.st μ b->b<w.heap.size:=fun b d=>by rcases d with d|d;have:=n.st.fq b d;have:=n.st.hb;omega;exact qS n.st d
 refine(t.returned (cx.O s.st μ) (fun _=>none) w vs z (Ci z (n.st.W5 fun _ h=>(oW h).elim)) (by omega) fun j g v J y=>?_).mono ?_;obtain⟨K,L,D⟩:=u j g J;have:=P2 (base':=w.heap.size) (μ':=fun _=>none) (p j K v L y) D;exact this.mono (Kept.refl _ _) (fun b _ E F=>F.elim E oW) (aH _);rintro e w' ⟨v,r,st',H,rfl,B,i,x⟩;have l:∀b,b<w.heap.size->w'.heap[b]?=w.heap[b]?:=fun b d=>i.dB b d oW;obtain⟨M,O⟩:=o r st' B;subst O;refine⟨v,r,[],rfl,B,n.kept i.hb l i.os i.tape i.output,?_,⟨i.hb,fun b d _=>l b d,fun h k c m b R A u C=>.inl ⟨h,k,c,m,R,A,u,C⟩⟩⟩;exact Tt x M (fun b d=>.inl d) (fun b d=>cO d n.st.hb)
def EF.aaB{f:FuncId}{xs:Array Operand}{ts:Array TypeId}{gs i:List G}{Q:G->List (Nat×aw)->Prop}(H:∀args w,(callFunc f args).run P w=.ok (.enter f args) w)(hx:wO s xs.toList=some gs)(l:eX gS gs=some i)(c:GM P f i [] Q)(k:∀r st',Q r st'->nO r=true/\st'=[]):cu P W s ⟨some d,.call ⟨.value (.func f),xs,ts⟩,ty,pos,after,guard⟩ (fun t=>∃r st',Q r st'/\t=s.put d r):=by
 refine⟨(fun _ h=>by cases h),?_⟩;intro N J u a w q F K I y;obtain⟨z,A⟩:=oY hx;have b:=HA (vs:=xs.toList.map a.eval) (W:=W) q l (by simp[z]) (fun j g v C l=>by obtain⟨x,n,E⟩:=A j g C;rw[ao,n] at l;cases l;exact q.ev E) c k;unfold Oper.wp;have:(execOp a.eval ⟨some d,.call ⟨.value (.func f),xs,ts⟩,ty,pos,after,guard⟩).run P w=.ok (.enter f (xs.toList.map a.eval).toArray) w:=by (have e:xs.map a.eval=(xs.toList.map a.eval).toArray:=by rw[<-iF]);simp[execOp,resolve,invoke,Deferred.ofValue,Act.eval,H,e]
 rw[this];refine b.mono ?_;rintro e B ⟨v,r,st',rfl,D,o,p,m⟩;exact y u _ _ B (o.put (F d rfl) p) ⟨r,st',D,rfl⟩ m
end
end Go.AM
/-
 AM,part W:lists without references.
-/
namespace Go.AM
class Flat (α:Type) [aI α]:Prop where
 flat:∀(a:α) (g:G),g∈aI.cells a→∃v,g=.val v
instance:Flat Int:=⟨fun a g h=>by simp[aI.cells] at h;exact⟨_,h⟩⟩
instance:Flat Bool:=⟨fun a g h=>by simp[aI.cells] at h;exact⟨_,h⟩⟩
instance:Flat ByteArray:=⟨fun a g h=>by simp[aI.cells] at h;exact⟨_,h⟩⟩
section
variable {α:Type}[aI α] [Flat α]
variable {P:Program}{N:Nat}{cx:Cx}{Q:Exit→St→Prop}{s:St}{ops:Array Oper}{rest:List Oper}
def Rel.DC{μ:Mu}{a:Act}{w:World}(h:Rel N cx μ s a w){e:Nat}{k:aw}{l:List α}(m:az s.st e=some k)(n:k.cells=cz l)(g:k.pure=true)(c:k.lp=none):Rel N cx μ {fr:=s.fr,st:=dJ s.st e {k with fresh:=true},df:=s.df} a w:=by refine h.DA m rfl rfl rfl (aH _) c c fun j f b=>⟨f,b,fun v d=>?_⟩;simp only at b;rw[n] at b;obtain⟨x,_,i⟩:=qf.1 (ak b);obtain⟨u,rfl⟩:=Flat.flat x f i;unfold dh at d|-;simp only[g] at d|-;cases d;exact .val _
def GL.DC(c:Nat){k:aw}{l:List α}(g:az s.st c=some k)(e:k.cells=cz l)(f:k.pure=true)(h:GL P N cx ops Q rest {fr:=s.fr,st:=dJ s.st c {k with fresh:=true},df:=s.df})(b:k.lp=none:=by rfl):GL P N cx ops Q rest s:=fun i a w d=>h i a w (d.DC g e f b)
end
section
variable {P:Program}{N:Nat}{cx:Cx}{Q:Exit→St→Prop}{s:St}{ops:Array Oper}{rest:List Oper}
end
section
variable {P:Program}{N:Nat}{cx:Cx}{Q:Exit→St→Prop}{s:St}{ops:Array Oper}
def xf(P:Program)(N:Nat)(cx:Cx)(ops:Array Oper)(Q:Exit->St->Prop)(W:List Nat)(l:Nat)(d:Array Bool)(s:St)(i:Nat):Prop:=∀(f:World) (e:Nat->Prop) (j:Mu) (a:Act) (w:World),Rel N cx j s a w->Sw f e w->(∀h k c m b,h∈W->az s.st h=some k->j h=some (c,m)->In b c m->e b\/f.heap.size<=b)->wpOp P ops (lift N cx Q) i (fun n g=>Sw f e g/\wpAnyH P .any ops (lift N cx Q) (Sw f e) l (d.setIfInBounds i true) n g) a w
def xf.y{W:List Nat}{f:Nat}{b:Array Bool}(i:Nat){o:Oper}{d:Nat}{g:G}(hi:ops[i]?=some o)(p:ey ops s o.guard=some true)(hd:o.dst=some d)(n:d<N)(q:fQ P [] s o g)(h:gr P N cx ops Q W f (b.setIfInBounds i true) (s.put d g)):xf P N cx ops Q W f b s i:=by intro k l j a w e m r;obtain⟨v,t,c⟩:=q N cx j a w e;have c:=c w (aH _) (fun _ _ _=>rfl);unfold wpOp;simp only[hi];rw[if_pos (fH e p)];refine .inl ?_;unfold Oper.wp;rw[c];show Sw k l w/\_;refine⟨m,?_⟩;rw[hd];exact h k l j _ w (e.put n t) m r
def xf.e{W:List Nat}{v:Nat}{e:Array Bool}(i:Nat){o:Oper}{T:St->Prop}(hi:ops[i]?=some o)(S:ey ops s o.guard=some true)(K:∀d,o.dst=some d->d<N)(I:cu P W s o T)(h:∀q,T q->gr P N cx ops Q W v (e.setIfInBounds i true) q):xf P N cx ops Q W v e s i:=by
 intro r t H a w f u F;unfold wpOp;simp only[hi];rw[if_pos (fH f S)];have:=I.2 N cx H a w f K (fun y p=>Sw r t p/\wpAnyH P .any ops (lift N cx Q) (Sw r t) v (e.setIfInBounds i true) y p) (lift N cx Q) ?_;exact .inl this;intro A q y p g G j;have n:Sw r t p:=by refine⟨cL u.size j.size,fun b E D=>?_⟩;rw[j.block b (cO E u.size) ?_];exact u.block b E D;intro h k c m x z C hi;rcases F h k c m b x z C hi with l|l;exact D l;omega
 refine⟨n,h q G r t A y p g n ?_⟩;intro h L c m b x z C hi;rcases j.hand h L c m b x z C hi with ⟨M,k,O,R,B,l,U,J⟩|l;exact F M k O R b B l U J;exact .inr (cL u.size l)
def xf.eP{W:List Nat}{D:Nat}{e:Array Bool}(i:Nat){o:Oper}{T:St->Prop}{Tp:List PanicEntry->St->Prop}(hi:ops[i]?=some o)(K:ey ops s o.guard=some true)(L:∀d,o.dst=some d->d<N)(M:nX P W s o T Tp)(h:∀f,T f->gr P N cx ops Q W D (e.setIfInBounds i true) f)(O:∀u f,Tp u f->Q (.panic u) f):xf P N cx ops Q W D e s i:=by
 intro v x X a w g t G;unfold wpOp;simp only[hi];rw[if_pos (fH g K)];have:=M.2 N cx X a w g L (fun B p=>Sw v x p/\wpAnyH P .any ops (lift N cx Q) (Sw v x) D (e.setIfInBounds i true) B p) (lift N cx Q) ?_ (fun u j f p y C=>⟨j,f,y,O u f C⟩);exact .inl this;intro j f B p l C n;have r:Sw v x p:=by refine⟨cL t.size n.size,fun b I H=>?_⟩;rw[n.block b (cO I t.size) ?_];exact t.block b I H;intro h k c m z A E hi;rcases G h k c m b z A E hi with q|q;exact H q;omega
 refine⟨r,h f C v x j B p l r ?_⟩;intro h R c m b z A E hi;rcases n.hand h R c m b z A E hi with ⟨S,k,U,V,F,q,Y,J⟩|q;exact G S k U V b F q Y J;exact .inr (cL t.size q)
def HY(P:Program)(N:Nat)(cx:Cx)(ops:Array Oper)(Q:Exit->St->Prop)(W:List Nat)(b:Nat)(a:Array Bool)(s:St):List Nat->Prop|[]=>True|i::r=>xf P N cx ops Q W b a s i/\HY P N cx ops Q W b a s r
def HY.get{W:List Nat}{c:Nat}{a:Array Bool}:∀{b:List Nat},HY P N cx ops Q W c a s b->∀i∈b,xf P N cx ops Q W c a s i|[],_,_,h=>by cases h|j::r,⟨e,d⟩,i,h=>by rcases bh.1 h with rfl|h;exact e;exact HY.get d i h
def gr.any{W:List Nat}{d:Nat}{b:Array Bool}(i:Nat)(r:List Nat)(l:Region.ready .any ops b=i::r)(h:HY P N cx ops Q W d b s (i::r)):gr P N cx ops Q W (d+1) b s:=by intro f g k a w c m n;refine wpAnyH_all l (by simp) fun j e=>h.get j e f g k a w c m n
end
end Go.AM
/-
 AM,part X:calls to which blocks of the caller's own are lent:how handles are told anew,there and back.
-/
namespace Go.AM
def dH:List Nat->Nat->Option Nat|[],_=>none|x::r,h=>bif Nat.beq x h then some 0 else(dH r h).map (·+1)
def fe:∀{H:List Nat}{h i:Nat},dH H h=some i->H[i]?=some h|[],_,_,e=>by cases e|x::r,h,i,e=>by simp only[dH] at e;cases a:Nat.beq x h with|true=>rw[a] at e;cases e;have:=ab a;subst this;rfl|false=>rw[a] at e;obtain⟨n,c,b⟩:=aA.1 e;subst b;exact fe (H:=r) c
def pW:∀{H:List Nat}{h:Nat},dH H h=none->h∉H|[],_,_=>fun h=>by cases h|x::r,h,e=>by simp only[dH] at e;cases a:Nat.beq x h with|true=>rw[a] at e;cases e|false=>rw[a] at e;intro b;rcases bh.1 b with rfl|b;rw[aW] at a;cases a;exact pW (Option.map_eq_none_iff.1 e) b
def bW (H:List Nat) (stv:List (Nat×aw)):G→Option G
 | .loc h off=>match dH H h with
  | some i=>some (.loc (1000+i) off)
  | none=>view 4 stv (.loc h off)
 | .aN h sz off m=>match dH H h with
  | some i=>some (.aN (1000+i) sz off m)
  | none=>view 4 stv (.aN h sz off m)
 | .da h=>match dH H h with
  | some i=>some (.da (1000+i))
  | none=>none
 | .eT h=>match dH H h with
  | some i=>some (.eT (1000+i))
  | none=>none
 | .kp h j off=>match dH H h with
  | some i=>some (.kp (1000+i) j off)
  | none=>none
 | .ks h j sz n=>match dH H h with
  | some i=>some (.ks (1000+i) j sz n)
  | none=>none
 | .agg gs=>(go gs).map .agg
 | .bf f gs=>(go gs).map (.bf f)
 | .val v=>some (og v)
 | .dC b=>some (.dC b)
 | .sl n cs=>some (.sl n cs)
 | .ptr cs=>some (.ptr cs)
 | .fr g=>some g
 | _=>none
where go:List G→Option (List G)
 | []=>some []
 | g::r=>match bW H stv g,go r with
  | some g',some r'=>some (g'::r')
  | _,_=>none
def ow{H:List Nat}{b:List (Nat×aw)}:∀{gs a:List G},bW.go H b gs=some a->a.length=gs.length/\∀(j:Nat) (g':G),a[j]?=some g'->∃g,gs[j]?=some g/\bW H b g=some g'|[],_,h=>by cases h;exact⟨rfl,fun j g h=>by simp at h⟩|g::r,a,h=>by simp only[bW.go] at h;cases e:bW H b g with|none=>rw[e] at h;cases h|some k=>rw[e] at h;cases d:bW.go H b r with|none=>rw[d] at h;cases h|some l=>rw[d] at h;cases h;obtain⟨f,i⟩:=ow d;refine⟨by simp[f],fun j g' c=>?_⟩;cases j with|zero=>cases c;exact⟨g,rfl,e⟩|succ j=>exact i j g' c
def sF(H:List Nat)(a:List (Nat×aw))(k:aw):Option aw:=bif k.pure then some {k with eC:=false,fresh:=false} else match bW.go H a k.cells with|some b=>some {k with eC:=false,fresh:=false,cells:=b}|none=>none
def Q2{H:List Nat}{a:List (Nat×aw)}{k k':aw}(h:sF H a k=some k'):k'.eC=false:=by unfold sF at h;cases b:k.pure with|true=>rw[b] at h;cases h;rfl|false=>rw[b,cond_false] at h;split at h;cases h;rfl;cases h
def gI(H:List Nat)(a st:List (Nat×aw)):List Nat->Nat->Option (List (Nat×aw))|[],_=>some []|h::r,i=>match az st h with|some k=>(match sF H a k,gI H a st r (i+1) with|some c,some b=>some ((1000+i,c)::b)|_,_=>none)|none=>none
def ql{H:List Nat}{a st:List (Nat×aw)}:∀{r:List Nat}{i:Nat}{eo:List (Nat×aw)},gI H a st r i=some eo->∀{j:Nat}{k':aw},az eo j=some k'->∃n h k,j=1000+(i+n)/\r[n]?=some h/\az st h=some k/\sF H a k=some k'|[],_,_,e,_,_,h=>by cases e;cases h|x::r,i,eo,e,j,k',h=>by simp only[gI] at e;cases c:az st x with|none=>rw[c] at e;cases e|some k=>rw[c] at e;dsimp only at e;cases b:sF H a k with|none=>rw[b] at e;cases e|some q=>rw[b] at e;cases d:gI H a st r (i+1) with|none=>rw[d] at e;cases e|some p=>rw[d] at e;cases e;simp only[az] at h;cases f:Nat.beq (1000+i) j with|true=>rw[f] at h;cases h;exact⟨0,x,k,(ab f).symm,rfl,c,b⟩|false=>rw[f] at h;obtain⟨n,y,m,s,l,o,g⟩:=ql d h;exact⟨n+1,y,m,by omega,l,o,g⟩
def GU{H:List Nat}{a st:List (Nat×aw)}:∀{r:List Nat}{i:Nat}{eo:List (Nat×aw)},gI H a st r i=some eo->∀{n h:Nat},r[n]?=some h->(∃k',az eo (1000+(i+n))=some k')/\∃k,az st h=some k|[],_,_,_,_,_,h=>by cases h|x::r,i,eo,e,n,y,h=>by simp only[gI] at e;cases b:az st x with|none=>rw[b] at e;cases e|some k=>rw[b] at e;dsimp only at e;cases d:sF H a k with|none=>rw[d] at e;cases e|some g=>rw[d] at e;cases c:gI H a st r (i+1) with|none=>rw[c] at e;cases e|some l=>rw[c] at e;cases e;cases n with|zero=>cases h;exact⟨⟨g,by rw[gu,dY]⟩,k,b⟩|succ n=>obtain⟨⟨k',j⟩,f⟩:=GU c (n:=n) (h:=y) h;refine⟨⟨k',?_⟩,f⟩;rw[aD _ _ (by omega),show 1000+(i+(n+1))=1000+(i+1+n) by omega];exact j
def kw(H:List Nat)(μ:Mu):Mu:=fun j=>bif pinned j then(H[j-1000]?).bind μ else none
def sx(i:Nat):pinned (1000+i)=true:=Nat.ble_eq_true_of_le (by omega)
def kv{H:List Nat}{μ:Mu}{i h:Nat}(e:H[i]?=some h):kw H μ (1000+i)=μ h:=by unfold kw;rw[sx,cond_true,show 1000+i-1000=i by omega,e];rfl
def gx(H:List Nat):List (Nat×aw)->List (Nat×aw)|[]=>[]|(h,k)::r=>match dH H h with|some _=>gx H r|none=>(h,k)::gx H r
def uG{H:List Nat}{h:Nat}{k:aw}:∀{st:List (Nat×aw)},az (gx H st) h=some k->dH H h=none/\az st h=some k|[],e=>by cases e|(x,f)::r,e=>by simp only[gx] at e;cases a:dH H x with|some i=>rw[a] at e;obtain⟨c,d⟩:=uG e;refine⟨c,?_⟩;rw[aD _ _ fun e=>by subst e;rw[a] at c;cases c];exact d|none=>rw[a] at e;simp only[az] at e|-;cases b:Nat.beq x h with|true=>rw[b] at e;have:=ab b;subst this;exact⟨a,e⟩|false=>rw[b] at e;exact uG e
def Ad{H:List Nat}{h:Nat}{k:aw}(hi:dH H h=none):∀{st:List (Nat×aw)},az st h=some k->az (gx H st) h=some k|[],e=>by cases e|(x,b)::r,e=>by simp only[gx];simp only[az] at e;cases a:Nat.beq x h with|true=>rw[a] at e;have:=ab a;subst this;rw[hi];simp only[az,aW];exact e|false=>rw[a] at e;have:=Ad hi (st:=r) e;split;exact this;simp only[az,a];exact this
def kl(cx:Cx)(st:List (Nat×aw))(μ:Mu)(H:List Nat)(a:Bool):Nat->Prop:=fun b=>cx.X b\/(a=false/\Own (gx H st) μ b)
def fE(st:List (Nat×aw))(H:List Nat)(a:Bool):List (Nat×aw):=bif a then gx H st else[]
section
variable {P:Program}{N:Nat}{cx:Cx}{s:St}
def jZ{st eo d:List (Nat×aw)}{H:List Nat}{μ:Mu}(a:gI H d st H 0=some eo){b:Nat}(ho:Own eo (kw H μ) b):∃(i h:Nat) (k:aw) (c:Nat) (m:Mm),H[i]?=some h/\az st h=some k/\μ h=some (c,m)/\In b c m:=by obtain⟨j,p,c,m,l,e,o⟩:=ho;obtain⟨n,h,k,rfl,f,g,_⟩:=ql a l;rw[dl,kv f] at e;exact⟨n,h,k,c,m,f,g,e,o⟩
def zc{st:List (Nat×aw)}{H:List Nat}{μ:Mu}{b:Nat}(ho:Own (gx H st) μ b):∃h k c m,dH H h=none/\az st h=some k/\μ h=some (c,m)/\In b c m:=by obtain⟨h,k,c,m,d,e,f⟩:=ho;obtain⟨g,a⟩:=uG d;exact⟨h,k,c,m,g,a,e,f⟩
def ou{H:List Nat}{i h:Nat}(e:H[i]?=some h):h∈H:=ak e
def tG{st:List (Nat×aw)}{H:List Nat}{μ:Mu}{w:World}(f:cM cx μ st w){i h a b c g:Nat}{m l:Mm}{k k':aw}(e:H[i]?=some h)(o:az st h=some k)(p:μ h=some (c,m))(hi:In b c m)(q:dH H a=none)(j:az st a=some k')(n:μ a=some (g,l))(d:In b g l):False:=by have:=f.dr h a k k' b c m g l o j p n hi d;subst this;exact pW q (ou e)
def WW{st eo d:List (Nat×aw)}{H:List Nat}{μ:Mu}(j:Bool)(f:gI H d st H 0=some eo)(w:World)(b:Nat)(ho:(jl (kl cx st μ H j) eo (kw H μ) w).O eo (kw H μ) b):cx.O st μ b:=by rcases ho with (ho|⟨_,ho⟩)|ho;exact .inl ho;obtain⟨h,k,c,m,_,e,g,a⟩:=zc ho;exact .inr ⟨h,k,c,m,e,g,a⟩;obtain⟨i,h,k,c,m,_,e,g,a⟩:=jZ f ho;exact .inr ⟨h,k,c,m,e,g,a⟩
def sE{st eo:List (Nat×aw)}{H:List Nat}{z:Bool}{μ:Mu}{w:World}(N:cM cx μ st w)(Q:gI H (fE st H z) st H 0=some eo){g g':G}{v:Value}(D:aU (cx.O st μ) cx.base w μ g v)(hg:bW H (fE st H z) g=some g'):aU ((jl (kl cx st μ H z) eo (kw H μ) w).O eo (kw H μ)) w.heap.size w (kw H μ) g' v:=by
 have O:=WW (cx:=cx) (μ:=μ) z Q w;generalize U:(jl (kl cx st μ H z) eo (kw H μ) w).O eo (kw H μ)=W at O;have K:∀h k,az (fE st H z) h=some k->z=true/\dH H h=none/\az st h=some k:=by intro h k t;unfold fE at t;cases z with|true=>exact⟨rfl,uG t⟩|false=>cases t
 have r:∀{g g':G}{v:Value},aU (cx.O st μ) cx.base w μ g v->view 4 (fE st H z) g=some g'->bN W w g' v:=by intro g g' v D hg;refine zO (fun h k t=>N.ez h k (K h k t).2.2) (fun h k b m x t l P q=>?_) O 4 D hg;obtain⟨Z,e1,Y⟩:=K h k t;rw[<-U] at q;rcases q with (q|⟨q,_⟩)|q;exact(N.cy h k b m x Y l P).1 q;rw[Z] at q;cases q;obtain⟨i,h',k',c',m',s,F,u,d⟩:=jZ Q q;exact tG N s F u d e1 Y l P
 have aG:∀{g:G}{v:Value},bN (cx.O st μ) w g v->∀{g'},bW H (fE st H z) g=some g'->aU W w.heap.size w (kw H μ) g' v:=by intro g v h;induction h with|any v=>intro g' hg;cases hg|val v=>intro g' hg;cases hg;exact .aG (B4 v)|dC b v h=>intro g' hg;cases hg;exact .aG (.dC b v h)|nil=>intro g' hg;cases hg;exact .aG .nil|jk a c=>intro g' hg;cases hg;exact .aG (.jk a c)|sl n e b o p B s F u C M J=>intro g' hg;cases hg;exact .aG ((bN.sl n e b o p B s F u C M).mono (Kept.refl _ _) fun b _ A q=>A (O b q))|ptr e b o B s F u C J=>intro g' hg;cases hg;exact .aG ((bN.ptr e b o B s F u C).mono (Kept.refl _ _) fun b _ A q=>A (O b q))|agg e B V T J=>intro g' hg;simp only[bW,aA] at hg;obtain⟨y,s,rfl⟩:=hg;obtain⟨F,u⟩:=ow s;refine .agg y B (by omega) fun j g v hg D=>?_;obtain⟨R,C,M⟩:=u j g hg;exact J j R v C D M
 induction D generalizing g' with|aG h=>exact aG h hg|fr h=>cases hg;exact .aG (h.O5.mono (Kept.refl _ _) fun b _ A q=>A (O b q))|loc h o b m l=>(simp only[bW] at hg;cases d:dH H h with|some i=>rw[d] at hg;cases hg;exact .loc _ _ b m (by rw[kv (fe d)];exact l)|none=>rw[d] at hg;exact .aG (r (.loc h o b m l) hg))|gz h E l=>(simp only[bW] at hg;cases d:dH H h with|some i=>rw[d] at hg;cases hg;exact .gz _ _ (by rw[kv (fe d)];exact l)|none=>rw[d] at hg;exact .aG (r (.gz h E l) hg))|aN h E o n b m p l A S=>(simp only[bW] at hg;cases d:dH H h with|some i=>rw[d] at hg;cases hg;exact .aN _ _ _ _ b m p (by rw[kv (fe d)];exact l) A S|none=>rw[d] at hg;exact .aG (r (.aN h E o n b m p l A S) hg))|fD h E I b m l L=>(simp only[bW] at hg;cases d:dH H h with|some i=>rw[d] at hg;cases hg;exact .fD _ _ I b m (by rw[kv (fe d)];exact l) L|none=>rw[d] at hg;exact .aG (r (.fD h E I b m l L) hg))|agg e B V T J=>simp only[bW,aA] at hg;obtain⟨y,s,rfl⟩:=hg;obtain⟨F,u⟩:=ow s;refine .agg y B (by omega) fun j g v hg D=>?_;obtain⟨R,C,M⟩:=u j g hg;exact J j R v C D M|bE e B V T J=>cases hg|bf f X B V T J=>simp only[bW,aA] at hg;obtain⟨y,s,rfl⟩:=hg;obtain⟨F,u⟩:=ow s;refine .bf f y B (by omega) fun j g v hg D=>?_;obtain⟨R,C,M⟩:=u j g hg;exact J j R v C D M|da h b m l=>(simp only[bW] at hg;cases d:dH H h with|some i=>rw[d] at hg;cases hg;exact .da _ b m (by rw[kv (fe d)];exact l)|none=>rw[d] at hg;cases hg)|eT h b m l=>(simp only[bW] at hg;cases d:dH H h with|some i=>rw[d] at hg;cases hg;exact .eT _ b m (by rw[kv (fe d)];exact l)|none=>rw[d] at hg;cases hg)|kp h j o b m c n l t=>(simp only[bW] at hg;cases d:dH H h with|some i=>rw[d] at hg;cases hg;exact .kp _ j o b m c n (by rw[kv (fe d)];exact l) t|none=>rw[d] at hg;cases hg)|my h j E x p hb=>(simp only[bW] at hg;cases d:dH H h with|some i=>rw[d] at hg;cases hg;exact .my _ j E x p hb|none=>rw[d] at hg;cases hg)|ks h j E n b m c k p l t A S=>simp only[bW] at hg;cases d:dH H h with|some i=>rw[d] at hg;cases hg;exact .ks _ j E n b m c k p (by rw[kv (fe d)];exact l) t A S|none=>rw[d] at hg;cases hg
def MP{st eo:List (Nat×aw)}{H:List Nat}{T:Bool}{μ:Mu}{w:World}(a:cM cx μ st w)(f:gI H (fE st H T) st H 0=some eo)(dw:H.Nodup):cM (jl (kl cx st μ H T) eo (kw H μ) w) (kw H μ) eo w:=by
 have hO:=WW (cx:=cx) (μ:=μ) T f w;refine {ez:=?_,dr:=?_,cy:=?_,fJ:=fun _ _ _ _=>.inl rfl,fq:=?_,hb:=aH _,os:=rfl,tape:=rfl,output:=rfl,gl:=a.W5 fun b l=>(by obtain⟨i,h,k,c,L,P,E,u,A⟩:=jZ f l;obtain⟨_,z2,_⟩:=a.cy h k c L b E u A;exact z2),dB:=fun _ _ _=>rfl};intro j Q X;obtain⟨n,h,k,rfl,F,J,r⟩:=ql f X;rw[dl,kv F];have l:=a.ez h k J;unfold sF at r;cases C:k.pure with|true=>(rw[C] at r;cases r;cases G:μ h with|none=>rw[G] at l;exact l.zi rfl rfl C.symm|some V=>obtain⟨b,m⟩:=V;rw[G] at l;cases s:k.lp with|none=>obtain⟨cs,p,o,I,z,N,h6⟩:=l.cells s;refine .mk rfl (l.nv s) ⟨cs,p,o,I,(fun h=>by cases h),N,fun j g O=>?_⟩;obtain⟨v,R,e⟩:=h6 j g O;refine⟨v,R,?_⟩;unfold dh at e|-;simp only[C] at e|-;have e:=e.flag (f':=false) (fun h=>by cases h);exact bN.mono e (Kept.refl _ _) fun b _ W q=>W (hO b q)|some Z=>cases Z with|loop lp=>obtain⟨D,vs,_,_,_,z,_⟩:=(aV.loop s).1 l;rw[C] at z;cases z|deep d=>obtain⟨p,o,I,z⟩:=(aV.deep s).1 l;refine(aV.deep rfl).2 ⟨d.mono p (Kept.refl _ _) (fun x _ W q=>W ?_) (fun _ _=>rfl),rfl,I,fun h=>by cases h⟩;cases k.fresh with|false=>exact hO x q|true=>exact .inr (hO x q))|false=>rw[C,cond_false] at r;cases K:bW.go H (fE st H T) k.cells with|none=>rw[K] at r;cases r|some cs'=>rw[K] at r;cases r;obtain⟨P,E⟩:=ow K;cases G:μ h with|none=>rw[G] at l;obtain⟨hb1,B⟩:=l;refine⟨bu (by simp only;rw[P,hb1];rfl),?_⟩;dsimp only;split at B;trivial;exact B.elim;rw[C] at B;cases B.2|some V=>obtain⟨b,m⟩:=V;rw[G] at l;cases s:k.lp with|none=>obtain⟨cs,p,o,I,z,N,h6⟩:=l.cells s;refine .mk rfl (l.nv s) ⟨cs,p,o,by simp only;omega,(fun h=>by cases h),N,fun j g O=>?_⟩;obtain⟨g0,u,A⟩:=E j g O;obtain⟨v,R,e⟩:=h6 j g0 u;refine⟨v,R,?_⟩;unfold dh at e|-;simp only[C] at e|-;exact sE a f e A|some Z=>cases Z with|deep d=>have:=((aV.deep s).1 l).2.1;rw[C] at this;cases this|loop lp=>obtain⟨D,vs,p,o,I,z,N⟩:=(aV.loop s).1 l;refine(aV.loop rfl).2 ⟨D,vs,p,o,rfl,rfl,fun j t g ht O=>?_⟩;obtain⟨g0,u,A⟩:=E j g O;obtain⟨v,R,e⟩:=N j t g0 ht u;exact⟨v,R,sE a f e A⟩
 intro j j' k1 k2 y b m b' L p o I z M Y;obtain⟨n,h,k,rfl,F,J,_⟩:=ql f p;obtain⟨n',U,Q,rfl,S,e3',_⟩:=ql f o;rw[dl,kv F] at I;rw[dl,kv S] at z;have:=a.dr h U k Q y b m b' L J e3' I z M Y;subst this;have:=(List.getElem?_inj (ap.1 F).1 dw).1 (F.trans S.symm);subst this;rfl;intro j k1 b m y p o M;obtain⟨n,h,k,rfl,F,J,r⟩:=ql f p;have hA:Own eo (kw H μ) y:=⟨_,_,_,_,p,o,M⟩;rw[dl,kv F] at o;refine⟨?_,.inr hA,(a.cy h k b m y J o M).2.2.1,fun G=>?_⟩;rintro(q|⟨_,q⟩);exact(a.cy h k b m y J o M).1 q;obtain⟨U,Q,c',L,P,E,u,A⟩:=zc q;exact tG a F J o M P E u A;rw[Q2 r] at G;cases G;rintro b (q|⟨_,q⟩);have:=a.fq b q;have:=a.hb;show b<w.heap.size;omega;obtain⟨U,Q,c',L,P,E,u,A⟩:=zc q;exact qS a ⟨U,Q,c',L,E,u,A⟩
end
end Go.AM
/-
 AM,part Y:plain facts of partial functions.
-/
namespace Go.AM
def Tc{σ e:Type}{body:σ->Option (σ⊕e)}(I:σ->Prop)(m:σ->Nat)(R:e->Prop)(a:∀x,I x->(∃b,body x=some (.inl b)/\I b/\m b<m x)\/∃r,body x=some (.inr r)/\R r):∀(n:Nat) (x:σ),I x->m x<n->∃r,aL body n x=some r/\R r:=by intro n;induction n with|zero=>intro x _ h;omega|succ n i=>intro x g k;rcases a x g with ⟨b,c,d,l⟩|⟨r,c,d⟩;obtain⟨r,j,f⟩:=i b d (by omega);exact⟨r,by simp only[aL,c];exact j,f⟩;exact⟨r,by simp only[aL,c],d⟩
def aC{α:Type}{l:List α}{i:Nat}{x:α}(h:l[i]?=some x):idx l (i:Int)=some x:=by unfold idx;rw[if_pos (by omega)];simpa using h
def Tw{α:Type}{l:List α}{i:Int}(a:0<=i)(h1:i<(l.length:Int)):∃x,idx l i=some x/\l[i.toNat]?=some x:=by refine⟨l[i.toNat]'(by omega),?_,?_⟩;unfold idx;rw[if_pos a];exact af _;exact af _
def ep{p:Prop}[Decidable p](h:p):ba p=some ():=by unfold ba;rw[if_pos h]
def i64{n:Int}(a:-9223372036854775808<=n)(h1:n<=9223372036854775807):IntKind.i64.wrap n=n:=IntWalk.i64_in n ⟨a,h1⟩
def u64{n:Int}(a:0<=n)(h1:n<=18446744073709551615):IntKind.u64.wrap n=n:=IntWalk.u64_in n ⟨a,h1⟩
def nA{σ α a:Type}(g:σ->α->Option (σ⊕a))(e:σ->a):σ->List α->Option a|s,[]=>some (e s)|s,x::r=>match g s x with|some (.inl b)=>nA g e b r|some (.inr v)=>some v|none=>none
def zR{σ τ a:Type}(f:σ->τ):Option (σ⊕a)->Option (τ⊕a)|some (.inl s)=>some (.inl (f s))|some (.inr r)=>some (.inr r)|none=>none
def Cz{σ τ α d:Type}{body:τ->Option (τ⊕d)}(l:List α)(st:σ->Int->τ)(g:σ->α->Option (σ⊕d))(e:σ->d)(a:∀(s:σ) (k:Nat) (x:α),l[k]?=some x->body (st s k)=zR (fun f=>st f ((k+1:Nat):Int)) (g s x))(b:∀s:σ,body (st s (l.length:Int))=some (.inr (e s)))(n:Nat)(hn:l.length<n)(s:σ):aL body n (st s 0)=nA g e s l:=by
 have h:∀(m k n:Nat) (s:σ),m=l.length-k->k<=l.length->m<n->aL body n (st s (k:Int))=nA g e s (l.drop k):=by intro m;induction m with|zero=>(intro k n s i j hn;(obtain rfl:k=l.length:=by omega);cases n with|zero=>omega|succ n=>simp only[aL,b,jY,nA])|succ m p=>intro k n s i j hn;cases n with|zero=>omega|succ n=>(have c:k<l.length:=by omega);have q:l[k]?=some l[k]:=af c;rw[cT c];simp only[aL,a s k _ q,nA];cases r:g s l[k] with|none=>simp only[zR]|some o=>cases o with|inl f=>simp only[zR];exact p (k+1) n f (by omega) (by omega) (by omega)|inr v=>simp only[zR]
 have:=h l.length 0 n s (by omega) (by omega) hn;simpa using this
def aP{k n:Nat}(h:k<n)(hn:n<=9223372036854775807):IntKind.i64.wrap ((k:Int)+1)=((k+1:Nat):Int):=by rw[i64 (by omega) (by omega)];omega
def bO{α:Type}{l:List α}{k:Nat}{x:α}(h:l[k]?=some x):k<l.length:=(ap.1 h).1
def dec_lt{α:Type}{l:List α}{k:Nat}{x:α}(h:l[k]?=some x):decide ((k:Int)<(l.length:Int))=true:=by have:=bO h;simp;omega
def bq{α:Type}(l:List α):decide ((l.length:Int)<(l.length:Int))=false:=by simp
section
variable {α:Type}[DecidableEq α]
def yu{c:Type}(s:List c)(f:c->Option Bool)(p:c->Bool)(hf:∀x,f x=some (p x))(d:s.length<=9223372036854775807)(n:Nat)(hn:s.length<n):∃r,aL (fun i:Int=>cond (decide (i<(List.length s:Int))) ((idx s i).bind fun g=>(f g).bind fun j=>cond j (some (.inr (Ex.ret i))) (some (.inl (IntKind.i64.wrap (i+1))))) (some (.inr (.bL ())))) n 0=some r/\(match r with|.bL _=>s.any p=false|.ret i=>0<=i/\s.any p=true):=by
 refine Tc (fun i:Int=>∃k:Nat,i=(k:Int)/\k<=s.length/\(s.take k).any p=false) (fun i:Int=>s.length-i.toNat) _ ?_ n 0 ⟨0,rfl,by omega,by simp⟩ (by simpa using hn);rintro i ⟨k,rfl,l,e⟩;by_cases h:k<s.length;have b:s[k]?=some s[k]:=af h;cases a:p s[k] with|true=>right;refine⟨.ret k,?_,by omega,?_⟩;simp only[dec_lt b,cond_true,aC b,aa,hf,a];rw[List.any_eq_true];exact⟨s[k],ff h,a⟩|false=>left;refine⟨((k+1:Nat):Int),?_,⟨k+1,rfl,by omega,?_⟩,by simp only[bI];omega⟩;simp only[dec_lt b,cond_true,aC b,aa,aP h d,hf,a,cond_false];rw[List.take_add_one,b];simp only[Option.toList_some,List.any_append,ni,List.any_nil,e,a,Bool.or_self]
 right;obtain rfl:k=s.length:=by omega
 refine⟨.bL (),by simp only[bq,cond_false],?_⟩;simpa using e
end
end Go.AM
