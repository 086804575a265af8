/-
  Text, printing: the plain law: expressions, whole.
-/
import Derived.Test.YtmhbeopldeccmaaDoorVpG
set_option linter.unusedVariables false
set_option linter.unusedSimpArgs false
namespace Go.DN
open Go.AM
def yr (t:ai):Prop:=∀(f:Nat) (b:Bool) (d:Nat) (m:Bool) (l:List Int),4*bD t+20≤f→d+bD t+4≤Bd→l.length+40*bD t≤140737488355328→
 ix (right t) d (m||mE t (d+1)) (l++tx t) (F.cp f t b d m l)
def CR (t:ai):Prop:=∀(f g least L:Nat) (b:Bool) (d:Nat) (m:Bool) (l:List Int),4*bD t+20≤f→4*bD t+20≤g→1≤least→least≤3→1≤L→L+bD t≤Bd→d+bD t+4≤Bd→(64<d→m=true)→l.length+40*bD t+2≤140737488355328→
 ix (right t) d (m||fP t least L d) (l++bw (decide (pw t<least)) (tx t)) (F.ej (F.cp f) g t least L b d m l)
theorem HE {t:ai}{f d:Nat}(h:∀x∈t.Kids,yr x) (hf:4*bD t+10≤f) (hd:d+bD t≤Bd):BV (F.cp f) t d:=by
 intro x hx b m l hl
 have:=jy hx
 exact h x hx f b d m l (by omega) (by omega) hl
theorem HD {t:ai}{f g d:Nat}(h:∀x∈t.Kids,CR x) (hf:4*bD t+10≤f) (hg:4*bD t+10≤g) (hd:d+bD t≤Bd):CQ (F.ej (F.cp f) g) t d:=by
 intro x hx least L b m l h1 h2 h3 h4 h5 h6
 have:=jy hx
 exact h x hx f g least L b d m l (by omega) (by omega) h1 h2 h3 h4 (by omega) h5 h6
theorem QJ (f:Nat) (b:Bool) (d:Nat) (m:Bool) (l:List Int) (hd:d+1≤Bd):F.cK f b ((d+1:Nat):Int) m l=some (b,(d:Int),m,l):=by
 unfold F.cK
 rw[i64 (by simp only[Bd] at hd;omega) (by simp only[Bd] at hd;omega)]
 congr 3
 omega
theorem pQ (f:Nat) (b:Bool) (d:Int) (m:Bool) (l:List Int):F.cK f b d m l=some (b,IntKind.wrap .i64 (d-1),m,l):=rfl
theorem Q9 {t:ai}(ho:oP t) (hkx:∀x∈t.Kids,yr x) (hkp:∀x∈t.Kids,CR x) (hx:yr t):CR t:=by
 intro f g least L b d m l hf hg h1 h3 hL hw hd hm hl
 obtain⟨g',rfl⟩:∃g',g=g'+1:=⟨g-1,by omega⟩
 have hpos:=dS t
 show ix _ _ _ _ (F.jN (F.cp f) (F.ej (F.cp f) g') (g'+1) t least L b d m l)
 by_cases hlt:pw t<least
 ·unfold F.jN
  simp only[gT,z7,uU,aa]
  cases hc:cB t with
  | false=>exact ix.no (xy (xE hc)) ⟨(b,(d:Int),m,l),rfl⟩
  | true=>
   have hl1:decide ((pw t:Int)<(least:Int))=true:=decide_eq_true (by omega)
   simp only[dL,cond_false,hl1,cond_true]
   obtain⟨b1,hp1⟩:=kM (fu:=g'+1) (s:=ByteArray.mk #[40]) (b:=b) (d:=(d:Int)) (m:=m) (l:=l) (by omega) (by show _+1≤_;omega)
   rw[hp1]
   simp only[aa]
   have hle:(l++aF (ByteArray.mk #[40])).length=l.length+1:=by rw[al];rfl
   have htl:=kl ho
   have hn:=hx f b1 d m (l++aF (ByteArray.mk #[40])) (by omega) hd (by omega)
   unfold fP
   rw[if_pos hlt,decide_eq_true hlt]
   cases hr:right t with
   | false=>
    rw[hr] at hn
    obtain⟨⟨s1,s2,s3,s4⟩,hn⟩:=hn
    exact⟨(s1,s2,s3,s4),by simp only[hn,aV,aa]⟩
   | true=>
    rw[hr] at hn
    obtain⟨b2,hn⟩:=hn
    obtain⟨b3,hp3⟩:=kM (fu:=g'+1) (s:=ByteArray.mk #[41]) (b:=b2) (d:=(d:Int)) (m:=(m||mE t (d+1))) (l:=l++aF (ByteArray.mk #[40])++tx t) (by omega) (by
     rw[al,hle];show _+1≤_;omega)
    refine⟨b3,?_⟩
    simp only[hn,aV,aa,hp3]
    have:l++aF (ByteArray.mk #[40])++tx t++aF (ByteArray.mk #[41])=l++bw true (tx t):=by unfold bw;simp only[cond_true,aL];rfl
    rw[this]
 ·have hp:1≤pw t:=by omega
  have:=N5 (self:=F.cp f) (self2:=F.ej (F.cp f) g') (f:=g'+1) (least:=least) (b:=b) (l:=l) (by omega) (by omega) hp hw hL ho hm (HE hkx (by omega) (by omega)) (HD hkp (by omega) (by omega) (by omega)) (by omega)
  unfold fP
  rw[if_neg hlt,decide_eq_false hlt]
  exact this
theorem KT {t:ai}{m:Bool}{d:Nat}(h:t.Kids.length=2) (h4:t.Kind≠4):(((m||decide (64<d+1))||mE (k0 t) (d+1+1))||mE (k1 t) (d+1+1))=(m||mE t (d+1)):=by
 have h1:=xK h4
 have h2:=xa h4
 rw[fD h] at h1 h2
 simp only[az,dE,iI,Nat.max_zero] at h1 h2
 rw[kA,kA]
 congr 1
 rw[eD]
 unfold mE
 simp only[cf,decide_eq_true_eq]
 omega
theorem MO {t:ai}{m:Bool}{d:Nat}:((m||decide (64<d+1))||(decide (64<d+1+levels t-1)||decide (64<mL t 1)))=(m||mE t (d+1)):=by
 rw[kA]
 congr 1
 rw[eD]
 unfold mE
 rw[we]
 have h1:=oi t
 have h2:=Gt t
 simp only[cf,decide_eq_true_eq]
 split <;> omega
theorem Rm {t:ai}{d:Int}{m:Bool}{l:List Int}{o:RS}(h:right t=false) (ho:∃s,o=some (.inr ((7,0),s))):ix (right t) d m l o:=ix.no h ho
theorem Kx {t:ai}(h:t.Kids.length=2) (hb:ox t=true) (hx:decide (t.Number=0)=true) (h5:t.Kind=5):right t=(nm t.Name&&(right (k0 t)&&right (k1 t))):=by
 rw[kL]
 unfold ql
 rw[if_neg (by omega),if_neg (by omega),if_neg (by omega),if_pos h5,hb,hx,decide_eq_true h]
 conv=>lhs;rw[fD h]
 simp
theorem Kw {t:ai}(h:t.Kids.length=2) (hb:ox t=true) (h6:t.Kind=6):right t=(decide (0≤t.Number)&&(nm t.Name&&(right (k0 t)&&right (k1 t)))):=by
 rw[kL]
 unfold ql
 rw[if_neg (by omega),if_neg (by omega),if_neg (by omega),if_neg (by omega),if_pos h6,hb,decide_eq_true h]
 conv=>lhs;rw[fD h]
 cases nm t.Name <;> cases decide (0≤t.Number) <;> simp
theorem J0 {t:ai}(h:t.Kids.length=2) (h5:t.Kind=5):tx t=[108,101,116,32]++aF t.Name++[32,61,32]++tx (k0 t)++[32,105,110,32]++tx (k1 t):=by
 rw[o7];unfold uh
 rw[if_neg (by omega),if_neg (by omega),if_neg (by omega),if_pos h5]
 conv=>lhs;rw[fD h]
 rfl
theorem JZ {t:ai}(h:t.Kids.length=2) (h6:t.Kind=6):tx t=[114,101,112,101,97,116,32]++dg t.Number++[32]++aF t.Name++[32,61,32]++tx (k0 t)++[32,119,105,116,104,32]++tx (k1 t):=by
 rw[o7];unfold uh
 rw[if_neg (by omega),if_neg (by omega),if_neg (by omega),if_neg (by omega),if_pos h6]
 conv=>lhs;rw[fD h]
 rfl
theorem Rl {t : ai} (ho : oP t) (hkx : ∀ x ∈ t.Kids, yr x) (hkp : ∀ x ∈ t.Kids, CR x) : yr t := by
  intro f b d m l hf hd hl
  obtain ⟨f', rfl⟩ : ∃ f', f = f' + 1 := ⟨f - 1, by omega⟩
  obtain ⟨⟨o1, o2, o3⟩, o4⟩ := (nN t).1 ho
  have hpos := dS t
  have hwp := lE t
  unfold gM at hwp
  show ix _ _ _ _ (F.nJ (F.cp f') (f' + 1) t b d m l)
  unfold F.nJ
  rw [show IntKind.wrap .i64 ((d : Int) + 1) = ((d + 1 : Nat) : Int) from mH (i := d) (n := Bd) (by omega) (ar _)]
  simp only [gT, z7, aa]
  have cls := fun (b : Bool) (m : Bool) (l : List Int) => QJ (f' + 1) b d m l (by omega)
  cases hc : cB t with
  | false =>
    refine Rm (xy (xE hc)) ⟨(b, (d : Int), m, l), ?_⟩
    simp only [eE, cond_true, cls, aa, aK]
  | true =>
    simp only [dL, cond_false]
    have hm1 : (cond m (some (b, ((d + 1 : Nat) : Int), true)) (some (b, ((d + 1 : Nat) : Int), decide ((((d + 1 : Nat) : Int)) > 64))) : Option (Bool × Int × Bool)) = some (b, ((d + 1 : Nat) : Int), m || decide (64 < d + 1)) := by
      cases m with
      | true => rfl
      | false =>
        have : decide ((((d + 1 : Nat) : Int)) > 64) = decide (64 < d + 1) := by rw [decide_eq_decide]; omega
        rw [this]; rfl
    rw [hm1]
    simp only [aa]
    rw [kE, kE]
    have hmd : 64 < d + 1 → (m || decide (64 < d + 1)) = true := fun h => by rw [decide_eq_true h, Bool.or_true]
    unfold cB at hc
    by_cases h5 : t.Kind = 5
    · rw [if_neg (by omega), if_neg (by omega), if_pos (.inr h5)] at hc
      simp only [ah, decide_eq_true_eq] at hc
      obtain ⟨c1, c2, c3⟩ := hc
      have hw2 := u7 c3
      rw [Kx c3 c1 (decide_eq_true c2) h5, ← KT c3 (by omega), decide_eq_true h5]
      simp only [cond_true]
      generalize (m || decide (64 < d + 1)) = m1 at hmd ⊢
      obtain ⟨b1, hp1⟩ := kM (fu := f' + 1) (s := ByteArray.mk #[108, 101, 116, 32]) (b := b) (d := ((d + 1 : Nat) : Int)) (m := m1) (l := l) (by omega) (by show _ + 4 ≤ _; omega)
      rw [hp1]
      simp only [aa]
      have e1 : (l ++ aF (ByteArray.mk #[108, 101, 116, 32])).length = l.length + 4 := by rw [al]; rfl
      generalize hL1 : l ++ aF (ByteArray.mk #[108, 101, 116, 32]) = L1 at e1 ⊢
      have hn := pk (fu := f' + 1) (s := t.Name) (b := b1) (d := ((d + 1 : Nat) : Int)) (m := m1) (l := L1) (by omega) (by omega) (by omega) (by omega)
      cases h1 : nm t.Name with
      | false =>
        rw [h1] at hn
        obtain ⟨⟨s1, s2, s3, s4⟩, hn⟩ := hn
        exact ix.no rfl ⟨(s1, IntKind.wrap .i64 (s2 - 1), s3, s4), by simp only [hn, aV, br, aa, pQ, aK, cond_true]⟩
      | true =>
        rw [h1] at hn
        obtain ⟨b2, hn⟩ := hn
        simp only [hn, aV, aa]
        have e2 : (L1 ++ aF t.Name).length = L1.length + t.Name.size := by rw [al, bI]
        generalize hL2 : L1 ++ aF t.Name = L2 at e2 ⊢
        obtain ⟨b3, hp3⟩ := kM (fu := f' + 1) (s := ByteArray.mk #[32, 61, 32]) (b := b2) (d := ((d + 1 : Nat) : Int)) (m := m1) (l := L2) (by omega) (by show _ + 3 ≤ _; omega)
        rw [hp3]
        simp only [aa, vk c3]
        have e3 : (L2 ++ aF (ByteArray.mk #[32, 61, 32])).length = L2.length + 3 := by rw [al]; rfl
        generalize hL3 : L2 ++ aF (ByteArray.mk #[32, 61, 32]) = L3 at e3 ⊢
        have hx0 := hkx _ (lx c3) f' b3 (d + 1) m1 L3 (by omega) (by omega) (by omega)
        have hbl := kl (o4 _ (lx c3))
        cases hr0 : right (k0 t) with
        | false =>
          rw [hr0] at hx0
          obtain ⟨⟨s1, s2, s3, s4⟩, hx0⟩ := hx0
          exact ix.no rfl ⟨(s1, IntKind.wrap .i64 (s2 - 1), s3, s4), by simp only [hx0, aV, br, aa, pQ, aK, cond_true]⟩
        | true =>
          rw [hr0] at hx0
          obtain ⟨b4, hx0⟩ := hx0
          simp only [hx0, aa]
          have e4 : (L3 ++ tx (k0 t)).length + 10 ≤ L3.length + 40 * bD (k0 t) := by rw [al]; omega
          generalize hL4 : L3 ++ tx (k0 t) = L4 at e4 ⊢
          obtain ⟨b5, hp5⟩ := kM (fu := f' + 1) (s := ByteArray.mk #[32, 105, 110, 32]) (b := b4) (d := ((d + 1 : Nat) : Int)) (m := m1 || mE (k0 t) (d + 1 + 1)) (l := L4) (by omega) (by show _ + 4 ≤ _; omega)
          rw [hp5]
          simp only [aa, xN c3]
          have e5 : (L4 ++ aF (ByteArray.mk #[32, 105, 110, 32])).length = L4.length + 4 := by rw [al]; rfl
          generalize hL5 : L4 ++ aF (ByteArray.mk #[32, 105, 110, 32]) = L5 at e5 ⊢
          have hx1 := hkx _ (qs c3) f' b5 (d + 1) (m1 || mE (k0 t) (d + 1 + 1)) L5 (by omega) (by omega) (by omega)
          cases hr1 : right (k1 t) with
          | false =>
            rw [hr1] at hx1
            obtain ⟨⟨s1, s2, s3, s4⟩, hx1⟩ := hx1
            exact ix.no rfl ⟨(s1, IntKind.wrap .i64 (s2 - 1), s3, s4), by simp only [hx1, aV, br, aa, pQ, aK, cond_true]⟩
          | true =>
            rw [hr1] at hx1
            obtain ⟨b6, hx1⟩ := hx1
            refine ⟨b6, ?_⟩
            simp only [hx1, br, aa, cls, aK, cond_true]
            have : L5 ++ tx (k1 t) = l ++ tx t := by rw [J0 c3 h5, ← hL5, ← hL4, ← hL3, ← hL2, ← hL1]; simp only [aL]; rfl
            rw [this]
    rw [decide_eq_false h5]
    simp only [cond_false]
    by_cases h6 : t.Kind = 6
    · rw [if_neg (by omega), if_neg (by omega), if_neg (by omega), if_pos h6] at hc
      simp only [ah, decide_eq_true_eq] at hc
      obtain ⟨c1, c3⟩ := hc
      have hw2 := u7 c3
      rw [Kw c3 c1 h6, ← KT c3 (by omega), decide_eq_true h6]
      simp only [cond_true]
      generalize (m || decide (64 < d + 1)) = m1 at hmd ⊢
      obtain ⟨b1, hp1⟩ := kM (fu := f' + 1) (s := ByteArray.mk #[114, 101, 112, 101, 97, 116, 32]) (b := b) (d := ((d + 1 : Nat) : Int)) (m := m1) (l := l) (by omega) (by show _ + 7 ≤ _; omega)
      rw [hp1]
      simp only [aa]
      have e1 : (l ++ aF (ByteArray.mk #[114, 101, 112, 101, 97, 116, 32])).length = l.length + 7 := by rw [al]; rfl
      generalize hL1 : l ++ aF (ByteArray.mk #[114, 101, 112, 101, 97, 116, 32]) = L1 at e1 ⊢
      have hq := sG (fu := f' + 1) (n := t.Number) (b := b1) (d := ((d + 1 : Nat) : Int)) (m := m1) (l := L1) (by omega) o1 (by omega)
      have hdl := mO o1
      cases h0 : decide (0 ≤ t.Number) with
      | false =>
        rw [h0] at hq
        obtain ⟨⟨s1, s2, s3, s4⟩, hq⟩ := hq
        exact ix.no rfl ⟨(s1, IntKind.wrap .i64 (s2 - 1), s3, s4), by simp only [hq, aV, br, aa, pQ, aK, cond_true]⟩
      | true =>
      rw [h0] at hq
      obtain ⟨b7, hq⟩ := hq
      simp only [hq, aV, aa]
      have e6 : (L1 ++ dg t.Number).length ≤ L1.length + 20 := by rw [al]; omega
      generalize hL6 : L1 ++ dg t.Number = L6 at e6 ⊢
      obtain ⟨b8, hp8⟩ := kM (fu := f' + 1) (s := ByteArray.mk #[32]) (b := b7) (d := ((d + 1 : Nat) : Int)) (m := m1) (l := L6) (by omega) (by show _ + 1 ≤ _; omega)
      rw [hp8]
      simp only [aa]
      have e7 : (L6 ++ aF (ByteArray.mk #[32])).length = L6.length + 1 := by rw [al]; rfl
      generalize hL7 : L6 ++ aF (ByteArray.mk #[32]) = L7 at e7 ⊢
      have hn := pk (fu := f' + 1) (s := t.Name) (b := b8) (d := ((d + 1 : Nat) : Int)) (m := m1) (l := L7) (by omega) (by omega) (by omega) (by omega)
      cases h1 : nm t.Name with
      | false =>
        rw [h1] at hn
        obtain ⟨⟨s1, s2, s3, s4⟩, hn⟩ := hn
        exact ix.no rfl ⟨(s1, IntKind.wrap .i64 (s2 - 1), s3, s4), by simp only [hn, aV, br, aa, pQ, aK, cond_true]⟩
      | true =>
        rw [h1] at hn
        obtain ⟨b2, hn⟩ := hn
        simp only [hn, aV, aa]
        have e2 : (L7 ++ aF t.Name).length = L7.length + t.Name.size := by rw [al, bI]
        generalize hL2 : L7 ++ aF t.Name = L2 at e2 ⊢
        obtain ⟨b3, hp3⟩ := kM (fu := f' + 1) (s := ByteArray.mk #[32, 61, 32]) (b := b2) (d := ((d + 1 : Nat) : Int)) (m := m1) (l := L2) (by omega) (by show _ + 3 ≤ _; omega)
        rw [hp3]
        simp only [aa, vk c3]
        have e3 : (L2 ++ aF (ByteArray.mk #[32, 61, 32])).length = L2.length + 3 := by rw [al]; rfl
        generalize hL3 : L2 ++ aF (ByteArray.mk #[32, 61, 32]) = L3 at e3 ⊢
        have hx0 := hkx _ (lx c3) f' b3 (d + 1) m1 L3 (by omega) (by omega) (by omega)
        have hbl := kl (o4 _ (lx c3))
        cases hr0 : right (k0 t) with
        | false =>
          rw [hr0] at hx0
          obtain ⟨⟨s1, s2, s3, s4⟩, hx0⟩ := hx0
          exact ix.no rfl ⟨(s1, IntKind.wrap .i64 (s2 - 1), s3, s4), by simp only [hx0, aV, br, aa, pQ, aK, cond_true]⟩
        | true =>
          rw [hr0] at hx0
          obtain ⟨b4, hx0⟩ := hx0
          simp only [hx0, aa]
          have e4 : (L3 ++ tx (k0 t)).length + 10 ≤ L3.length + 40 * bD (k0 t) := by rw [al]; omega
          generalize hL4 : L3 ++ tx (k0 t) = L4 at e4 ⊢
          obtain ⟨b5, hp5⟩ := kM (fu := f' + 1) (s := ByteArray.mk #[32, 119, 105, 116, 104, 32]) (b := b4) (d := ((d + 1 : Nat) : Int)) (m := m1 || mE (k0 t) (d + 1 + 1)) (l := L4) (by omega) (by show _ + 6 ≤ _; omega)
          rw [hp5]
          simp only [aa, xN c3]
          have e5 : (L4 ++ aF (ByteArray.mk #[32, 119, 105, 116, 104, 32])).length = L4.length + 6 := by rw [al]; rfl
          generalize hL5 : L4 ++ aF (ByteArray.mk #[32, 119, 105, 116, 104, 32]) = L5 at e5 ⊢
          have hx1 := hkx _ (qs c3) f' b5 (d + 1) (m1 || mE (k0 t) (d + 1 + 1)) L5 (by omega) (by omega) (by omega)
          cases hr1 : right (k1 t) with
          | false =>
            rw [hr1] at hx1
            obtain ⟨⟨s1, s2, s3, s4⟩, hx1⟩ := hx1
            exact ix.no rfl ⟨(s1, IntKind.wrap .i64 (s2 - 1), s3, s4), by simp only [hx1, aV, br, aa, pQ, aK, cond_true]⟩
          | true =>
            rw [hr1] at hx1
            obtain ⟨b6, hx1⟩ := hx1
            refine ⟨b6, ?_⟩
            simp only [hx1, br, aa, cls, aK, cond_true]
            have : L5 ++ tx (k1 t) = l ++ tx t := by rw [JZ c3 h6, ← hL5, ← hL4, ← hL3, ← hL2, ← hL7, ← hL6, ← hL1]; simp only [aL]; rfl
            rw [this]
    rw [decide_eq_false h6]
    simp only [cond_false]
    have hp : 1 ≤ pw t := by unfold pw; rw [if_neg (by omega)]; split; · split <;> omega
                             omega
    have hpa := N5 (self := F.cp f') (self2 := F.ej (F.cp f') f') (f := f' + 1) (least := 0) (L := 1) (b := b) (d := d + 1) (m := (m || decide (64 < d + 1))) (l := l) (by omega) (cI _) hp (by omega) (ar _) ho hmd (HE hkx (by omega) (by omega)) (HD hkp (by omega) (by omega) (by omega)) hl
    have hpa : ix (right t) ((d + 1 : Nat) : Int) _ (l ++ tx t) (F.ej (F.cp f') (f' + 1) t 0 1 b ((d + 1 : Nat) : Int) (m || decide (64 < d + 1)) l) := hpa
    rw [MO] at hpa
    cases hr : right t with
    | false =>
      rw [hr] at hpa
      obtain ⟨⟨s1, s2, s3, s4⟩, hpa⟩ := hpa
      exact ix.no rfl ⟨(s1, IntKind.wrap .i64 (s2 - 1), s3, s4), by simp only [hpa, aV, br, aa, pQ, aK, cond_true]⟩
    | true =>
      rw [hr] at hpa
      obtain ⟨b6, hpa⟩ := hpa
      refine ⟨b6, ?_⟩
      simp only [hpa, aV, br, aa, cls, aK, cond_true]
theorem LP:∀(n:Nat) (t:ai),bD t≤n→oP t→yr t∧CR t
 | 0,t,h,_=>by have:=dS t;omega
 | n+1,t,h,ho=>by
  obtain⟨_,o4⟩:=(nN t).1 ho
  have hk:∀x∈t.Kids,yr x∧CR x:=fun x hx=>LP n x (by have:=jy hx;omega) (o4 x hx)
  have hx:=Rl ho (fun x hx=>(hk x hx).1) (fun x hx=>(hk x hx).2)
  exact⟨hx,Q9 ho (fun x hx=>(hk x hx).1) (fun x hx=>(hk x hx).2) hx⟩
theorem Ni {t:ai}(ho:oP t):yr t:=(LP _ t (ar _) ho).1
end Go.DN
