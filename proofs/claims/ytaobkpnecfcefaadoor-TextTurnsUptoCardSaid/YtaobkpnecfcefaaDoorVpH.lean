/-
  Text, printing: the plain law: expressions, whole.
-/
import Derived.Test.YtaobkpnecfcefaaDoorVpG
set_option linter.unusedVariables false
set_option linter.unusedSimpArgs false
namespace Go.DN
open Go.AM
def Aa (t:ai):Prop:=∀(f:Nat) (b:Bool) (d:Nat) (m:Bool) (l:List Int),4*dN t+20≤f→d+dN t+4≤Bd→l.length+40*dN t≤140737488355328→
 iK (right t) d (m||mE t (d+1)) (l++tx t) (F.cq f t b d m l)
def EX (t:ai):Prop:=∀(f g least L:Nat) (b:Bool) (d:Nat) (m:Bool) (l:List Int),4*dN t+20≤f→4*dN t+20≤g→1≤least→least≤3→1≤L→L+dN t≤Bd→d+dN t+4≤Bd→(64<d→m=true)→l.length+40*dN t+2≤140737488355328→
 iK (right t) d (m||fP t least L d) (l++cD (decide (pw t<least)) (tx t)) (F.ea (F.cq f) g t least L b d m l)
theorem J6 {t:ai}{f d:Nat}(h:∀x∈t.Kids,Aa x) (hf:4*dN t+10≤f) (hd:d+dN t≤Bd):D0 (F.cq f) t d:=by
 intro x hx b m l hl
 have:=oW hx
 exact h x hx f b d m l (by omega) (by omega) hl
theorem J5 {t:ai}{f g d:Nat}(h:∀x∈t.Kids,EX x) (hf:4*dN t+10≤f) (hg:4*dN t+10≤g) (hd:d+dN t≤Bd):EW (F.ea (F.cq f) g) t d:=by
 intro x hx least L b m l h1 h2 h3 h4 h5 h6
 have:=oW hx
 exact h x hx f g least L b d m l (by omega) (by omega) h1 h2 h3 h4 (by omega) h5 h6
theorem Ul (f:Nat) (b:Bool) (d:Nat) (m:Bool) (l:List Int) (hd:d+1≤Bd):F.cL f b ((d+1:Nat):Int) m l=some (b,(d:Int),m,l):=by
 unfold F.cL
 rw[i64 (by simp only[Bd] at hd;omega) (by simp only[Bd] at hd;omega)]
 congr 3
 omega
theorem qv (f:Nat) (b:Bool) (d:Int) (m:Bool) (l:List Int):F.cL f b d m l=some (b,IntKind.wrap .i64 (d-1),m,l):=rfl
theorem UR {t:ai}(ho:pD t) (hkx:∀x∈t.Kids,Aa x) (hkp:∀x∈t.Kids,EX x) (hx:Aa t):EX t:=by
 intro f g least L b d m l hf hg h1 h3 hL hw hd hm hl
 obtain⟨g',rfl⟩:∃g',g=g'+1:=⟨g-1,by omega⟩
 have hpos:=jE t
 show iK _ _ _ _ (F.kh (F.cq f) (F.ea (F.cq f) g') (g'+1) t least L b d m l)
 by_cases hlt:pw t<least
 ·unfold F.kh
  simp only[AF,B4,wi,aa]
  cases hc:cB t with
  | false=>exact iK.no (zj (zr hc)) ⟨(b,(d:Int),m,l),rfl⟩
  | true=>
   have hl1:decide ((pw t:Int)<(least:Int))=true:=decide_eq_true (by omega)
   simp only[de,cond_false,hl1,cond_true]
   obtain⟨b1,hp1⟩:=lj (fu:=g'+1) (s:=ByteArray.mk #[40]) (b:=b) (d:=(d:Int)) (m:=m) (l:=l) (by omega) (by show _+1≤_;omega)
   rw[hp1]
   simp only[aa]
   have hle:(l++aH (ByteArray.mk #[40])).length=l.length+1:=by rw[ak];rfl
   have htl:=vr ho
   have hn:=hx f b1 d m (l++aH (ByteArray.mk #[40])) (by omega) hd (by omega)
   unfold fP
   rw[if_pos hlt,decide_eq_true hlt]
   cases hr:right t with
   | false=>
    rw[hr] at hn
    obtain⟨⟨s1,s2,s3,s4⟩,hn⟩:=hn
    exact⟨(s1,s2,s3,s4),by simp only[hn,aD,aa]⟩
   | true=>
    rw[hr] at hn
    obtain⟨b2,hn⟩:=hn
    obtain⟨b3,hp3⟩:=lj (fu:=g'+1) (s:=ByteArray.mk #[41]) (b:=b2) (d:=(d:Int)) (m:=(m||mE t (d+1))) (l:=l++aH (ByteArray.mk #[40])++tx t) (by omega) (by
     rw[ak,hle];show _+1≤_;omega)
    refine⟨b3,?_⟩
    simp only[hn,aD,aa,hp3]
    have:l++aH (ByteArray.mk #[40])++tx t++aH (ByteArray.mk #[41])=l++cD true (tx t):=by unfold cD;simp only[cond_true,aA];rfl
    rw[this]
 ·have hp:1≤pw t:=by omega
  have:=Rc (self:=F.cq f) (self2:=F.ea (F.cq f) g') (f:=g'+1) (least:=least) (b:=b) (l:=l) (by omega) (by omega) hp hw hL ho hm (J6 hkx (by omega) (by omega)) (J5 hkp (by omega) (by omega) (by omega)) (by omega)
  unfold fP
  rw[if_neg hlt,decide_eq_false hlt]
  exact this
theorem NK {t:ai}{m:Bool}{d:Nat}(h:t.Kids.length=2) (h4:t.Kind≠4):(((m||decide (64<d+1))||mE (k0 t) (d+1+1))||mE (k1 t) (d+1+1))=(m||mE t (d+1)):=by
 have h1:=qY h4
 have h2:=yM h4
 rw[fj h] at h1 h2
 simp only[aB,eJ,pX,Nat.max_zero] at h1 h2
 rw[pt,pt]
 congr 1
 rw[Bool.eq_iff_iff]
 unfold mE
 simp only[bD,decide_eq_true_eq]
 omega
theorem PL {t:ai}{m:Bool}{d:Nat}:((m||decide (64<d+1))||(decide (64<d+1+levels t-1)||decide (64<mL t 1)))=(m||mE t (d+1)):=by
 rw[pt]
 congr 1
 rw[Bool.eq_iff_iff]
 unfold mE
 rw[xW]
 have h1:=ma t
 have h2:=B5 t
 simp only[bD,decide_eq_true_eq]
 split <;> omega
theorem U1 {t:ai}{d:Int}{m:Bool}{l:List Int}{o:RS}(h:right t=false) (ho:∃s,o=some (.inr ((7,0),s))):iK (right t) d m l o:=iK.no h ho
theorem M9 {t:ai}(h:t.Kids.length=2) (hb:oo t=true) (hx:decide (t.Number=0)=true) (h5:t.Kind=5):right t=(nm t.Name&&(right (k0 t)&&right (k1 t))):=by
 rw[li]
 unfold mq
 rw[if_neg (by omega),if_neg (by omega),if_neg (by omega),if_pos h5,hb,hx,decide_eq_true h]
 conv=>lhs;rw[fj h]
 simp
theorem M8 {t:ai}(h:t.Kids.length=2) (hb:oo t=true) (h6:t.Kind=6):right t=(decide (0≤t.Number)&&(nm t.Name&&(right (k0 t)&&right (k1 t)))):=by
 rw[li]
 unfold mq
 rw[if_neg (by omega),if_neg (by omega),if_neg (by omega),if_neg (by omega),if_pos h6,hb,decide_eq_true h]
 conv=>lhs;rw[fj h]
 cases nm t.Name <;> cases decide (0≤t.Number) <;> simp
theorem Tk {t:ai}(h:t.Kids.length=2) (h5:t.Kind=5):tx t=[108,101,116,32]++aH t.Name++[32,61,32]++tx (k0 t)++[32,105,110,32]++tx (k1 t):=by
 rw[tR];unfold yK
 rw[if_neg (by omega),if_neg (by omega),if_neg (by omega),if_pos h5]
 conv=>lhs;rw[fj h]
 rfl
theorem Ti {t:ai}(h:t.Kids.length=2) (h6:t.Kind=6):tx t=[114,101,112,101,97,116,32]++dg t.Number++[32]++aH t.Name++[32,61,32]++tx (k0 t)++[32,119,105,116,104,32]++tx (k1 t):=by
 rw[tR];unfold yK
 rw[if_neg (by omega),if_neg (by omega),if_neg (by omega),if_neg (by omega),if_pos h6]
 conv=>lhs;rw[fj h]
 rfl
theorem U0 {t : ai} (ho : pD t) (hkx : ∀ x ∈ t.Kids, Aa x) (hkp : ∀ x ∈ t.Kids, EX x) : Aa t := by
  intro f b d m l hf hd hl
  obtain ⟨f', rfl⟩ : ∃ f', f = f' + 1 := ⟨f - 1, by omega⟩
  obtain ⟨⟨o1, o2, o3⟩, o4⟩ := (l7 t).1 ho
  have hpos := jE t
  have hwp := xk t
  unfold nB at hwp
  show iK _ _ _ _ (F.oz (F.cq f') (f' + 1) t b d m l)
  unfold F.oz
  rw [show IntKind.wrap .i64 ((d : Int) + 1) = ((d + 1 : Nat) : Int) from yU (i := d) (n := Bd) (by omega) (aq _)]
  simp only [AF, B4, aa]
  have cls := fun (b : Bool) (m : Bool) (l : List Int) => Ul (f' + 1) b d m l (by omega)
  cases hc : cB t with
  | false =>
    refine U1 (zj (zr hc)) ⟨(b, (d : Int), m, l), ?_⟩
    simp only [eo, cond_true, cls, aa, aQ]
  | true =>
    simp only [de, cond_false]
    have hm1 : (cond m (some (b, ((d + 1 : Nat) : Int), true)) (some (b, ((d + 1 : Nat) : Int), decide ((((d + 1 : Nat) : Int)) > 64))) : Option (Bool × Int × Bool)) = some (b, ((d + 1 : Nat) : Int), m || decide (64 < d + 1)) := by
      cases m with
      | true => rfl
      | false =>
        have : decide ((((d + 1 : Nat) : Int)) > 64) = decide (64 < d + 1) := by rw [decide_eq_decide]; omega
        rw [this]; rfl
    rw [hm1]
    simp only [aa]
    rw [sx, sx]
    have hmd : 64 < d + 1 → (m || decide (64 < d + 1)) = true := fun h => by rw [decide_eq_true h, Bool.or_true]
    unfold cB at hc
    by_cases h5 : t.Kind = 5
    · rw [if_neg (by omega), if_neg (by omega), if_pos (.inr h5)] at hc
      simp only [ag, decide_eq_true_eq] at hc
      obtain ⟨c1, c2, c3⟩ := hc
      have hw2 := GI c3
      rw [M9 c3 c1 (decide_eq_true c2) h5, ← NK c3 (by omega), decide_eq_true h5]
      simp only [cond_true]
      generalize (m || decide (64 < d + 1)) = m1 at hmd ⊢
      obtain ⟨b1, hp1⟩ := lj (fu := f' + 1) (s := ByteArray.mk #[108, 101, 116, 32]) (b := b) (d := ((d + 1 : Nat) : Int)) (m := m1) (l := l) (by omega) (by show _ + 4 ≤ _; omega)
      rw [hp1]
      simp only [aa]
      have e1 : (l ++ aH (ByteArray.mk #[108, 101, 116, 32])).length = l.length + 4 := by rw [ak]; rfl
      generalize hL1 : l ++ aH (ByteArray.mk #[108, 101, 116, 32]) = L1 at e1 ⊢
      have hn := pW (fu := f' + 1) (s := t.Name) (b := b1) (d := ((d + 1 : Nat) : Int)) (m := m1) (l := L1) (by omega) (by omega) (by omega) (by omega)
      cases h1 : nm t.Name with
      | false =>
        rw [h1] at hn
        obtain ⟨⟨s1, s2, s3, s4⟩, hn⟩ := hn
        exact iK.no rfl ⟨(s1, IntKind.wrap .i64 (s2 - 1), s3, s4), by simp only [hn, aD, bx, aa, qv, aQ, cond_true]⟩
      | true =>
        rw [h1] at hn
        obtain ⟨b2, hn⟩ := hn
        simp only [hn, aD, aa]
        have e2 : (L1 ++ aH t.Name).length = L1.length + t.Name.size := by rw [ak, cu]
        generalize hL2 : L1 ++ aH t.Name = L2 at e2 ⊢
        obtain ⟨b3, hp3⟩ := lj (fu := f' + 1) (s := ByteArray.mk #[32, 61, 32]) (b := b2) (d := ((d + 1 : Nat) : Int)) (m := m1) (l := L2) (by omega) (by show _ + 3 ≤ _; omega)
        rw [hp3]
        simp only [aa, Ib c3]
        have e3 : (L2 ++ aH (ByteArray.mk #[32, 61, 32])).length = L2.length + 3 := by rw [ak]; rfl
        generalize hL3 : L2 ++ aH (ByteArray.mk #[32, 61, 32]) = L3 at e3 ⊢
        have hx0 := hkx _ (kR c3) f' b3 (d + 1) m1 L3 (by omega) (by omega) (by omega)
        have hbl := vr (o4 _ (kR c3))
        cases hr0 : right (k0 t) with
        | false =>
          rw [hr0] at hx0
          obtain ⟨⟨s1, s2, s3, s4⟩, hx0⟩ := hx0
          exact iK.no rfl ⟨(s1, IntKind.wrap .i64 (s2 - 1), s3, s4), by simp only [hx0, aD, bx, aa, qv, aQ, cond_true]⟩
        | true =>
          rw [hr0] at hx0
          obtain ⟨b4, hx0⟩ := hx0
          simp only [hx0, aa]
          have e4 : (L3 ++ tx (k0 t)).length + 10 ≤ L3.length + 40 * dN (k0 t) := by rw [ak]; omega
          generalize hL4 : L3 ++ tx (k0 t) = L4 at e4 ⊢
          obtain ⟨b5, hp5⟩ := lj (fu := f' + 1) (s := ByteArray.mk #[32, 105, 110, 32]) (b := b4) (d := ((d + 1 : Nat) : Int)) (m := m1 || mE (k0 t) (d + 1 + 1)) (l := L4) (by omega) (by show _ + 4 ≤ _; omega)
          rw [hp5]
          simp only [aa, Ia c3]
          have e5 : (L4 ++ aH (ByteArray.mk #[32, 105, 110, 32])).length = L4.length + 4 := by rw [ak]; rfl
          generalize hL5 : L4 ++ aH (ByteArray.mk #[32, 105, 110, 32]) = L5 at e5 ⊢
          have hx1 := hkx _ (pI c3) f' b5 (d + 1) (m1 || mE (k0 t) (d + 1 + 1)) L5 (by omega) (by omega) (by omega)
          cases hr1 : right (k1 t) with
          | false =>
            rw [hr1] at hx1
            obtain ⟨⟨s1, s2, s3, s4⟩, hx1⟩ := hx1
            exact iK.no rfl ⟨(s1, IntKind.wrap .i64 (s2 - 1), s3, s4), by simp only [hx1, aD, bx, aa, qv, aQ, cond_true]⟩
          | true =>
            rw [hr1] at hx1
            obtain ⟨b6, hx1⟩ := hx1
            refine ⟨b6, ?_⟩
            simp only [hx1, bx, aa, cls, aQ, cond_true]
            have : L5 ++ tx (k1 t) = l ++ tx t := by rw [Tk c3 h5, ← hL5, ← hL4, ← hL3, ← hL2, ← hL1]; simp only [aA]; rfl
            rw [this]
    rw [decide_eq_false h5]
    simp only [cond_false]
    by_cases h6 : t.Kind = 6
    · rw [if_neg (by omega), if_neg (by omega), if_neg (by omega), if_pos h6] at hc
      simp only [ag, decide_eq_true_eq] at hc
      obtain ⟨c1, c3⟩ := hc
      have hw2 := GI c3
      rw [M8 c3 c1 h6, ← NK c3 (by omega), decide_eq_true h6]
      simp only [cond_true]
      generalize (m || decide (64 < d + 1)) = m1 at hmd ⊢
      obtain ⟨b1, hp1⟩ := lj (fu := f' + 1) (s := ByteArray.mk #[114, 101, 112, 101, 97, 116, 32]) (b := b) (d := ((d + 1 : Nat) : Int)) (m := m1) (l := l) (by omega) (by show _ + 7 ≤ _; omega)
      rw [hp1]
      simp only [aa]
      have e1 : (l ++ aH (ByteArray.mk #[114, 101, 112, 101, 97, 116, 32])).length = l.length + 7 := by rw [ak]; rfl
      generalize hL1 : l ++ aH (ByteArray.mk #[114, 101, 112, 101, 97, 116, 32]) = L1 at e1 ⊢
      have hq := tW (fu := f' + 1) (n := t.Number) (b := b1) (d := ((d + 1 : Nat) : Int)) (m := m1) (l := L1) (by omega) o1 (by omega)
      have hdl := uT o1
      cases h0 : decide (0 ≤ t.Number) with
      | false =>
        rw [h0] at hq
        obtain ⟨⟨s1, s2, s3, s4⟩, hq⟩ := hq
        exact iK.no rfl ⟨(s1, IntKind.wrap .i64 (s2 - 1), s3, s4), by simp only [hq, aD, bx, aa, qv, aQ, cond_true]⟩
      | true =>
      rw [h0] at hq
      obtain ⟨b7, hq⟩ := hq
      simp only [hq, aD, aa]
      have e6 : (L1 ++ dg t.Number).length ≤ L1.length + 20 := by rw [ak]; omega
      generalize hL6 : L1 ++ dg t.Number = L6 at e6 ⊢
      obtain ⟨b8, hp8⟩ := lj (fu := f' + 1) (s := ByteArray.mk #[32]) (b := b7) (d := ((d + 1 : Nat) : Int)) (m := m1) (l := L6) (by omega) (by show _ + 1 ≤ _; omega)
      rw [hp8]
      simp only [aa]
      have e7 : (L6 ++ aH (ByteArray.mk #[32])).length = L6.length + 1 := by rw [ak]; rfl
      generalize hL7 : L6 ++ aH (ByteArray.mk #[32]) = L7 at e7 ⊢
      have hn := pW (fu := f' + 1) (s := t.Name) (b := b8) (d := ((d + 1 : Nat) : Int)) (m := m1) (l := L7) (by omega) (by omega) (by omega) (by omega)
      cases h1 : nm t.Name with
      | false =>
        rw [h1] at hn
        obtain ⟨⟨s1, s2, s3, s4⟩, hn⟩ := hn
        exact iK.no rfl ⟨(s1, IntKind.wrap .i64 (s2 - 1), s3, s4), by simp only [hn, aD, bx, aa, qv, aQ, cond_true]⟩
      | true =>
        rw [h1] at hn
        obtain ⟨b2, hn⟩ := hn
        simp only [hn, aD, aa]
        have e2 : (L7 ++ aH t.Name).length = L7.length + t.Name.size := by rw [ak, cu]
        generalize hL2 : L7 ++ aH t.Name = L2 at e2 ⊢
        obtain ⟨b3, hp3⟩ := lj (fu := f' + 1) (s := ByteArray.mk #[32, 61, 32]) (b := b2) (d := ((d + 1 : Nat) : Int)) (m := m1) (l := L2) (by omega) (by show _ + 3 ≤ _; omega)
        rw [hp3]
        simp only [aa, Ib c3]
        have e3 : (L2 ++ aH (ByteArray.mk #[32, 61, 32])).length = L2.length + 3 := by rw [ak]; rfl
        generalize hL3 : L2 ++ aH (ByteArray.mk #[32, 61, 32]) = L3 at e3 ⊢
        have hx0 := hkx _ (kR c3) f' b3 (d + 1) m1 L3 (by omega) (by omega) (by omega)
        have hbl := vr (o4 _ (kR c3))
        cases hr0 : right (k0 t) with
        | false =>
          rw [hr0] at hx0
          obtain ⟨⟨s1, s2, s3, s4⟩, hx0⟩ := hx0
          exact iK.no rfl ⟨(s1, IntKind.wrap .i64 (s2 - 1), s3, s4), by simp only [hx0, aD, bx, aa, qv, aQ, cond_true]⟩
        | true =>
          rw [hr0] at hx0
          obtain ⟨b4, hx0⟩ := hx0
          simp only [hx0, aa]
          have e4 : (L3 ++ tx (k0 t)).length + 10 ≤ L3.length + 40 * dN (k0 t) := by rw [ak]; omega
          generalize hL4 : L3 ++ tx (k0 t) = L4 at e4 ⊢
          obtain ⟨b5, hp5⟩ := lj (fu := f' + 1) (s := ByteArray.mk #[32, 119, 105, 116, 104, 32]) (b := b4) (d := ((d + 1 : Nat) : Int)) (m := m1 || mE (k0 t) (d + 1 + 1)) (l := L4) (by omega) (by show _ + 6 ≤ _; omega)
          rw [hp5]
          simp only [aa, Ia c3]
          have e5 : (L4 ++ aH (ByteArray.mk #[32, 119, 105, 116, 104, 32])).length = L4.length + 6 := by rw [ak]; rfl
          generalize hL5 : L4 ++ aH (ByteArray.mk #[32, 119, 105, 116, 104, 32]) = L5 at e5 ⊢
          have hx1 := hkx _ (pI c3) f' b5 (d + 1) (m1 || mE (k0 t) (d + 1 + 1)) L5 (by omega) (by omega) (by omega)
          cases hr1 : right (k1 t) with
          | false =>
            rw [hr1] at hx1
            obtain ⟨⟨s1, s2, s3, s4⟩, hx1⟩ := hx1
            exact iK.no rfl ⟨(s1, IntKind.wrap .i64 (s2 - 1), s3, s4), by simp only [hx1, aD, bx, aa, qv, aQ, cond_true]⟩
          | true =>
            rw [hr1] at hx1
            obtain ⟨b6, hx1⟩ := hx1
            refine ⟨b6, ?_⟩
            simp only [hx1, bx, aa, cls, aQ, cond_true]
            have : L5 ++ tx (k1 t) = l ++ tx t := by rw [Ti c3 h6, ← hL5, ← hL4, ← hL3, ← hL2, ← hL7, ← hL6, ← hL1]; simp only [aA]; rfl
            rw [this]
    rw [decide_eq_false h6]
    simp only [cond_false]
    have hp : 1 ≤ pw t := by unfold pw; rw [if_neg (by omega)]; split; · split <;> omega
                             omega
    have hpa := Rc (self := F.cq f') (self2 := F.ea (F.cq f') f') (f := f' + 1) (least := 0) (L := 1) (b := b) (d := d + 1) (m := (m || decide (64 < d + 1))) (l := l) (by omega) (cv _) hp (by omega) (aq _) ho hmd (J6 hkx (by omega) (by omega)) (J5 hkp (by omega) (by omega) (by omega)) hl
    have hpa : iK (right t) ((d + 1 : Nat) : Int) _ (l ++ tx t) (F.ea (F.cq f') (f' + 1) t 0 1 b ((d + 1 : Nat) : Int) (m || decide (64 < d + 1)) l) := hpa
    rw [PL] at hpa
    cases hr : right t with
    | false =>
      rw [hr] at hpa
      obtain ⟨⟨s1, s2, s3, s4⟩, hpa⟩ := hpa
      exact iK.no rfl ⟨(s1, IntKind.wrap .i64 (s2 - 1), s3, s4), by simp only [hpa, aD, bx, aa, qv, aQ, cond_true]⟩
    | true =>
      rw [hr] at hpa
      obtain ⟨b6, hpa⟩ := hpa
      refine ⟨b6, ?_⟩
      simp only [hpa, aD, bx, aa, cls, aQ, cond_true]
theorem OQ:∀(n:Nat) (t:ai),dN t≤n→pD t→Aa t∧EX t
 | 0,t,h,_=>by have:=jE t;omega
 | n+1,t,h,ho=>by
  obtain⟨_,o4⟩:=(l7 t).1 ho
  have hk:∀x∈t.Kids,Aa x∧EX x:=fun x hx=>OQ n x (by have:=oW hx;omega) (o4 x hx)
  have hx:=U0 ho (fun x hx=>(hk x hx).1) (fun x hx=>(hk x hx).2)
  exact⟨hx,UR ho (fun x hx=>(hk x hx).1) (fun x hx=>(hk x hx).2) hx⟩
theorem Qm {t:ai}(ho:pD t):Aa t:=(OQ _ t (aq _) ho).1
end Go.DN
