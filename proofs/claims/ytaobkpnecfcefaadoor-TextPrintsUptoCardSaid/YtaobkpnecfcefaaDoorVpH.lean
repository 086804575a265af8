/-
  Text, printing: the plain law: expressions, whole.
-/
import Derived.Test.YtaobkpnecfcefaaDoorVpG
set_option linter.unusedVariables false
set_option linter.unusedSimpArgs false
namespace Go.DN
open Go.AM
def ExOk (t:STree):Prop:=∀(f:Nat) (b:Bool) (d:Nat) (m:Bool) (l:List Int),4*wtT t+20≤f→d+wtT t+4≤Bd→l.length+40*wtT t≤140737488355328→
 OkW (right t) d (m||mE t (d+1)) (l++tx t) (F.text_writer_expr f t b d m l)
def PaOk (t:STree):Prop:=∀(f g least L:Nat) (b:Bool) (d:Nat) (m:Bool) (l:List Int),4*wtT t+20≤f→4*wtT t+20≤g→1≤least→least≤3→1≤L→L+wtT t≤Bd→d+wtT t+4≤Bd→(64<d→m=true)→l.length+40*wtT t+2≤140737488355328→
 OkW (right t) d (m||fP t least L d) (l++brk (decide (pw t<least)) (tx t)) (F.text_writer_part (F.text_writer_expr f) g t least L b d m l)
theorem kids_ex {t:STree}{f d:Nat}(h:∀x∈t.Kids,ExOk x) (hf:4*wtT t+10≤f) (hd:d+wtT t≤Bd):KidsOk (F.text_writer_expr f) t d:=by
 intro x hx b m l hl
 have:=wtT_kid hx
 exact h x hx f b d m l (by omega) (by omega) hl
theorem kids_pa {t:STree}{f g d:Nat}(h:∀x∈t.Kids,PaOk x) (hf:4*wtT t+10≤f) (hg:4*wtT t+10≤g) (hd:d+wtT t≤Bd):PartsOk (F.text_writer_part (F.text_writer_expr f) g) t d:=by
 intro x hx least L b m l h1 h2 h3 h4 h5 h6
 have:=wtT_kid hx
 exact h x hx f g least L b d m l (by omega) (by omega) h1 h2 h3 h4 (by omega) h5 h6
theorem cls_ok (f:Nat) (b:Bool) (d:Nat) (m:Bool) (l:List Int) (hd:d+1≤Bd):F.text_writer_expr_1 f b ((d+1:Nat):Int) m l=some (b,(d:Int),m,l):=by
 unfold F.text_writer_expr_1
 rw[i64 (by simp only[Bd] at hd;omega) (by simp only[Bd] at hd;omega)]
 congr 3
 omega
theorem cls_any (f:Nat) (b:Bool) (d:Int) (m:Bool) (l:List Int):F.text_writer_expr_1 f b d m l=some (b,IntKind.wrap .i64 (d-1),m,l):=rfl
theorem pa_ok {t:STree}(ho:okT t) (hkx:∀x∈t.Kids,ExOk x) (hkp:∀x∈t.Kids,PaOk x) (hx:ExOk t):PaOk t:=by
 intro f g least L b d m l hf hg h1 h3 hL hw hd hm hl
 obtain⟨g',rfl⟩:∃g',g=g'+1:=⟨g-1,by omega⟩
 have hpos:=wtT_pos t
 show OkW _ _ _ _ (F.text_writer_part_b (F.text_writer_expr f) (F.text_writer_part (F.text_writer_expr f) g') (g'+1) t least L b d m l)
 by_cases hlt:pw t<least
 ·unfold F.text_writer_part_b
  simp only[eta_t,clean_ok,strength_ok,Option.bind_some]
  cases hc:cB t with
  | false=>exact OkW.no (right_own (own_clean hc)) ⟨(b,(d:Int),m,l),rfl⟩
  | true=>
   have hl1:decide ((pw t:Int)<(least:Int))=true:=decide_eq_true (by omega)
   simp only[Bool.not_true,cond_false,hl1,cond_true]
   obtain⟨b1,hp1⟩:=put1 (fu:=g'+1) (s:=ByteArray.mk #[40]) (b:=b) (d:=(d:Int)) (m:=m) (l:=l) (by omega) (by show _+1≤_;omega)
   rw[hp1]
   simp only[Option.bind_some]
   have hle:(l++bytesI (ByteArray.mk #[40])).length=l.length+1:=by rw[List.length_append];rfl
   have htl:=tx_le ho
   have hn:=hx f b1 d m (l++bytesI (ByteArray.mk #[40])) (by omega) hd (by omega)
   unfold fP
   rw[if_pos hlt,decide_eq_true hlt]
   cases hr:right t with
   | false=>
    rw[hr] at hn
    obtain⟨⟨s1,s2,s3,s4⟩,hn⟩:=hn
    exact⟨(s1,s2,s3,s4),by simp only[hn,bindP,Option.bind_some]⟩
   | true=>
    rw[hr] at hn
    obtain⟨b2,hn⟩:=hn
    obtain⟨b3,hp3⟩:=put1 (fu:=g'+1) (s:=ByteArray.mk #[41]) (b:=b2) (d:=(d:Int)) (m:=(m||mE t (d+1))) (l:=l++bytesI (ByteArray.mk #[40])++tx t) (by omega) (by
     rw[List.length_append,hle];show _+1≤_;omega)
    refine⟨b3,?_⟩
    simp only[hn,bindP,Option.bind_some,hp3]
    have:l++bytesI (ByteArray.mk #[40])++tx t++bytesI (ByteArray.mk #[41])=l++brk true (tx t):=by unfold brk;simp only[cond_true,List.append_assoc];rfl
    rw[this]
 ·have hp:1≤pw t:=by omega
  have:=part0 (self:=F.text_writer_expr f) (self2:=F.text_writer_part (F.text_writer_expr f) g') (f:=g'+1) (least:=least) (b:=b) (l:=l) (by omega) (by omega) hp hw hL ho hm (kids_ex hkx (by omega) (by omega)) (kids_pa hkp (by omega) (by omega) (by omega)) (by omega)
  unfold fP
  rw[if_neg hlt,decide_eq_false hlt]
  exact this
theorem mE_two {t:STree}{m:Bool}{d:Nat}(h:t.Kids.length=2) (h4:t.Kind≠4):(((m||decide (64<d+1))||mE (k0 t) (d+1+1))||mE (k1 t) (d+1+1))=(m||mE t (d+1)):=by
 have h1:=levels_plain h4
 have h2:=longest_plain h4
 rw[two_kids h] at h1 h2
 simp only[List.map_cons,List.map_nil,maxL,Nat.max_zero] at h1 h2
 rw[Bool.or_assoc,Bool.or_assoc]
 congr 1
 rw[Bool.eq_iff_iff]
 unfold mE
 simp only[Bool.or_eq_true,decide_eq_true_eq]
 omega
theorem mE_plain {t:STree}{m:Bool}{d:Nat}:((m||decide (64<d+1))||(decide (64<d+1+levels t-1)||decide (64<mL t 1)))=(m||mE t (d+1)):=by
 rw[Bool.or_assoc]
 congr 1
 rw[Bool.eq_iff_iff]
 unfold mE
 rw[mL_eq]
 have h1:=levels_pos t
 have h2:=chain_le t
 simp only[Bool.or_eq_true,decide_eq_true_eq]
 split <;> omega
theorem ex_no {t:STree}{d:Int}{m:Bool}{l:List Int}{o:RS}(h:right t=false) (ho:∃s,o=some (.inr ((7,0),s))):OkW (right t) d m l o:=OkW.no h ho
theorem right_let {t:STree}(h:t.Kids.length=2) (hb:bareB t=true) (hx:decide (t.Number=0)=true) (h5:t.Kind=5):right t=(nm t.Name&&(right (k0 t)&&right (k1 t))):=by
 rw[right_eq]
 unfold ownB
 rw[if_neg (by omega),if_neg (by omega),if_neg (by omega),if_pos h5,hb,hx,decide_eq_true h]
 conv=>lhs;rw[two_kids h]
 simp
theorem right_rep {t:STree}(h:t.Kids.length=2) (hb:bareB t=true) (h6:t.Kind=6):right t=(decide (0≤t.Number)&&(nm t.Name&&(right (k0 t)&&right (k1 t)))):=by
 rw[right_eq]
 unfold ownB
 rw[if_neg (by omega),if_neg (by omega),if_neg (by omega),if_neg (by omega),if_pos h6,hb,decide_eq_true h]
 conv=>lhs;rw[two_kids h]
 cases nm t.Name <;> cases decide (0≤t.Number) <;> simp
theorem tx_let {t:STree}(h:t.Kids.length=2) (h5:t.Kind=5):tx t=[108,101,116,32]++bytesI t.Name++[32,61,32]++tx (k0 t)++[32,105,110,32]++tx (k1 t):=by
 rw[tx_eq];unfold txB
 rw[if_neg (by omega),if_neg (by omega),if_neg (by omega),if_pos h5]
 conv=>lhs;rw[two_kids h]
 rfl
theorem tx_rep {t:STree}(h:t.Kids.length=2) (h6:t.Kind=6):tx t=[114,101,112,101,97,116,32]++dg t.Number++[32]++bytesI t.Name++[32,61,32]++tx (k0 t)++[32,119,105,116,104,32]++tx (k1 t):=by
 rw[tx_eq];unfold txB
 rw[if_neg (by omega),if_neg (by omega),if_neg (by omega),if_neg (by omega),if_pos h6]
 conv=>lhs;rw[two_kids h]
 rfl
theorem ex_ok {t : STree} (ho : okT t) (hkx : ∀ x ∈ t.Kids, ExOk x) (hkp : ∀ x ∈ t.Kids, PaOk x) : ExOk t := by
  intro f b d m l hf hd hl
  obtain ⟨f', rfl⟩ : ∃ f', f = f' + 1 := ⟨f - 1, by omega⟩
  obtain ⟨⟨o1, o2, o3⟩, o4⟩ := (okT_eq t).1 ho
  have hpos := wtT_pos t
  have hwp := wt_parts t
  unfold wtS at hwp
  show OkW _ _ _ _ (F.text_writer_expr_b (F.text_writer_expr f') (f' + 1) t b d m l)
  unfold F.text_writer_expr_b
  rw [show IntKind.wrap .i64 ((d : Int) + 1) = ((d + 1 : Nat) : Int) from wrB (i := d) (n := Bd) (by omega) (Nat.le_refl _)]
  simp only [eta_t, clean_ok, Option.bind_some]
  have cls := fun (b : Bool) (m : Bool) (l : List Int) => cls_ok (f' + 1) b d m l (by omega)
  cases hc : cB t with
  | false =>
    refine ex_no (right_own (own_clean hc)) ⟨(b, (d : Int), m, l), ?_⟩
    simp only [Bool.not_false, cond_true, cls, Option.bind_some, Nat.beq_refl]
  | true =>
    simp only [Bool.not_true, cond_false]
    have hm1 : (cond m (some (b, ((d + 1 : Nat) : Int), true)) (some (b, ((d + 1 : Nat) : Int), decide ((((d + 1 : Nat) : Int)) > 64))) : Option (Bool × Int × Bool)) = some (b, ((d + 1 : Nat) : Int), m || decide (64 < d + 1)) := by
      cases m with
      | true => rfl
      | false =>
        have : decide ((((d + 1 : Nat) : Int)) > 64) = decide (64 < d + 1) := by rw [decide_eq_decide]; omega
        rw [this]; rfl
    rw [hm1]
    simp only [Option.bind_some]
    rw [int_eqd, int_eqd]
    have hmd : 64 < d + 1 → (m || decide (64 < d + 1)) = true := fun h => by rw [decide_eq_true h, Bool.or_true]
    unfold cB at hc
    by_cases h5 : t.Kind = 5
    · rw [if_neg (by omega), if_neg (by omega), if_pos (.inr h5)] at hc
      simp only [Bool.and_eq_true, decide_eq_true_eq] at hc
      obtain ⟨c1, c2, c3⟩ := hc
      have hw2 := wt_two c3
      rw [right_let c3 c1 (decide_eq_true c2) h5, ← mE_two c3 (by omega), decide_eq_true h5]
      simp only [cond_true]
      generalize (m || decide (64 < d + 1)) = m1 at hmd ⊢
      obtain ⟨b1, hp1⟩ := put1 (fu := f' + 1) (s := ByteArray.mk #[108, 101, 116, 32]) (b := b) (d := ((d + 1 : Nat) : Int)) (m := m1) (l := l) (by omega) (by show _ + 4 ≤ _; omega)
      rw [hp1]
      simp only [Option.bind_some]
      have e1 : (l ++ bytesI (ByteArray.mk #[108, 101, 116, 32])).length = l.length + 4 := by rw [List.length_append]; rfl
      generalize hL1 : l ++ bytesI (ByteArray.mk #[108, 101, 116, 32]) = L1 at e1 ⊢
      have hn := name_okP (fu := f' + 1) (s := t.Name) (b := b1) (d := ((d + 1 : Nat) : Int)) (m := m1) (l := L1) (by omega) (by omega) (by omega) (by omega)
      cases h1 : nm t.Name with
      | false =>
        rw [h1] at hn
        obtain ⟨⟨s1, s2, s3, s4⟩, hn⟩ := hn
        exact OkW.no rfl ⟨(s1, IntKind.wrap .i64 (s2 - 1), s3, s4), by simp only [hn, bindP, bindE, Option.bind_some, cls_any, Nat.beq_refl, cond_true]⟩
      | true =>
        rw [h1] at hn
        obtain ⟨b2, hn⟩ := hn
        simp only [hn, bindP, Option.bind_some]
        have e2 : (L1 ++ bytesI t.Name).length = L1.length + t.Name.size := by rw [List.length_append, bytesI_length]
        generalize hL2 : L1 ++ bytesI t.Name = L2 at e2 ⊢
        obtain ⟨b3, hp3⟩ := put1 (fu := f' + 1) (s := ByteArray.mk #[32, 61, 32]) (b := b2) (d := ((d + 1 : Nat) : Int)) (m := m1) (l := L2) (by omega) (by show _ + 3 ≤ _; omega)
        rw [hp3]
        simp only [Option.bind_some, k0_get c3]
        have e3 : (L2 ++ bytesI (ByteArray.mk #[32, 61, 32])).length = L2.length + 3 := by rw [List.length_append]; rfl
        generalize hL3 : L2 ++ bytesI (ByteArray.mk #[32, 61, 32]) = L3 at e3 ⊢
        have hx0 := hkx _ (k0_mem c3) f' b3 (d + 1) m1 L3 (by omega) (by omega) (by omega)
        have hbl := tx_le (o4 _ (k0_mem c3))
        cases hr0 : right (k0 t) with
        | false =>
          rw [hr0] at hx0
          obtain ⟨⟨s1, s2, s3, s4⟩, hx0⟩ := hx0
          exact OkW.no rfl ⟨(s1, IntKind.wrap .i64 (s2 - 1), s3, s4), by simp only [hx0, bindP, bindE, Option.bind_some, cls_any, Nat.beq_refl, cond_true]⟩
        | true =>
          rw [hr0] at hx0
          obtain ⟨b4, hx0⟩ := hx0
          simp only [hx0, Option.bind_some]
          have e4 : (L3 ++ tx (k0 t)).length + 10 ≤ L3.length + 40 * wtT (k0 t) := by rw [List.length_append]; omega
          generalize hL4 : L3 ++ tx (k0 t) = L4 at e4 ⊢
          obtain ⟨b5, hp5⟩ := put1 (fu := f' + 1) (s := ByteArray.mk #[32, 105, 110, 32]) (b := b4) (d := ((d + 1 : Nat) : Int)) (m := m1 || mE (k0 t) (d + 1 + 1)) (l := L4) (by omega) (by show _ + 4 ≤ _; omega)
          rw [hp5]
          simp only [Option.bind_some, k1_get c3]
          have e5 : (L4 ++ bytesI (ByteArray.mk #[32, 105, 110, 32])).length = L4.length + 4 := by rw [List.length_append]; rfl
          generalize hL5 : L4 ++ bytesI (ByteArray.mk #[32, 105, 110, 32]) = L5 at e5 ⊢
          have hx1 := hkx _ (k1_mem c3) f' b5 (d + 1) (m1 || mE (k0 t) (d + 1 + 1)) L5 (by omega) (by omega) (by omega)
          cases hr1 : right (k1 t) with
          | false =>
            rw [hr1] at hx1
            obtain ⟨⟨s1, s2, s3, s4⟩, hx1⟩ := hx1
            exact OkW.no rfl ⟨(s1, IntKind.wrap .i64 (s2 - 1), s3, s4), by simp only [hx1, bindP, bindE, Option.bind_some, cls_any, Nat.beq_refl, cond_true]⟩
          | true =>
            rw [hr1] at hx1
            obtain ⟨b6, hx1⟩ := hx1
            refine ⟨b6, ?_⟩
            simp only [hx1, bindE, Option.bind_some, cls, Nat.beq_refl, cond_true]
            have : L5 ++ tx (k1 t) = l ++ tx t := by rw [tx_let c3 h5, ← hL5, ← hL4, ← hL3, ← hL2, ← hL1]; simp only [List.append_assoc]; rfl
            rw [this]
    rw [decide_eq_false h5]
    simp only [cond_false]
    by_cases h6 : t.Kind = 6
    · rw [if_neg (by omega), if_neg (by omega), if_neg (by omega), if_pos h6] at hc
      simp only [Bool.and_eq_true, decide_eq_true_eq] at hc
      obtain ⟨c1, c3⟩ := hc
      have hw2 := wt_two c3
      rw [right_rep c3 c1 h6, ← mE_two c3 (by omega), decide_eq_true h6]
      simp only [cond_true]
      generalize (m || decide (64 < d + 1)) = m1 at hmd ⊢
      obtain ⟨b1, hp1⟩ := put1 (fu := f' + 1) (s := ByteArray.mk #[114, 101, 112, 101, 97, 116, 32]) (b := b) (d := ((d + 1 : Nat) : Int)) (m := m1) (l := l) (by omega) (by show _ + 7 ≤ _; omega)
      rw [hp1]
      simp only [Option.bind_some]
      have e1 : (l ++ bytesI (ByteArray.mk #[114, 101, 112, 101, 97, 116, 32])).length = l.length + 7 := by rw [List.length_append]; rfl
      generalize hL1 : l ++ bytesI (ByteArray.mk #[114, 101, 112, 101, 97, 116, 32]) = L1 at e1 ⊢
      have hq := number_okP (fu := f' + 1) (n := t.Number) (b := b1) (d := ((d + 1 : Nat) : Int)) (m := m1) (l := L1) (by omega) o1 (by omega)
      have hdl := dg_len o1
      cases h0 : decide (0 ≤ t.Number) with
      | false =>
        rw [h0] at hq
        obtain ⟨⟨s1, s2, s3, s4⟩, hq⟩ := hq
        exact OkW.no rfl ⟨(s1, IntKind.wrap .i64 (s2 - 1), s3, s4), by simp only [hq, bindP, bindE, Option.bind_some, cls_any, Nat.beq_refl, cond_true]⟩
      | true =>
      rw [h0] at hq
      obtain ⟨b7, hq⟩ := hq
      simp only [hq, bindP, Option.bind_some]
      have e6 : (L1 ++ dg t.Number).length ≤ L1.length + 20 := by rw [List.length_append]; omega
      generalize hL6 : L1 ++ dg t.Number = L6 at e6 ⊢
      obtain ⟨b8, hp8⟩ := put1 (fu := f' + 1) (s := ByteArray.mk #[32]) (b := b7) (d := ((d + 1 : Nat) : Int)) (m := m1) (l := L6) (by omega) (by show _ + 1 ≤ _; omega)
      rw [hp8]
      simp only [Option.bind_some]
      have e7 : (L6 ++ bytesI (ByteArray.mk #[32])).length = L6.length + 1 := by rw [List.length_append]; rfl
      generalize hL7 : L6 ++ bytesI (ByteArray.mk #[32]) = L7 at e7 ⊢
      have hn := name_okP (fu := f' + 1) (s := t.Name) (b := b8) (d := ((d + 1 : Nat) : Int)) (m := m1) (l := L7) (by omega) (by omega) (by omega) (by omega)
      cases h1 : nm t.Name with
      | false =>
        rw [h1] at hn
        obtain ⟨⟨s1, s2, s3, s4⟩, hn⟩ := hn
        exact OkW.no rfl ⟨(s1, IntKind.wrap .i64 (s2 - 1), s3, s4), by simp only [hn, bindP, bindE, Option.bind_some, cls_any, Nat.beq_refl, cond_true]⟩
      | true =>
        rw [h1] at hn
        obtain ⟨b2, hn⟩ := hn
        simp only [hn, bindP, Option.bind_some]
        have e2 : (L7 ++ bytesI t.Name).length = L7.length + t.Name.size := by rw [List.length_append, bytesI_length]
        generalize hL2 : L7 ++ bytesI t.Name = L2 at e2 ⊢
        obtain ⟨b3, hp3⟩ := put1 (fu := f' + 1) (s := ByteArray.mk #[32, 61, 32]) (b := b2) (d := ((d + 1 : Nat) : Int)) (m := m1) (l := L2) (by omega) (by show _ + 3 ≤ _; omega)
        rw [hp3]
        simp only [Option.bind_some, k0_get c3]
        have e3 : (L2 ++ bytesI (ByteArray.mk #[32, 61, 32])).length = L2.length + 3 := by rw [List.length_append]; rfl
        generalize hL3 : L2 ++ bytesI (ByteArray.mk #[32, 61, 32]) = L3 at e3 ⊢
        have hx0 := hkx _ (k0_mem c3) f' b3 (d + 1) m1 L3 (by omega) (by omega) (by omega)
        have hbl := tx_le (o4 _ (k0_mem c3))
        cases hr0 : right (k0 t) with
        | false =>
          rw [hr0] at hx0
          obtain ⟨⟨s1, s2, s3, s4⟩, hx0⟩ := hx0
          exact OkW.no rfl ⟨(s1, IntKind.wrap .i64 (s2 - 1), s3, s4), by simp only [hx0, bindP, bindE, Option.bind_some, cls_any, Nat.beq_refl, cond_true]⟩
        | true =>
          rw [hr0] at hx0
          obtain ⟨b4, hx0⟩ := hx0
          simp only [hx0, Option.bind_some]
          have e4 : (L3 ++ tx (k0 t)).length + 10 ≤ L3.length + 40 * wtT (k0 t) := by rw [List.length_append]; omega
          generalize hL4 : L3 ++ tx (k0 t) = L4 at e4 ⊢
          obtain ⟨b5, hp5⟩ := put1 (fu := f' + 1) (s := ByteArray.mk #[32, 119, 105, 116, 104, 32]) (b := b4) (d := ((d + 1 : Nat) : Int)) (m := m1 || mE (k0 t) (d + 1 + 1)) (l := L4) (by omega) (by show _ + 6 ≤ _; omega)
          rw [hp5]
          simp only [Option.bind_some, k1_get c3]
          have e5 : (L4 ++ bytesI (ByteArray.mk #[32, 119, 105, 116, 104, 32])).length = L4.length + 6 := by rw [List.length_append]; rfl
          generalize hL5 : L4 ++ bytesI (ByteArray.mk #[32, 119, 105, 116, 104, 32]) = L5 at e5 ⊢
          have hx1 := hkx _ (k1_mem c3) f' b5 (d + 1) (m1 || mE (k0 t) (d + 1 + 1)) L5 (by omega) (by omega) (by omega)
          cases hr1 : right (k1 t) with
          | false =>
            rw [hr1] at hx1
            obtain ⟨⟨s1, s2, s3, s4⟩, hx1⟩ := hx1
            exact OkW.no rfl ⟨(s1, IntKind.wrap .i64 (s2 - 1), s3, s4), by simp only [hx1, bindP, bindE, Option.bind_some, cls_any, Nat.beq_refl, cond_true]⟩
          | true =>
            rw [hr1] at hx1
            obtain ⟨b6, hx1⟩ := hx1
            refine ⟨b6, ?_⟩
            simp only [hx1, bindE, Option.bind_some, cls, Nat.beq_refl, cond_true]
            have : L5 ++ tx (k1 t) = l ++ tx t := by rw [tx_rep c3 h6, ← hL5, ← hL4, ← hL3, ← hL2, ← hL7, ← hL6, ← hL1]; simp only [List.append_assoc]; rfl
            rw [this]
    rw [decide_eq_false h6]
    simp only [cond_false]
    have hp : 1 ≤ pw t := by unfold pw; rw [if_neg (by omega)]; split; · split <;> omega
                             omega
    have hpa := part0 (self := F.text_writer_expr f') (self2 := F.text_writer_part (F.text_writer_expr f') f') (f := f' + 1) (least := 0) (L := 1) (b := b) (d := d + 1) (m := (m || decide (64 < d + 1))) (l := l) (by omega) (Nat.zero_le _) hp (by omega) (Nat.le_refl _) ho hmd (kids_ex hkx (by omega) (by omega)) (kids_pa hkp (by omega) (by omega) (by omega)) hl
    have hpa : OkW (right t) ((d + 1 : Nat) : Int) _ (l ++ tx t) (F.text_writer_part (F.text_writer_expr f') (f' + 1) t 0 1 b ((d + 1 : Nat) : Int) (m || decide (64 < d + 1)) l) := hpa
    rw [mE_plain] at hpa
    cases hr : right t with
    | false =>
      rw [hr] at hpa
      obtain ⟨⟨s1, s2, s3, s4⟩, hpa⟩ := hpa
      exact OkW.no rfl ⟨(s1, IntKind.wrap .i64 (s2 - 1), s3, s4), by simp only [hpa, bindP, bindE, Option.bind_some, cls_any, Nat.beq_refl, cond_true]⟩
    | true =>
      rw [hr] at hpa
      obtain ⟨b6, hpa⟩ := hpa
      refine ⟨b6, ?_⟩
      simp only [hpa, bindP, bindE, Option.bind_some, cls, Nat.beq_refl, cond_true]
theorem all_ok:∀(n:Nat) (t:STree),wtT t≤n→okT t→ExOk t∧PaOk t
 | 0,t,h,_=>by have:=wtT_pos t;omega
 | n+1,t,h,ho=>by
  obtain⟨_,o4⟩:=(okT_eq t).1 ho
  have hk:∀x∈t.Kids,ExOk x∧PaOk x:=fun x hx=>all_ok n x (by have:=wtT_kid hx;omega) (o4 x hx)
  have hx:=ex_ok ho (fun x hx=>(hk x hx).1) (fun x hx=>(hk x hx).2)
  exact⟨hx,pa_ok ho (fun x hx=>(hk x hx).1) (fun x hx=>(hk x hx).2) hx⟩
theorem expr_okP {t:STree}(ho:okT t):ExOk t:=(all_ok _ t (Nat.le_refl _) ho).1
end Go.DN
