/- Walks and plain facts that the claim rests on (RG, HolRVal, HolCloneP, HolSetP, MapB, ClimbW, ClimbPW). No condition. -/
import Derived.OrdersHeld
import Derived.WalkKit
import Derived.Test.YtoaidbhiciaeaaaGreatOr06
import Derived.Test.YtoaidbhiciaeaaaGreatOr01
import Derived.Test.YtoaidbhiciaeaaaGreatOr04
import Derived.Test.YtoaidbhiciaeaaaGreatOr02
import Derived.WalkMore
section
namespace Go.Proofs.YtoaidbhiciaeaaaGreat
section
variable {P : Program} {ops : Array Oper} {Q : Exit → Act → World → Prop} {R : World → World → Prop}
def putAll (ops : Array Oper) (a : Act) (f : Nat → Value) : Nat → Act
  | 0 => a
  | n + 1 => (putAll ops a f n).put ((ops[n]?).bind (·.dst)) (f n)
def dstsApart (ops : Array Oper) : Bool :=
  (List.range ops.size).all fun i => (List.range i).all fun j => match (ops[i]?).bind (·.dst) with
    | some d => (ops[j]?).bind (·.dst) != some d
    | none => true
theorem dstsApart_spec (h : dstsApart ops = true) {i j : Nat} (hi : i < ops.size) (hj : j < i) : ∀ d, (ops[i]?).bind (·.dst) = some d → (ops[j]?).bind (·.dst) ≠ some d := by
  intro d hd
  have h1 := List.all_eq_true.1 h i (List.mem_range.2 hi)
  have h2 := List.all_eq_true.1 h1 j (List.mem_range.2 hj)
  rw [hd] at h2
  simpa using h2
theorem put_put (a : Act) (x : Option Tmp) (v u : Value) : (a.put x v).put x u = a.put x u := by
  cases x with
  | none => rfl
  | some d => simp [Act.put]
theorem putAll_same {a : Act} {f g : Nat → Value} : ∀ {n : Nat}, (∀ j < n, f j = g j) → putAll ops a f n = putAll ops a g n
  | 0, _ => rfl
  | n + 1, h => by simp only [putAll]; rw [putAll_same (fun j hj => h j (by omega)), h n (by omega)]
theorem putAll_upd (hd : dstsApart ops = true) {a : Act} {f g : Nat → Value} {i : Nat} {v : Value} (hg : ∀ j, j ≠ i → g j = f j) (hv : g i = v) : ∀ {n : Nat}, i < n → n ≤ ops.size →
    putAll ops a g n = (putAll ops a f n).put ((ops[i]?).bind (·.dst)) v
  | 0, h, _ => absurd h (Nat.not_lt_zero _)
  | n + 1, h, hn => by
    simp only [putAll]
    by_cases hin : i = n
    · subst hin
      rw [putAll_same (f := g) (g := f) (fun j hj => hg j (by omega)), put_put, hv]
    · rw [putAll_upd hd hg hv (n := n) (by omega) (by omega), hg n (fun e => hin e.symm)]
      refine Act.put_comm _ _ _ fun d h1 h2 => ?_
      exact dstsApart_spec hd (i := n) (j := i) (by omega) (by omega) d h2 h1
theorem put_self (a : Act) (x : Option Tmp) : a.put x (match x with | some d => a.tmps.getD d undef | none => undef) = a := by
  cases x with
  | none => rfl
  | some d =>
    obtain ⟨t, de⟩ := a
    simp only [Act.put]
    congr 1
    by_cases h : d < t.size
    · have e : t.getD d undef = t[d] := by simp [h]
      rw [e, Array.setIfInBounds, dif_pos h, Array.set_getElem_self]
    · simp [Array.setIfInBounds, h]
theorem putAll_self {a : Act} {f : Nat → Value} (hf : ∀ i, f i = (match (ops[i]?).bind (·.dst) with | some d => a.tmps.getD d undef | none => undef)) : ∀ n, putAll ops a f n = a
  | 0 => rfl
  | n + 1 => by simp only [putAll]; rw [putAll_self hf n, hf n]; exact put_self a _
def Holds (V : Nat → World → Value → Prop) (f : Nat → Value) (w : World) : List Nat → Prop
  | [] => True
  | j :: js => V j w (f j) ∧ Holds V f w js
theorem Holds.of {V : Nat → World → Value → Prop} {f : Nat → Value} {w : World} : ∀ {l : List Nat}, (∀ j ∈ l, V j w (f j)) → Holds V f w l
  | [], _ => trivial
  | j :: js, h => ⟨h j (by simp), Holds.of fun k hk => h k (by simp [hk])⟩
theorem Holds.get {V : Nat → World → Value → Prop} {f : Nat → Value} {w : World} : ∀ {l : List Nat}, Holds V f w l → ∀ j ∈ l, V j w (f j)
  | j :: js, h, k, hk => by
    rcases List.mem_cons.1 hk with rfl | hk
    · exact h.1
    · exact h.2.get k hk
def also (V : Nat → World → Value → Prop) (k : Nat) (W : World → Value → Prop) : Nat → World → Value → Prop := fun j => bif Nat.beq j k then W else V j
theorem also_same {V : Nat → World → Value → Prop} {k : Nat} {W : World → Value → Prop} : also V k W k = W := by simp [also]
theorem also_ne {V : Nat → World → Value → Prop} {k j : Nat} {W : World → Value → Prop} (h : j ≠ k) : also V k W j = V j := by
  unfold also
  have : Nat.beq j k = false := by (cases e : Nat.beq j k; rfl; exact absurd (Nat.eq_of_beq_eq_true e) h)
  rw [this]; rfl
def noneYet : Nat → World → Value → Prop := fun _ _ _ => True
def depsOk (ops : Array Oper) (D : List (List Nat)) : Bool :=
  (List.range ops.size).all fun i => (D.getD i []).all fun j =>
    j < i && (match ops[i]? with
      | some o => o.after.any fun e => Region.binds .any e && (e.on == j || (D.getD e.on []).contains j)
      | none => false)
def StepOk (P : Program) (ops : Array Oper) (Q : Exit → Act → World → Prop) (R : World → World → Prop) (o : Oper) (A : Act) (w' : World) (V : World → Value → Prop) : Prop :=
  if Region.wanted o (yielded ops A.tmps) = true then o.wp P A w' (fun a2 w2 => ∃ v, a2 = A.put o.dst v ∧ V w2 v ∧ R w' w2) Q else V w' undef
inductive Steps (P : Program) (ops : Array Oper) (Q : Exit → Act → World → Prop) (R : World → World → Prop) (A : (Nat → Value) → Act) (w : World) (D : List (List Nat)) : Nat → (Nat → World → Value → Prop) → Prop
  | last {V : Nat → World → Value → Prop} (h : ∀ f w', R w w' → (∀ j < ops.size, V j w' (f j)) → Q .normal (A f) w') : Steps P ops Q R A w D ops.size V
  | cons {k : Nat} {V : Nat → World → Value → Prop} {o : Oper} (W : World → Value → Prop) (ho : ops[k]? = some o) (hst : ∀ w1 w2 v, R w1 w2 → W w1 v → W w2 v)
      (h : ∀ f w', R w w' → Holds V f w' (D.getD k []) → StepOk P ops Q R o (A f) w' W) (hr : Steps P ops Q R A w D (k + 1) (also V k W)) : Steps P ops Q R A w D k V
theorem Steps.le {A : (Nat → Value) → Act} {w : World} {D : List (List Nat)} {k : Nat} {V : Nat → World → Value → Prop} (h : Steps P ops Q R A w D k V) : k ≤ ops.size := by
  induction h with
  | last h => exact Nat.le_refl _
  | cons W ho hst h hr ih => omega
def edgesOk (ops : Array Oper) : Bool :=
  (List.range ops.size).all fun i => match ops[i]? with
    | some o => o.after.all fun e => !Region.binds .any e || decide (e.on < i)
    | none => true
theorem edgesOk_spec (h : edgesOk ops = true) {i : Nat} {o : Oper} (ho : ops[i]? = some o) {e : Edge} (he : e ∈ o.after) (hb : Region.binds .any e = true) : e.on < i := by
  have h1 := List.all_eq_true.1 h i (List.mem_range.2 (Array.getElem?_eq_some_iff.1 ho).1)
  simp only [ho, Array.all_eq_true_iff_forall_mem] at h1
  have h2 := h1 e he
  rw [hb] at h2
  simpa using h2
theorem depsOk_spec {D : List (List Nat)} (h : depsOk ops D = true) {i j : Nat} {o : Oper} (ho : ops[i]? = some o) (hj : j ∈ D.getD i []) :
    j < i ∧ ∃ e ∈ o.after, Region.binds .any e = true ∧ (e.on = j ∨ j ∈ D.getD e.on []) := by
  have h1 := List.all_eq_true.1 h i (List.mem_range.2 (Array.getElem?_eq_some_iff.1 ho).1)
  have h2 := List.all_eq_true.1 h1 j hj
  rw [Bool.and_eq_true, decide_eq_true_eq] at h2
  obtain ⟨h3, h2⟩ := h2
  simp only [ho] at h2
  rw [Array.any_eq_true'] at h2
  obtain ⟨e, he, hb⟩ := h2
  rw [Bool.and_eq_true] at hb
  refine ⟨h3, e, he, hb.1, ?_⟩
  have := hb.2
  rw [Bool.or_eq_true] at this
  rcases this with h | h
  · exact .inl (by simpa using h)
  · exact .inr (by simpa using h)
theorem Steps.all {A : (Nat → Value) → Act} {w : World} {D : List (List Nat)} (hD : depsOk ops D = true) {k : Nat} {V : Nat → World → Value → Prop} (hs : Steps P ops Q R A w D k V) :
    ∃ U : Nat → World → Value → Prop, (∀ j < k, U j = V j) ∧
      (∀ i o, k ≤ i → ops[i]? = some o → (∀ w1 w2 v, R w1 w2 → U i w1 v → U i w2 v) ∧
        ∀ f w', R w w' → Holds U f w' (D.getD i []) → StepOk P ops Q R o (A f) w' (U i)) ∧
      (∀ f w', R w w' → (∀ j < ops.size, U j w' (f j)) → Q .normal (A f) w') := by
  induction hs with
  | last h => exact ⟨_, fun _ _ => rfl, fun i o hi ho => absurd (Array.getElem?_eq_some_iff.1 ho).1 (by omega), h⟩
  | @cons k V o W ho hst h hr ih =>
    obtain ⟨U, hU, h1, h2⟩ := ih
    have hUk : U k = W := (hU k (by omega)).trans also_same
    refine ⟨U, fun j hj => (hU j (by omega)).trans (also_ne (by omega)), fun i oi hi hoi => ?_, h2⟩
    by_cases hk : i = k
    · subst hk
      rw [ho] at hoi
      obtain rfl : o = oi := by simpa using hoi
      rw [hUk]
      refine ⟨hst, fun f w' hw hH => h f w' hw (Holds.of fun j hj => ?_)⟩
      have hji := (depsOk_spec hD ho hj).1
      have := hH.get j hj
      rw [hU j (by omega), also_ne (by omega)] at this
      exact this
    · exact h1 i oi (by omega) hoi
def unl (listed : Array Bool) : Nat → Nat
  | 0 => 0
  | n + 1 => unl listed n + (if listed.getD n false = true then 0 else 1)
theorem unl_ge {listed : Array Bool} {i : Nat} : ∀ {n : Nat}, n ≤ i → unl (listed.setIfInBounds i true) n = unl listed n
  | 0, _ => rfl
  | n + 1, h => by simp only [unl]; rw [unl_ge (by omega), getD_set_ne false (by omega)]
theorem unl_set {listed : Array Bool} {i : Nat} (hi : i < listed.size) (hu : listed.getD i false = false) : ∀ {n : Nat}, i < n → unl (listed.setIfInBounds i true) n + 1 = unl listed n
  | 0, h => absurd h (Nat.not_lt_zero _)
  | n + 1, h => by
    simp only [unl]
    by_cases hin : i = n
    · subst hin
      rw [unl_ge (Nat.le_refl _), hu]
      have : (listed.setIfInBounds i true).getD i false = true := by simp [hi]
      rw [this]; simp
    · rw [getD_set_ne false hin]
      have := unl_set hi hu (n := n) (by omega)
      omega
theorem unl_zero {listed : Array Bool} : ∀ {n : Nat}, unl listed n = 0 → ∀ i < n, listed.getD i false = true
  | 0, _, i, hi => absurd hi (Nat.not_lt_zero _)
  | n + 1, h, i, hi => by
    simp only [unl] at h
    by_cases hin : i = n
    · subst hin
      by_cases hc : listed.getD i false = true
      · exact hc
      · rw [if_neg hc] at h; omega
    · exact unl_zero (n := n) (by omega) i (by omega)
theorem getD_tf {listed : Array Bool} {i : Nat} (hi : i < listed.size) : listed.getD i true = listed.getD i false := by simp [hi]
theorem ready_of_unl (he : edgesOk ops = true) {listed : Array Bool} (hs : listed.size = ops.size) (h : Region.ready .any ops listed = []) : ∀ i < ops.size, listed.getD i false = true := by
  intro i
  induction i using Nat.strongRecOn with
  | ind i ih =>
    intro hi
    by_cases hc : listed.getD i false = true
    · exact hc
    · have : i ∈ Region.ready .any ops listed := mem_ready.2 ⟨by rw [getD_tf (by omega)]; simpa using hc, ops[i], Array.getElem?_eq_some_iff.2 ⟨hi, rfl⟩, fun e hem hb => by
        have := edgesOk_spec he (Array.getElem?_eq_some_iff.2 ⟨hi, rfl⟩) hem hb
        exact ih _ this (by omega)⟩
      rw [h] at this; cases this
theorem steps_any {w : World} {A : (Nat → Value) → Act} {a : Act} {D : List (List Nat)} (hd : dstsApart ops = true) (he : edgesOk ops = true) (hD : depsOk ops D = true) (hA : ∀ f, putAll ops a f ops.size = A f)
    (hR0 : ∀ w, R w w) (hR : ∀ w1 w2 w3, R w1 w2 → R w2 w3 → R w1 w3) (U : Nat → World → Value → Prop)
    (h1 : ∀ i o, ops[i]? = some o → (∀ w1 w2 v, R w1 w2 → U i w1 v → U i w2 v) ∧
        ∀ f w', R w w' → Holds U f w' (D.getD i []) → StepOk P ops Q R o (A f) w' (U i))
    (h2 : ∀ f w', R w w' → (∀ j < ops.size, U j w' (f j)) → Q .normal (A f) w') :
    ∀ (fuel : Nat) (listed : Array Bool) (f : Nat → Value) (w' : World), listed.size = ops.size → (∀ i < ops.size, listed.getD i false = true → U i w' (f i)) →
      (∀ i o, ops[i]? = some o → listed.getD i false = true → ∀ e ∈ o.after, Region.binds .any e = true → listed.getD e.on false = true) →
      R w w' → unl listed ops.size ≤ fuel → wpAny P .any ops Q fuel listed (A f) w' := by
  intro fuel
  have fin : ∀ (listed : Array Bool) (f : Nat → Value) (w' : World), (∀ i < ops.size, listed.getD i false = true) → (∀ i < ops.size, listed.getD i false = true → U i w' (f i)) → R w w' → Q .normal (A f) w' := by
    intro listed f w' hall hV hw
    exact h2 f w' hw fun j hj => hV j hj (hall j hj)
  induction fuel with
  | zero =>
    intro listed f w' hs hV _ hw hf
    have hall := unl_zero (Nat.le_zero.1 hf)
    refine ⟨?_, fin listed f w' hall hV hw⟩
    refine List.eq_nil_iff_forall_not_mem.2 fun i hi => ?_
    obtain ⟨h0, o, ho, _⟩ := mem_ready.1 hi
    have hlt := (Array.getElem?_eq_some_iff.1 ho).1
    rw [getD_tf (by omega), hall i hlt] at h0
    cases h0
  | succ fuel ih =>
    intro listed f w' hs hV hcl hw hf
    refine ⟨fun hr => fin listed f w' (ready_of_unl he hs hr) hV hw, fun i hi => ?_⟩
    obtain ⟨h0, o, ho, hall⟩ := mem_ready.1 hi
    have hlt := (Array.getElem?_eq_some_iff.1 ho).1
    rw [getD_tf (by omega)] at h0
    obtain ⟨hst, hstep⟩ := h1 i o ho
    -- the deps are listed
    have hdep : ∀ n, ∀ j o', j ≤ n → ops[j]? = some o' → (∀ e ∈ o'.after, Region.binds .any e = true → listed.getD e.on false = true) → ∀ k ∈ D.getD j [], k < ops.size ∧ listed.getD k false = true := by
      intro n
      induction n with
      | zero =>
        intro j o' hj ho' hl k hk
        have := (depsOk_spec hD ho' hk).1
        omega
      | succ n ihn =>
        intro j o' hj ho' hl k hk
        have hjlt := (Array.getElem?_eq_some_iff.1 ho').1
        obtain ⟨hkj, e, hem, hb, hor⟩ := depsOk_spec hD ho' hk
        rcases hor with rfl | hin
        · exact ⟨by omega, hl e hem hb⟩
        · have hej := edgesOk_spec he ho' hem hb
          have hoe : ops[e.on]? = some (ops[e.on]'(by omega)) := Array.getElem?_eq_some_iff.2 ⟨by omega, rfl⟩
          exact ihn e.on _ (by omega) hoe (hcl e.on _ hoe (hl e hem hb)) k hin
    have hH : Holds U f w' (D.getD i []) := by
      refine Holds.of fun j hj => ?_
      obtain ⟨ha, hb⟩ := hdep i i o (Nat.le_refl _) ho hall j hj
      exact hV j ha hb
    have hs1 := hstep f w' hw hH
    have key : ∀ v w2, U i w2 v → R w' w2 → wpAny P .any ops Q fuel (listed.setIfInBounds i true) ((A f).put o.dst v) w2 := by
      intro v w2 hv hr2
      have hg : A (fun j => if j = i then v else f j) = (A f).put o.dst v := by
        rw [← hA, ← hA, putAll_upd hd (f := f) (i := i) (v := v) (fun j hj => by simp [hj]) (by simp) hlt (Nat.le_refl _), ho]
        rfl
      rw [← hg]
      refine ih _ _ w2 (by simpa using hs) (fun j hj hl => ?_) (fun j oj hoj hl e hem hb => ?_) (hR _ _ _ hw hr2) (by have := unl_set (by omega) h0 hlt; omega)
      · by_cases hji : j = i
        · subst hji; simpa using hv
        · rw [getD_set_ne false (fun e => hji e.symm)] at hl
          simp only [hji, if_false]
          exact (h1 j _ (Array.getElem?_eq_some_iff.2 ⟨hj, rfl⟩)).1 w' w2 _ hr2 (hV j hj hl)
      · by_cases hji : j = i
        · subst hji
          rw [ho] at hoj
          obtain rfl : o = oj := by simpa using hoj
          exact getD_set_true (hall e hem hb)
        · rw [getD_set_ne false (fun e => hji e.symm)] at hl
          exact getD_set_true (hcl j oj hoj hl e hem hb)
    unfold wpOp
    simp only [ho]
    unfold StepOk at hs1
    split
    · rename_i hw1
      rw [if_pos hw1] at hs1
      refine .inl (Oper.wp_mono ?_ hs1)
      rintro a2 w2 ⟨v, rfl, hv, hr2⟩
      exact key v w2 hv hr2
    · rename_i hw1
      rw [if_neg hw1] at hs1
      exact key undef w' hs1 (hR0 w')
def putL (f : Nat → Value) : List (Option Tmp) → Nat → Act → Act
  | [], _, a => a
  | d :: ds, i, a => putL f ds (i + 1) (a.put d (f i))
theorem putL_append {f : Nat → Value} : ∀ (x y : List (Option Tmp)) (i : Nat) (a : Act), putL f (x ++ y) i a = putL f y (i + x.length) (putL f x i a)
  | [], _, _, _ => rfl
  | d :: x, y, i, a => by
    rw [List.cons_append, putL, putL_append x y, putL, List.length_cons]
    congr 1
    omega
theorem putAll_putL {a : Act} {f : Nat → Value} : ∀ n ≤ ops.size, putAll ops a f n = putL f ((ops.toList.map (·.dst)).take n) 0 a
  | 0, _ => by simp [putAll, putL]
  | n + 1, h => by
    rw [putAll, putAll_putL n (by omega)]
    have hn : n < (ops.toList.map (·.dst)).length := by simp; omega
    rw [List.take_succ_eq_append_getElem hn, putL_append]
    have : ops[n]? = some ops[n] := by simp
    simp [putL, Nat.min_eq_left (show n ≤ ops.size by omega), this]
theorem wp_region_steps {id : Nat} {a : Act} {w : World} {A : (Nat → Value) → Act} (R : World → World → Prop) (ds : List (Option Tmp)) (D : List (List Nat)) (n : Nat) (hm : P.follows .mixedOrders = true)
    (hds : ops.toList.map (·.dst) = ds) (_hn : ops.size = n) (hd : dstsApart ops = true) (he : edgesOk ops = true) (hD : depsOk ops D = true) (hR0 : ∀ w, R w w) (hR : ∀ w1 w2 w3, R w1 w2 → R w2 w3 → R w1 w3)
    (hA : ∀ f, putL f ds 0 a = A f) (h : Steps P ops Q R A w.drew D 0 noneYet) : (Code.region id ops true).wp P Q a w := by
  obtain ⟨U, _, h1, h2⟩ := h.all hD
  have hA' : ∀ f, putAll ops a f ops.size = A f := fun f => by
    rw [putAll_putL _ (Nat.le_refl _), ← hA, ← hds]
    rw [List.take_of_length_le (by simp)]
  refine wp_region_any hm ?_
  have h0 := putAll_self (ops := ops) (a := a) (f := fun i => (match (ops[i]?).bind (·.dst) with | some d => a.tmps.getD d undef | none => undef)) (fun i => rfl) ops.size
  rw [hA'] at h0
  rw [← h0]
  refine steps_any hd he hD hA' hR0 hR U (fun i o ho => h1 i o (Nat.zero_le _) ho) h2 _ _ _ _ (by simp) (fun i hi hl => ?_) (fun i o ho hl => ?_) (hR0 _) ?_
  · simp [hi] at hl
  · have := (Array.getElem?_eq_some_iff.1 ho).1
    simp [this] at hl
  · have : ∀ (l : Array Bool) k, unl l k ≤ k := by
      intro l k
      induction k with
      | zero => exact Nat.le_refl _
      | succ k ih => simp only [unl]; split <;> omega
    exact this _ _
section
variable {A : (Nat → Value) → Act} {w : World} {D : List (List Nat)} {k : Nat} {V : Nat → World → Value → Prop} {o : Oper}
theorem Steps.done (E : List Nat) (hE : E.all (fun j => decide (j < ops.size)) = true) (hk : ops.size = k) (h : ∀ f w', R w w' → Holds V f w' E → Q .normal (A f) w') : Steps P ops Q R A w D k V := by
  subst hk
  exact .last fun f w' hw hV => h f w' hw (Holds.of fun j hj => hV j (by simpa using List.all_eq_true.1 hE j hj))
theorem Steps.pure (v : Value) (hR0 : ∀ w, R w w) (ho : ops[k]? = some o)
    (hw : ∀ f w', R w w' → Holds V f w' (D.getD k []) → Region.wanted o (yielded ops (A f).tmps) = true ∧ (execOp (A f).eval o).run P w' = .ok (.value v) w') (hr : Steps P ops Q R A w D (k + 1) (also V k (fun _ u => u = v))) : Steps P ops Q R A w D k V := by
  refine .cons _ ho (fun _ _ _ _ h => h) (fun f w' h1 h2 => ?_) hr
  obtain ⟨h3, h4⟩ := hw f w' h1 h2
  unfold StepOk
  rw [if_pos h3]
  unfold Oper.wp
  rw [h4]
  exact ⟨v, rfl, rfl, hR0 _⟩
theorem Steps.skip (ho : ops[k]? = some o)
    (hw : ∀ f w', R w w' → Holds V f w' (D.getD k []) → Region.wanted o (yielded ops (A f).tmps) = false) (hr : Steps P ops Q R A w D (k + 1) (also V k (fun _ u => u = undef))) : Steps P ops Q R A w D k V := by
  refine .cons _ ho (fun _ _ _ _ h => h) (fun f w' h1 h2 => ?_) hr
  unfold StepOk
  rw [if_neg (by rw [hw f w' h1 h2]; simp)]
def StepPost (R : World → World → Prop) (A : Act) (o : Oper) (W : World → Value → Prop) (w' : World) : Act → World → Prop := fun a2 w2 => ∃ v, a2 = A.put o.dst v ∧ W w2 v ∧ R w' w2
theorem StepPost.of {B : Act} {W : World → Value → Prop} {w1 w2 : World} {a2 : Act} (v : Value) (h : a2 = B.put o.dst v) (hW : W w2 v) (hr : R w1 w2) : StepPost R B o W w1 a2 w2 := ⟨v, h, hW, hr⟩
theorem Steps.call (W : World → Value → Prop) (ho : ops[k]? = some o) (hst : ∀ w1 w2 v, R w1 w2 → W w1 v → W w2 v)
    (hw : ∀ f w', R w w' → Holds V f w' (D.getD k []) → Region.wanted o (yielded ops (A f).tmps) = true ∧ o.wp P (A f) w' (StepPost R (A f) o W w') Q) (hr : Steps P ops Q R A w D (k + 1) (also V k W)) : Steps P ops Q R A w D k V := by
  refine .cons _ ho hst (fun f w' h1 h2 => ?_) hr
  obtain ⟨h3, h4⟩ := hw f w' h1 h2
  unfold StepOk
  rw [if_pos h3]
  exact h4
end
theorem want_yes {o : Oper} {a : Act} {j t : Nat} {b : Bool} {x : Value} (hg : o.guard = some (j, b)) (ht : (ops[j]?).bind (·.dst) = some t) (hx : a.tmps[t]? = some x) (hv : x = .bool b) : Region.wanted o (yielded ops a.tmps) = true := by
  subst hv
  simp [Region.wanted, hg, yielded, ht, hx]
theorem want_no {o : Oper} {a : Act} {j t : Nat} {b c : Bool} {x : Value} (hg : o.guard = some (j, b)) (ht : (ops[j]?).bind (·.dst) = some t) (hx : a.tmps[t]? = some x) (hv : x = .bool c) (hc : (c == b) = false) : Region.wanted o (yielded ops a.tmps) = false := by
  subst hv
  simpa [Region.wanted, hg, yielded, ht, hx] using hc
theorem want_undef {o : Oper} {a : Act} {j t : Nat} {b : Bool} {x : Value} (hg : o.guard = some (j, b)) (ht : (ops[j]?).bind (·.dst) = some t) (hx : a.tmps[t]? = some x) (hv : x = undef) : Region.wanted o (yielded ops a.tmps) = false := by
  subst hv
  simp [Region.wanted, hg, yielded, ht, hx, undef]
end
end Go.Proofs.YtoaidbhiciaeaaaGreat

end
section
namespace Go.Proofs.YtoaidbhiciaeaaaGreat
open Go.RowKit
set_option linter.unusedSimpArgs false
set_option linter.unusedVariables false
theorem own_keepsH {w w' : World} {base e size n : Nat} {v : Value} {xs : List Value} (h : w.ownsRow base e size v n xs) (hk : Keeps w w') : w'.ownsRow base e size v n xs := by
  refine ⟨h.1, ?_⟩
  rcases h.2 with hn | ⟨g, cap, cur, hv, hbg, hg, rest⟩
  · exact .inl hn
  · exact .inr ⟨g, cap, cur, hv, hbg, (hk.block g (Array.getElem?_eq_some_iff.1 hg).1).trans hg, rest⟩
theorem own_setH {w : World} {base e size n g cap : Nat} {xs : List Value} (h : w.ownsRow base e size (.slice (some ⟨g, 0, none⟩) n cap) n xs) (j : Nat) (u : Value) :
    (w.setCell ⟨g, j, none⟩ u).ownsRow base e size (.slice (some ⟨g, 0, none⟩) n cap) n (xs.set j u) := by
  obtain ⟨hl, h2⟩ := h
  rcases h2 with ⟨he, _⟩ | ⟨g', cap', cur, he, hb, hg, h1, h3, hs, ht⟩
  · cases he
  · simp only [Value.slice.injEq, Option.some.injEq, Addr.mk.injEq] at he
    obtain ⟨⟨rfl, _⟩, _, rfl⟩ := he
    refine ⟨by simpa using hl, .inr ⟨g, cap, cur.setIfInBounds j u, rfl, hb, ?_, h1, h3, by simpa using hs, ?_⟩⟩
    · show (w.heap.modify g _)[g]? = _
      rw [Array.getElem?_modify, if_pos rfl, hg]
      rfl
    · rw [Array.toList_setIfInBounds, List.take_set, ht]
theorem own_shapeH {w : World} {base e size n : Nat} {v : Value} {xs : List Value} (h : w.ownsRow base e size v n xs) (hn : 0 < n) : ∃ g cap, v = .slice (some ⟨g, 0, none⟩) n cap ∧ base ≤ g ∧ g < w.heap.size ∧ ∀ j, w.frozen? ⟨g, j, none⟩ = false := by
  rcases h.2 with ⟨_, h0⟩ | ⟨g, cap, cur, he, hb, hg, _⟩
  · omega
  · exact ⟨g, cap, he, hb, (Array.getElem?_eq_some_iff.1 hg).1, fun j => by simp [World.frozen?, hg]⟩
def OutHol (w : World) (r : List Hol × Int) (e : Ending) (w' : World) : Prop := ∃ ao cap b o, e = .returned (.tuple #[.slice ao r.1.length cap, .int .i64 r.2]) ∧ Hols w' ao r.1 cap b o ∧ Keeps w w'
theorem OutHol.nil {w w' : World} {r : List Hol × Int} {er : Int} (h : r = ([], er)) (hk : Keeps w w') : OutHol w r (.returned (.tuple #[.slice none 0 0, .int .i64 er])) w' := by
  subst h; exact ⟨none, 0, 0, 0, rfl, Sl.nil _ _, hk⟩
end Go.Proofs.YtoaidbhiciaeaaaGreat

end
section
namespace Go.Proofs.YtoaidbhiciaeaaaGreat
open Go.RowKit
set_option linter.unusedSimpArgs false
theorem date_any (d : Int) (w : World) : Calls Tryz.prog 109 #[.int .i64 d] w fun e w' => e = .returned (.bool (dateB d)) ∧ w = w' := by
  by_cases h : -25567 ≤ d
  · go_enter Tryz.func109, Tryz.ntmps109
    go_wp2
    go_ret
    exact ⟨retb (by simp [dateB]; omega), rfl⟩
  · go_enter Tryz.func109, Tryz.ntmps109
    go_wp2
    go_ret
    exact ⟨retb (by simp [dateB]; omega), rfl⟩
theorem own_keeps {w w' : World} {base e size n : Nat} {v : Value} {xs : List Value} (h : w.ownsRow base e size v n xs) (hk : Keeps w w') : w'.ownsRow base e size v n xs := own_keepsH h hk
end Go.Proofs.YtoaidbhiciaeaaaGreat

end
section
namespace Go.Proofs.YtoaidbhiciaeaaaGreat
open Go.RowKit
set_option linter.unusedSimpArgs false
set_option linter.unusedVariables false
theorem wpList_app_raw {P : Program} {w : World} {ops : Array Oper} {rest : List Oper} {o : Oper} {a : Act} {Q : Exit → Act → World → Prop} {t e : TypeId} {z : Value} {size bytes : Nat}
    (E : ElemOf P t e z size bytes) (hgd : o.guard = none) (s x : Operand) (ho : o.op = .call { callee := .builtin .append, args := #[s, x], argTypes := #[t, t] })
    (v : Value) (n : Nat) (xs : List Value) (hs : a.eval s = v) (base : Nat) (hown : w.ownsRow base e size v n xs) (hbase : base ≤ w.heap.size)
    (news : List Value) (bx c : Nat) (hx : a.eval x = .slice (some ⟨bx, 0, none⟩) 1 c) (hbx : bx = w.heap.size) (hl : news.length = size) (h1 : ∀ u ∈ news, u.oneCell' = true) (hbytes : (n + 1) * bytes ≤ 140737488355328) (h63 : n + 1 ≤ 9223372036854775807)
    (h : ∀ v' w', w'.ownsRow base e size v' (n + 1) (xs ++ news) → (w.alloc (.cells news.toArray e)).grownBy w' v.ownBlock → (v'.ownBlock = v.ownBlock ∨ v'.ownBlock = some (w.heap.size + 1)) → wpList P ops Q rest (a.put o.dst v') w') :
    wpList P ops Q (o :: rest) a (w.alloc (.cells news.toArray e)) := by
  subst hbx
  obtain ⟨i0, hi, hz0, hz1, hz2⟩ := info_parts E.info
  refine wpList_append_own_at _ hgd s x t ho base e i0 z size bytes E.ht hi hz0 hz1 hz2 E.zs E.sz v n xs hs (hown.alloc _) ⟨w.heap.size, 0, none⟩ 1 c news hx (by omega) ?_ h1 (by unfold maxLen; omega) hbytes (by simp; omega) ?_
  · intro j u hj
    rw [Addr.add_lit, Nat.zero_add, cell_of_row (w.alloc (.cells news.toArray e)) w.heap.size j news.toArray e (0, 0) (heap_alloc_new w _)]
    simpa using hj
  · intro v' w' hown' hgrow _ hat
    exact h v' w' hown' hgrow (by simpa using hat)
def OutI (w : World) (xs : List Int) (e : Ending) (w' : World) : Prop := ∃ v, e = .returned v ∧ IntL w' v xs ∧ Keeps w w'
end Go.Proofs.YtoaidbhiciaeaaaGreat

end
section
namespace Go.Proofs.YtoaidbhiciaeaaaGreat
open Go.RowKit
set_option linter.unusedSimpArgs false
set_option linter.unusedVariables false
def lenV : Value → Nat
  | .slice _ n _ => n
  | _ => 0
theorem lenV_own {w : World} {base e n : Nat} {v : Value} {xs : List Value} (h : w.ownsRow base e 1 v n xs) : lenV v = n := by
  obtain ⟨ao, cap, b, rfl, hs⟩ := Sl.own h
  rfl
theorem seenI_get (l : List Int) (x : Int) : (seenI l x).getD (.bool false) = .bool (l.contains x) := by
  unfold seenI
  cases l.contains x <;> rfl
theorem pathP_stop {l : List Acc} {n : Nat} {out : List Int} {c : Int} (hf : findA l c = none) : pathP l n out c = out := by
  cases n with
  | zero => rfl
  | succ n => simp only [pathP, hf]
theorem pathP_seen {l : List Acc} {n : Nat} {out : List Int} {c : Int} {a : Acc} (hf : findA l c = some a) (h : out.contains c = true) : pathP l n out c = out := by
  cases n with
  | zero => rfl
  | succ n => simp only [pathP, hf, h, if_true]
theorem pathP_next {l : List Acc} {n : Nat} {out : List Int} {c : Int} {a : Acc} (hf : findA l c = some a) (h : out.contains c = false) : pathP l (n + 1) out c = pathP l n (out ++ [c]) a.parent := by
  simp only [pathP, hf, h]; rfl
def Seen (l : List Acc) (xs : List Int) : Prop := xs.Nodup ∧ ∀ c ∈ xs, (findA l c).isSome = true
theorem Seen.nil (l : List Acc) : Seen l [] := ⟨List.nodup_nil, by simp⟩
theorem Seen.le {l : List Acc} {xs : List Int} (h : Seen l xs) : xs.length ≤ l.length := codes_le h.1 h.2
theorem Seen.snoc {l : List Acc} {xs : List Int} {c : Int} {a : Acc} (h : Seen l xs) (hf : findA l c = some a) (hn : xs.contains c = false) : Seen l (xs ++ [c]) := by
  have hn' : c ∉ xs := by simpa using hn
  refine ⟨?_, fun d hd => ?_⟩
  · rw [List.nodup_append]
    refine ⟨h.1, by simp, ?_⟩
    intro x hx y hy e
    simp only [List.mem_singleton] at hy
    subst hy; exact hn' (e ▸ hx)
  · rcases List.mem_append.1 hd with hd | hd
    · exact h.2 d hd
    · simp only [List.mem_singleton] at hd; subst hd; rw [hf]; rfl
theorem pfind_none (l : List Acc) (code : Int) (ao : Option Addr) (cap b o : Nat) (w : World) (H : Accs w ao l cap b o) (hf : findA l code = none) :
    Calls Tryz.prog 103 #[.slice ao l.length cap, .int .i64 code] w fun e w' => e = .returned (.tuple #[.agg #[.int .i64 0, .int .i64 0, .int .i64 0, .int .i64 0], .bool false]) ∧ Keeps w w' := by
  have := find_any l code ao cap b o w H; rw [hf] at this; exact this
theorem pfind_some (l : List Acc) (code : Int) (p : Acc) (ao : Option Addr) (cap b o : Nat) (w : World) (H : Accs w ao l cap b o) (hf : findA l code = some p) :
    Calls Tryz.prog 103 #[.slice ao l.length cap, .int .i64 code] w fun e w' => e = .returned (.tuple #[.agg #[.int .i64 p.code, .int .i64 p.kind, .int .i64 p.basis, .int .i64 p.parent], .bool true]) ∧ Keeps w w' := by
  have := find_any l code ao cap b o w H; rw [hf] at this; exact this
set_option maxRecDepth 100000 in
set_option maxHeartbeats 2000000 in
theorem climb_any (l : List Acc) (c0 : Int) (ao : Option Addr) (cap b o : Nat) (w : World) (H : Accs w ao l cap b o) (hl : l.length ≤ 1000) (h0 : I64 c0) (hok : ∀ x ∈ l, I64 x.parent) :
    Calls Tryz.prog 172 #[.slice ao l.length cap, .int .i64 c0] w (OutI w (climbP l c0)) := by
  have hcap := Sl.cap H
  have hle := Sl.le H
  have HH := Lib.hid H
  have hmm := @run_makeMap Tryz.prog
  have HO := Lib.hid hok
  clear H hok
  go_enter Tryz.func172, Tryz.ntmps172
  go_wp2_with fail
  go_step3
  go_wp2_with fail
  go_step3
  go_wp2_with fail
  go_loopw [1, 5] (fun vc vo wr => ∃ (k : Nat) (c : Int) (xs : List Int), k ≤ l.length ∧ xs.length = k ∧ vc = .int .i64 c ∧ I64 c ∧ Hid (lenV vo = k ∧ Seen l xs ∧ climbP l c0 = pathP l (l.length + 1 - k) xs c) ∧ Hid (Keeps w wr ∧ VMap intK wr w.heap.size k (seenI xs) ∧ wr.ownsRow (w.heap.size + 1) 3 1 vo k (xs.map (.int .i64)))) (fun _ vo _ => l.length + 1 - lenV vo)
  case atStart => exact ⟨0, c0, [], Nat.zero_le _, rfl, rfl, h0, Lib.hid ⟨rfl, Seen.nil l, rfl⟩, Lib.hid ⟨(Keeps.refl w).alloc _, VMap.made intK w, World.ownsRow_nil _ _ _ _⟩⟩
  case round =>
    obtain ⟨k, c, xs, hk, hxs, rfl, hc64, HP, HW⟩ := hrel
    cases hf : findA l c with
    | none =>
      have HE : Hid (climbP l c0 = xs) := Lib.hid (by rw [HP.out.2.2, pathP_stop hf])
      go_wp2_with (first | (go_at_call 103; refine (pfind_none l c ao cap b o _ (HH.out.keeps HW.out.1) hf).mono ?_; rintro e1 w1 ⟨rfl, hk1⟩; have HW1 : Hid (Keeps w w1 ∧ w1.ownsRow (w.heap.size + 1) 3 1 u5 k (xs.map (.int .i64))) := Lib.hid ⟨HW.out.1.trans hk1, own_keeps HW.out.2.2 hk1⟩; clear hk1))
      rw [Exit.noGoto_ret]
      go_ret
      rw [HE.out]
      refine ⟨_, rfl, IntL.own (base := w.heap.size + 1) (e := 3) ?_, HW1.out.1.alloc _⟩
      rw [hxs]; exact HW1.out.2.alloc _
    | some a =>
      cases hin : xs.contains c with
      | true =>
        have HE : Hid (climbP l c0 = xs) := Lib.hid (by rw [HP.out.2.2, pathP_seen hf hin])
        go_wp2_with (first | (go_at_call 103; refine (pfind_some l c a ao cap b o _ (HH.out.keeps HW.out.1) hf).mono ?_; rintro e1 w1 ⟨rfl, hk1⟩; have HW1 : Hid (Keeps w w1 ∧ w1.ownsRow (w.heap.size + 1) 3 1 u5 k (xs.map (.int .i64))) := Lib.hid ⟨HW.out.1.trans hk1, own_keeps HW.out.2.2 hk1⟩; have HM1 : Hid (VMap intK w1 w.heap.size k (seenI xs)) := Lib.hid (HW.out.2.1.keeps hk1); have hlk : (Instr.lookup 140 (.map (some w.heap.size)) (.int .i64 c) false).run Tryz.prog (w1.alloc (.cells #[.int .i64 a.code, .int .i64 a.kind, .int .i64 a.basis, .int .i64 a.parent] 68)) = .ok (.bool true) (w1.alloc (.cells #[.int .i64 a.code, .int .i64 a.kind, .int .i64 a.basis, .int .i64 a.parent] 68)) := (by have := (HM1.out.alloc (.cells #[.int .i64 a.code, .int .i64 a.kind, .int .i64 a.basis, .int .i64 a.parent] 68)).look Tryz.underlying140 (fun w => Tryz.zeroValue4 w) (a := c) hc64 _ rfl; rw [seenI_get, hin] at this; exact this); clear hk1))
        rw [Exit.noGoto_ret]
        go_ret
        rw [HE.out]
        refine ⟨_, rfl, IntL.own (base := w.heap.size + 1) (e := 3) ?_, HW1.out.1.alloc _⟩
        rw [hxs]; exact HW1.out.2.alloc _
      | false =>
        have HS2 : Hid (Seen l (xs ++ [c]) ∧ climbP l c0 = pathP l (l.length + 1 - (k + 1)) (xs ++ [c]) a.parent) := Lib.hid ⟨HP.out.2.1.snoc hf hin, by
          rw [HP.out.2.2]
          obtain ⟨m, hm⟩ : ∃ m, l.length + 1 - k = m + 1 := ⟨l.length - k, by omega⟩
          rw [hm, show l.length + 1 - (k + 1) = m from by omega, pathP_next hf hin]⟩
        have hk2 : k + 1 ≤ l.length := by have := HS2.out.1.le; simp at this; omega
        have hp64 := HO.out _ (findA_mem hf).1
        have hlv := HP.out.1
        go_wp2_with (first | (go_at_call 103; refine (pfind_some l c a ao cap b o _ (HH.out.keeps HW.out.1) hf).mono ?_; rintro e1 w1 ⟨rfl, hk1⟩; have HW1 : Hid (Keeps w w1 ∧ w1.ownsRow (w.heap.size + 1) 3 1 u5 k (xs.map (.int .i64))) := Lib.hid ⟨HW.out.1.trans hk1, own_keeps HW.out.2.2 hk1⟩; have HM1 : Hid (VMap intK w1 w.heap.size k (seenI xs)) := Lib.hid (HW.out.2.1.keeps hk1); have hlk : (Instr.lookup 140 (.map (some w.heap.size)) (.int .i64 c) false).run Tryz.prog (w1.alloc (.cells #[.int .i64 a.code, .int .i64 a.kind, .int .i64 a.basis, .int .i64 a.parent] 68)) = .ok (.bool false) (w1.alloc (.cells #[.int .i64 a.code, .int .i64 a.kind, .int .i64 a.basis, .int .i64 a.parent] 68)) := (by have := (HM1.out.alloc (.cells #[.int .i64 a.code, .int .i64 a.kind, .int .i64 a.basis, .int .i64 a.parent] 68)).look Tryz.underlying140 (fun w => Tryz.zeroValue4 w) (a := c) hc64 _ rfl; rw [seenI_get, hin] at this; exact this); have hml := HM1.out.lt; clear hk1) | (refine wpList_vstore (K := intK) rfl _ _ _ 140 rfl Tryz.underlying140 w.heap.size k rfl (HM1.out.alloc _) (by unfold maxLen; omega) c hc64 rfl (.bool true) rfl (seenI (xs ++ [c])) (seenI_snoc _ _).1 (fun d _ hd => (seenI_snoc _ _).2 d hd) ?_; intro w3 hm3 hg3; have d3 := hg3.cell (show (w1.alloc (.cells #[.int .i64 a.code, .int .i64 a.kind, .int .i64 a.basis, .int .i64 a.parent] 68)).cell? ⟨w1.heap.size, 3, none⟩ = some (.int .i64 a.parent) by go_simp) (fun e => by simp at e; omega); have hb3 := World.block_lt_of_cell? _ _ d3; have HX3 : Hid (Keeps w w3 ∧ VMap intK w3 w.heap.size (k + 1) (seenI (xs ++ [c])) ∧ w3.ownsRow (w.heap.size + 1) 3 1 u5 k (xs.map (.int .i64))) := Lib.hid ⟨Below.grown (HW1.out.1.alloc _) hg3 (by have := HW1.out.1.size; simp; omega) (fun j hj => by cases hj; exact Nat.le_refl _), hm3, (HW1.out.2.alloc _).kept hg3 (Classical.or_iff_not_imp_left.2 fun _ e => by have := (HW1.out.2.lt _ e).1; omega)⟩; clear hm3 hg3) | (at_builtin; (refine wpList_app_raw elemInt rfl _ _ rfl _ _ _ rfl (w.heap.size + 1) HX3.out.2.2 HX3.out.2.1.lt [.int .i64 c] _ 1 rfl (by simp) rfl (by intro u hu; simp at hu; subst hu; rfl) (by omega) (by omega) ?_; intro v2 w2 hown2 hgrow2 hat2; have d3' := hgrow2.cell (show (w3.alloc (.cells #[.int .i64 c] 3)).cell? ⟨w1.heap.size, 3, none⟩ = some (.int .i64 a.parent) by go_simp) (fun e => Nat.lt_irrefl w1.heap.size (HW1.out.2.lt w1.heap.size e.symm).2); have hb2 := World.block_lt_of_cell? _ _ d3'; have HX : Hid (lenV v2 = k + 1 ∧ Keeps w w2 ∧ VMap intK w2 w.heap.size (k + 1) (seenI (xs ++ [c])) ∧ w2.ownsRow (w.heap.size + 1) 3 1 v2 (k + 1) ((xs ++ [c]).map (.int .i64))) := Lib.hid ⟨lenV_own hown2, Below.grown (HX3.out.1.alloc _) hgrow2 (by have := HX3.out.1.size; simp; omega) (fun j hj => by have := (HX3.out.2.2.lt j hj).1; omega), (HX3.out.2.1.alloc _).kept hgrow2 (fun e => by have := (HX3.out.2.2.lt _ e.symm).1; omega), by rw [List.map_append]; exact hown2⟩; clear hown2 hgrow2 hat2)))
        go_roundw
        case rel => exact ⟨k + 1, a.parent, xs ++ [c], hk2, by simp [hxs], rfl, hp64, Lib.hid ⟨HX.out.1, HS2.out⟩, Lib.hid HX.out.2⟩
        case measure => simp [HX.out.1, hlv]; omega
end Go.Proofs.YtoaidbhiciaeaaaGreat

end
