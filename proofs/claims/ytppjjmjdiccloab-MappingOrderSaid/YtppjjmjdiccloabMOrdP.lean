/- The order of the links of a valid mapping: the plain part. -/
import Derived.Test.YtppjjmjdiccloabSumP
namespace Go.Proofs.Ytppjjmjdiccloab
set_option linter.unusedSimpArgs false

theorem sameK_comm (a b : Lnk) : sameK a b = sameK b a := by unfold sameK; rw [Bool.beq_comm (a := a.frm), Bool.beq_comm (a := a.since)]
/-- No two links have one account and one date. -/
def OnceL (ls : List Lnk) : Prop := ls.Pairwise (fun a b => sameK a b = false)
theorem okL_all {x c : List Acc} {ls : List Lnk} : (List.range ls.length).all (okL x c ls) = true ↔ (∀ m ∈ ls, linkB x c m = true) ∧ OnceL ls := by
  rw [List.all_eq_true]
  constructor
  · intro h
    refine ⟨fun m hm => ?_, ?_⟩
    · obtain ⟨k, hk, rfl⟩ := List.getElem_of_mem hm
      have h1 := h k (List.mem_range.2 hk)
      rw [okL_at hk, Bool.and_eq_true] at h1
      exact h1.2
    · unfold OnceL
      rw [List.pairwise_iff_getElem]
      intro i j hi hj hij
      have h1 := h j (List.mem_range.2 hj)
      rw [okL_at hj, Bool.and_eq_true, Bool.not_eq_true'] at h1
      cases hs : sameK ls[i] ls[j] with
      | false => rfl
      | true =>
        have : (ls.take j).any (fun a => sameK a ls[j]) = true := by
          rw [List.any_eq_true]
          refine ⟨ls[i], ?_, hs⟩
          rw [List.mem_take_iff_getElem]
          exact ⟨i, by omega, rfl⟩
        rw [this] at h1; cases h1.1
  · rintro ⟨h1, h2⟩ k hk
    have hk := List.mem_range.1 hk
    rw [okL_at hk, Bool.and_eq_true, Bool.not_eq_true']
    refine ⟨?_, h1 _ (List.getElem_mem hk)⟩
    rw [Bool.eq_false_iff]
    intro h
    rw [List.any_eq_true] at h
    obtain ⟨a, ha, hs⟩ := h
    rw [List.mem_take_iff_getElem] at ha
    obtain ⟨i, hi, rfl⟩ := ha
    have := List.pairwise_iff_getElem.1 h2 i k (by omega) hk (by omega)
    rw [this] at hs; cases hs
theorem OnceL.reverse {ls : List Lnk} (h : OnceL ls) : OnceL ls.reverse := by
  unfold OnceL at *
  rw [List.pairwise_reverse]
  exact h.imp fun h => by rw [sameK_comm]; exact h
/-- The entity with its links turned. -/
def Ent.turn (en : Ent) : Ent := ⟨en.name, en.cur, en.chart, en.links.reverse, en.joint⟩
theorem mvalidB_once {en : Ent} {c : List Acc} (h : mvalidB en c = true) : OnceL en.links := by
  unfold mvalidB at h
  rw [Bool.and_eq_true] at h
  exact (okL_all.1 h.2).2
theorem mvalidB_turn {en : Ent} {c : List Acc} (h : mvalidB en c = true) : mvalidB en.turn c = true := by
  unfold mvalidB at h ⊢
  rw [Bool.and_eq_true] at h ⊢
  obtain ⟨h1, h2⟩ := okL_all.1 h.2
  refine ⟨?_, okL_all.2 ⟨fun m hm => h1 m (List.mem_reverse.1 hm), h2.reverse⟩⟩
  have : en.turn.links.length = en.links.length := List.length_reverse
  rw [this]
  exact h.1
theorem pickL_le (m x : Lnk) : m.since ≤ (pickL m x).since ∧ x.since ≤ (pickL m x).since := by
  unfold pickL
  split <;> omega
theorem bestL_max {l : List Lnk} {m : Lnk} (h : bestL l = some m) : ∀ x ∈ l, x.since ≤ m.since := by
  cases l with
  | nil => cases h
  | cons y r =>
    simp only [bestL, Option.some.injEq] at h
    have key : ∀ (r : List Lnk) (y : Lnk), y.since ≤ (r.foldl pickL y).since ∧ ∀ x ∈ r, x.since ≤ (r.foldl pickL y).since := by
      intro r
      induction r with
      | nil => intro y; exact ⟨Int.le_refl _, fun x hx => by cases hx⟩
      | cons z r ih =>
        intro y
        rw [List.foldl_cons]
        have h1 := ih (pickL y z)
        have h2 := pickL_le y z
        refine ⟨by omega, fun x hx => ?_⟩
        rcases List.mem_cons.1 hx with rfl | hx
        · omega
        · exact h1.2 x hx
    intro x hx
    have := key r y
    rw [h] at this
    rcases List.mem_cons.1 hx with rfl | hx
    · exact this.1
    · exact this.2 x hx
theorem once_eq {ls : List Lnk} (h : OnceL ls) {a b : Lnk} (ha : a ∈ ls) (hb : b ∈ ls) (hs : sameK a b = true) : a = b := by
  obtain ⟨i, hi, rfl⟩ := List.getElem_of_mem ha
  obtain ⟨j, hj, rfl⟩ := List.getElem_of_mem hb
  have hp := List.pairwise_iff_getElem.1 h
  rcases Nat.lt_trichotomy i j with hij | rfl | hij
  · rw [hp i j hi hj hij] at hs; cases hs
  · rfl
  · rw [sameK_comm, hp j i hj hi hij] at hs; cases hs
theorem best_turn {ls : List Lnk} (h : OnceL ls) (code day : Int) : bestL (cands ls.reverse code day) = bestL (cands ls code day) := by
  have hmem : ∀ m, m ∈ cands ls.reverse code day ↔ m ∈ cands ls code day := by intro m; unfold cands; simp
  cases h1 : bestL (cands ls.reverse code day) with
  | none =>
    have := bestL_none.1 h1
    cases h2 : bestL (cands ls code day) with
    | none => rfl
    | some m =>
      have := (hmem m).2 (bestL_mem h2)
      rw [bestL_none.1 h1] at this; cases this
  | some m =>
    cases h2 : bestL (cands ls code day) with
    | none =>
      have := (hmem m).1 (bestL_mem h1)
      rw [bestL_none.1 h2] at this; cases this
    | some n =>
      have hm := (hmem m).1 (bestL_mem h1)
      have hn := bestL_mem h2
      have e1 := bestL_max h1 n ((hmem n).2 hn)
      have e2 := bestL_max h2 m hm
      unfold cands at hm hn
      rw [List.mem_filter] at hm hn
      have f1 := hm.2
      have f2 := hn.2
      unfold candB at f1 f2
      rw [Bool.and_eq_true, beq_iff_eq] at f1 f2
      have : m = n := once_eq h hm.1 hn.1 (by unfold sameK; rw [f1.1, f2.1, show m.since = n.since by omega]; simp)
      rw [this]
theorem at_turn {en : Ent} {c : List Acc} (h : mvalidB en c = true) (code day : Int) : atS en.chart en.links.reverse code day = atS en.chart en.links code day := by
  unfold atS
  rw [best_turn (mvalidB_once h)]
theorem run_turn {c : List Acc} {l l' : List Lnk} {day : Int} (h : ∀ code, atS c l' code day = atS c l code day) (bs : List Bal) : runG c l' day bs = runG c l day bs := by
  have : stepG c l' day = stepG c l day := by
    funext st b
    unfold stepG
    rw [h]
  unfold runG
  rw [this]
theorem move_turn {en : Ent} {c : List Acc} (h : mvalidB en c = true) (bs : List Bal) (day : Int) : moveS en.chart en.links.reverse bs day = moveS en.chart en.links bs day := by
  unfold moveS
  rw [run_turn (fun code => at_turn h code day)]
end Go.Proofs.Ytppjjmjdiccloab
