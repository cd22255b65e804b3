/- SortStableFunc over the comparison of Split, for fewer than 20 places: one block of insertion sort. -/
import Derived.Test.YtppjjmjdiccloaaOrdW
namespace Go.Proofs.Ytppjjmjdiccloaa
open Go.RowKit

/-- What the sort of n places gives. -/
def SortSaid (n : Nat) : Prop := ∀ (w0 w : World) (ob ba bw bs : Nat) (abs sum : Int) (ws : List Int) (ao : Option Addr) (cap b o : Nat) (d0 : Nat → Int) (c : Nat), SS w0 w ob n ba bw bs abs sum ws ao cap b o d0 → (∀ i, i < n → d0 i = i) →
    Calls Try.prog 23 #[.slice (some ⟨ob, 0, none⟩) n c, .func (.func 24) #[] #[.pointer (some ⟨ba, 0, none⟩), .pointer (some ⟨bw, 0, none⟩), .pointer (some ⟨bs, 0, none⟩)]] w
      fun e w' => e = .returned (.tuple #[]) ∧ ∃ d, SS w0 w' ob n ba bw bs abs sum ws ao cap b o d ∧ Srt (rst abs sum ws) d 0 n ∧ Same 0 n d0 d

def SortPost (w0 : World) (ob n ba bw bs : Nat) (abs sum : Int) (ws : List Int) (ao : Option Addr) (cap b o : Nat) (d0 : Nat → Int) (e : Ending) (w' : World) : Prop :=
  e = .returned (.tuple #[]) ∧ ∃ d, SS w0 w' ob n ba bw bs abs sum ws ao cap b o d ∧ Srt (rst abs sum ws) d 0 n ∧ Same 0 n d0 d

set_option maxHeartbeats 400000 in
theorem stable_small (w0 w : World) (ob n ba bw bs : Nat) (abs sum : Int) (ws : List Int) (ao : Option Addr) (cap b o : Nat) (d0 : Nat → Int) (h : SS w0 w ob n ba bw bs abs sum ws ao cap b o d0) (c : Nat) (hn : n < 20) (hid : ∀ i, i < n → d0 i = i) :
    Calls Try.prog 33 #[.slice (some ⟨ob, 0, none⟩) n c, .int .i64 n, .func (.func 24) #[] #[.pointer (some ⟨ba, 0, none⟩), .pointer (some ⟨bw, 0, none⟩), .pointer (some ⟨bs, 0, none⟩)]] w
      fun e w' => SortPost w0 ob n ba bw bs abs sum ws ao cap b o d0 e w' := by
  have HC := Lib.hid (insertion_any w0 w ob n ba bw bs abs sum ws ao cap b o d0 h c 0 n (Nat.zero_le _) (Nat.le_refl _) (by omega) (fun i _ h2 => hid i h2))
  clear h hid
  go_enter Try.func33, Try.ntmps33
  go_wp2
  refine wp_loop_rounds 1 ?_
  rw [rounds_succ]
  go_wp2_with (go_at_call 39; refine HC.out.mono ?_; rintro e w1 ⟨rfl, hd⟩)
  refine wp_loop_rounds 1 ?_
  rw [rounds_succ]
  go_wp2_with fail
  go_end0
  exact ⟨rfl, hd⟩

theorem sort_small (n : Nat) (hn : n < 20) : SortSaid n := by
  intro w0 w ob ba bw bs abs sum ws ao cap b o d0 c h hid
  have HC := Lib.hid (stable_small w0 w ob n ba bw bs abs sum ws ao cap b o d0 h c hn hid)
  clear h hid
  go_enter Try.func23, Try.ntmps23
  go_wp2_with (go_at_call 33; refine HC.out.mono ?_; rintro e w1 ⟨rfl, hd⟩)
  go_end0
  exact ⟨rfl, hd⟩
end Go.Proofs.Ytppjjmjdiccloaa
