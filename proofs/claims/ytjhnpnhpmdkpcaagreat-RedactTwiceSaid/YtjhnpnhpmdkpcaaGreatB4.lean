/-
  Contracts and plain laws of this seat, part 4: RefBlk, RefUnt, Records, RefSrc.
-/
import Derived.Test.YtjhnpnhpmdkpcaaGreatB3
set_option linter.unusedVariables false
set_option linter.unusedSimpArgs false
set_option maxRecDepth 100000
set_option maxHeartbeats 16000000
namespace Go.Proofs.YtjhnpnhpmdkpcaaGreat
open Go.RowKit
theorem tw_take {α : Type} (p : α → Bool) : ∀ l:List α,l.take (l.takeWhile p).length=l.takeWhile p
 | []=>rfl
 | x::l=>by
   cases h:p x
   ·rw [List.takeWhile_cons_of_neg (by rw [h];decide)]
    rfl
   ·rw [List.takeWhile_cons_of_pos h,List.length_cons,List.take_succ_cons,tw_take p l]
theorem tw_at {α : Type} (p : α → Bool) : ∀ (l:List α) (h:(l.takeWhile p).length<l.length),p l[(l.takeWhile p).length]=false
 | [],h=>by simp at h
 | x::l,h=>by
   cases hx:p x
   ·have e:((x::l).takeWhile p).length = 0:=by rw [List.takeWhile_cons_of_neg (by rw [hx];decide)];rfl
    simp only [e]
    exact hx
   ·have e:((x::l).takeWhile p).length=(l.takeWhile p).length + 1:=by rw [List.takeWhile_cons_of_pos hx];rfl
    have h':(l.takeWhile p).length<l.length:=by rw [e] at h;simpa using h
    have:=tw_at p l h'
    simp only [e]
    exact this
/-! A source put into an ascending list. -/
end Go.Proofs.YtjhnpnhpmdkpcaaGreat
