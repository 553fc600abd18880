/-
  Contracts and plain laws of this seat, part 56.
-/
import Derived.Test.YtjidligipoldeaaGreatT9
set_option linter.unusedVariables false
set_option linter.unusedSimpArgs false
set_option maxRecDepth 100000
set_option maxHeartbeats 16000000
namespace Go.Proofs.YtjidligipoldeaaGreat
open Go.RowKit Go
structure Vn where
 tab:Int
 col:Int
 seq:Int
instance:DecidableEq Vn:=fun a b =>
 if h:a.tab=b.tab∧a.col=b.col∧a.seq=b.seq then isTrue (by obtain⟨_,_,_⟩:=a;obtain⟨_,_,_⟩:=b;simp at h;simp[h])
 else isFalse (fun e=>h (by simp[e]))
instance:Inhabited Vn:=⟨⟨0,0,0⟩⟩
end Go.Proofs.YtjidligipoldeaaGreat
