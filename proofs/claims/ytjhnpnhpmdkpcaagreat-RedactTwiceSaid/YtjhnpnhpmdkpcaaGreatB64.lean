/-
  Contracts and plain laws of this seat, part 64: RedL, RedM.
-/
import Derived.Test.YtjhnpnhpmdkpcaaGreatB28
import Derived.Test.YtjhnpnhpmdkpcaaGreatB29
import Derived.Test.YtjhnpnhpmdkpcaaGreatB63
set_option linter.unusedVariables false
set_option linter.unusedSimpArgs false
set_option maxRecDepth 100000
set_option maxHeartbeats 16000000
namespace Go.Proofs.YtjhnpnhpmdkpcaaGreat
open Go.RowKit Go
section
variable {a:Alive} {t:List PRec} {x:Chg}
end
/-! Redacted tables. -/
section
variable {v:List Vn} {s:List Src} {k:Nat} {t:List PRec} {r:PRec}
theorem mem_redT:r∈redT v s k t ↔ ∃ r0∈t,stays s k r0=true∧r=redR v k r0:=by
 unfold redT
 rw [List.mem_map]
 constructor
 ·rintro ⟨r0,h,rfl⟩
  obtain ⟨h1,h2⟩:=List.mem_filter.1 h
  exact ⟨r0,h1,h2,rfl⟩
 ·rintro ⟨r0,h1,h2,rfl⟩
  exact ⟨r0,List.mem_filter.2 ⟨h1,h2⟩,rfl⟩
theorem headP_red:headP (redR v k r)=headP r:=by
 obtain ⟨a,b,d⟩:=r
 unfold headP redR redRow
 cases a with
 | nil=>rfl
 | cons u us=>simp
theorem redT_len:(redT v s k t).length≤t.length:=by
 unfold redT
 rw [List.length_map]
 exact List.length_filter_le _ _
theorem stays_iff {r:PRec}:stays s k r=true↔(⟨(k:Int),headQ r⟩:Src) ∉ s:=by
 unfold stays headQ
 simp
end
end Go.Proofs.YtjhnpnhpmdkpcaaGreat
