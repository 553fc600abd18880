/-
  Contracts and plain laws of this seat, part 27: Has15.
-/
import Derived.Test.YtjhnpnhpmdkpcaaGreatA10
import Derived.Test.YtjhnpnhpmdkpcaaGreatA24
import Derived.Test.YtjhnpnhpmdkpcaaGreatA3
import Derived.Test.YtjhnpnhpmdkpcaaGreatA1
import Derived.Test.YtjhnpnhpmdkpcaaGreatA4
import Derived.Test.YtjhnpnhpmdkpcaaGreatA14
import Derived.Test.YtjhnpnhpmdkpcaaGreatA25
import Derived.Test.YtjhnpnhpmdkpcaaGreatA7
import Derived.DeepKeys4
set_option linter.unusedVariables false
set_option linter.unusedSimpArgs false
set_option maxRecDepth 100000
set_option maxHeartbeats 16000000
namespace Go.Proofs.YtjhnpnhpmdkpcaaGreat
open Go.RowKit Go
theorem ref15_Has (A:Option Addr) (c n:Nat) (l:List Src) (s:Src) (w:World) (hl:SliceIs w w.heap.size Src.cells 2 A l) (hln:l.length=n) (hn:n ≤ 1000000) {r:Bool} (hr:decide (s∈l)=r) :
 Calls Tryz.prog 14 #[.slice A n c, .agg #[.int .i64 s.tab, .int .i64 s.seq]] w fun e w'=>e = .returned (.bool r)∧Below w.heap.size w w':=by
 subst hln hr
 have HL:=qh hl
 clear hl
 go_enter Tryz.func14,Tryz.ntmps14
 go_upto_region 2 with (fail)
 refine abs_world (P:=fun u=>Code.wp _ _ _ _ u) (R:=fun u=>Blk u w.heap.size 51 #[.int .i64 s.tab, .int .i64 s.seq]∧Below w.heap.size w u) ⟨?_,?_⟩ ?_
 ·exact Blk.new _ _ _
 ·exact belA
 rintro W ⟨hB,hbW⟩
 have hzW:=hB.lt
 have HB:=qh hB
 clear hB
 go_loopw [5] (fun vi wr => ∃ i:Nat,i≤l.length∧vi = .int .i64 i∧Below W.heap.size W wr∧(∀ j (h:j<l.length),j<i→l[j]≠s)) (fun vi _=>l.length - (intOf vi).toNat)
 case atStart=>exact ⟨0,Nat.zero_le _,rfl,Below.refl _ _,fun j _ h=>by omega⟩
 case round =>
  obtain ⟨i,hi,rfl,hbr,hno⟩:=hrel
  have HNO:=qh hno
  have hwz:=hbr.size
  have hxr:=below_nextN hbW hbr hbW.size
  have hxz:=hxr.size
  clear hno
  by_cases hlt:i<l.length
  ·obtain ⟨b5,o5,rfl,hb5,hc5⟩:=(HL.out.below hxr).get hlt
   have x0:=hc5 0 _ rfl
   have x1:=hc5 1 _ rfl
   simp only [Nat.add_zero] at x0 x1
   have hB:=HB.out.below hbr hzW
   have p0:=hB.cell 0
   have p1:=hB.cell 1
   simp only [gE3] at p0 p1
   have hk0:=keepQ (w:=wr) w.heap.size omA
   have hk1:=keepQ (w:=wr) b5 omA
   obtain ⟨y,hy⟩ : ∃ y,l[i]=y:=⟨_,rfl⟩
   rw [hy] at x0 x1
   have HY:=qh hy
   clear hc5 hB hy
   cases he:decide (y=s)
   ·have heq:=eqlSrc_of he
    have HNE:Hid (l[i]≠s):=qh (by rw [HY.out];simpa using he)
    clear he
    go_upto_region 4 with (fail)
    refine wp_region_bel krA krA ?_;(repeat (go_big_quiet_step (fail)));refine wpQuiet_nil ?_;intro wq hq
    clear hk0 hk1 x0 x1 p0 p1
    go_wp2_with fail
    go_roundw
    case rel=>exact ⟨i + 1,by omega,by go_num,below_nextN hbr hq hwz,fun j h hj=>by
     rcases Nat.lt_or_ge j i with h1|h1
     ·exact HNO.out j h h1
     ·obtain rfl:j=i:=by omega
      exact HNE.out⟩
    case measure=>exact meA
   ·have heq:=eqlSrc_of he
    have HIN:Hid (s∈l):=qh (by have h:y=s:=(by simpa using he);rw [← h,← HY.out];exact lgm hlt)
    clear he
    go_upto_region 4 with (fail)
    refine wp_region_bel krA krA ?_;(repeat (go_big_quiet_step (fail)));refine wpQuiet_nil ?_;intro wq hq
    go_wp2_with fail
    go_ret
    exact ⟨ret_bool (decide_eq_true HIN.out).symm,below_nextN hxr hq hxr.size⟩
  ·have hlt':decide (i<l.length)=false:=by simpa using hlt
   go_wp2_with fail
   go_ret
   exact ⟨ret_bool (decide_eq_false (fun h=>by obtain ⟨j,hj,he⟩:=List.getElem_of_mem h;exact HNO.out j hj omA he)).symm,hxr⟩
end Go.Proofs.YtjhnpnhpmdkpcaaGreat
