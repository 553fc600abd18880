/-
  Contracts and plain laws of this seat, part 4: RefBlk, RefUnt, Records, RefSrc, HBlocked, HBlk2, RefBld, HLooks.
-/
import Derived.Test.YtlpgmdhnjckplaaGreatV3
import Derived.Test.YtlpgmdhnjckplaaGreatV1
set_option linter.unusedVariables false
set_option linter.unusedSimpArgs false
set_option maxRecDepth 100000
set_option maxHeartbeats 16000000
namespace Go.Proofs.YtlpgmdhnjckplaaGreat
open Go.RowKit
theorem ref19_Covers (x:Hold) (A:Option Addr) (c n:Nat) (l:List Link) (t col sq rec dy:Int) (A':Option Addr) (c' n':Nat) (own:List Ident) (nul lst:Bool) (w:World) (hl:SliceIs w w.heap.size Link.cells 10 A l) (hln:l.length=n) (hn:n ≤ 1000000) (hs:Sane l) (hsx:x.who.ns.size ≤ 1000000) (ho:SliceIs w w.heap.size Ident.cells 4 A' own) (hon:own.length=n') (hn':n' ≤ 1000000) {r:Bool} (hr:(holdOk x&&validLinks l&&coversB x l t col own)=r) :
 Calls Tryz.prog 57 #[.agg #[.int .i64 x.table, .int .i64 x.column, .string x.who.ns, .int .i64 x.who.val.kind, .int .i64 x.who.val.num, .string x.who.val.text, .int .i64 x.seq, .int .i64 x.day0, .int .i64 x.day1], .slice A n c, .agg #[.int .i64 t, .int .i64 col, .int .i64 sq, .int .i64 rec, .int .i64 dy, .slice A' n' c', .bool nul, .bool lst]] w fun e w'=>e = .returned (.bool r)∧Below w.heap.size w w':=by
 subst hln hon hr
 have HS:=qh hs
 have HL:=qh hl
 have HO:=qh ho
 clear hs hl ho
 cases hk:holdOk x
 ·have HK:=qh hk
  clear hk
  go_enter Tryz.func57,Tryz.ntmps57
  go_wp2_with (first
   | (go_at_call 93;(with_reducible refine (ref19_oneB x _ hsx HK.out).mono ?_);rintro e w1 ⟨rfl,hb1⟩;have hx1:Below w.heap.size w w1:=below_nextN belA hb1.1 leA;obtain ⟨k1,f1,z1⟩:=keepE hb1 w.heap.size ltA;obtain ⟨k2,f2,z2⟩:=keepE hb1 (w.heap.size + 1) ltA)
   | (go_at_call 106;(with_reducible refine (ref16_ValidN A c l.length l _ ((HL.out.below hx1).mono hx1.size) rfl hn HS.out HV.out).mono ?_);rintro e w2 ⟨rfl,hb2⟩;have hx2:Below w.heap.size w w2:=below_nextN hx1 hb2 hx1.size;obtain ⟨k3,f3,z3⟩:=keepB hb2 w.heap.size z1;obtain ⟨k4,f4,z4⟩:=keepB hb2 (w.heap.size + 1) z2)
   | (go_at_call 107;(with_reducible refine (ref19_covers x A c l.length l t col sq rec dy A' c' own.length own nul lst _ HK.out ((HL.out.below hx2).mono hx2.size) rfl hn HS.out hsx ((HO.out.below hx2).mono hx2.size) rfl hn' HC.out).mono ?_);rintro e w3 ⟨rfl,hb3⟩;have hx3:Below w.heap.size w w3:=below_nextN hx2 hb3 hx2.size))
  go_ret
  exact ⟨rfl,hx1⟩
 ·have HK:=qh hk
  clear hk
  cases hv:validLinks l
  ·have HV:=qh hv
   clear hv
   go_enter Tryz.func57,Tryz.ntmps57
   go_wp2_with (first
    | (go_at_call 93;(with_reducible refine (ref19_oneB x _ hsx HK.out).mono ?_);rintro e w1 ⟨rfl,hb1⟩;have hx1:Below w.heap.size w w1:=below_nextN belA hb1.1 leA;obtain ⟨k1,f1,z1⟩:=keepE hb1 w.heap.size ltA;obtain ⟨k2,f2,z2⟩:=keepE hb1 (w.heap.size + 1) ltA)
    | (go_at_call 106;(with_reducible refine (ref16_ValidN A c l.length l _ ((HL.out.below hx1).mono hx1.size) rfl hn HS.out HV.out).mono ?_);rintro e w2 ⟨rfl,hb2⟩;have hx2:Below w.heap.size w w2:=below_nextN hx1 hb2 hx1.size;obtain ⟨k3,f3,z3⟩:=keepB hb2 w.heap.size z1;obtain ⟨k4,f4,z4⟩:=keepB hb2 (w.heap.size + 1) z2)
    | (go_at_call 107;(with_reducible refine (ref19_covers x A c l.length l t col sq rec dy A' c' own.length own nul lst _ HK.out ((HL.out.below hx2).mono hx2.size) rfl hn HS.out hsx ((HO.out.below hx2).mono hx2.size) rfl hn' HC.out).mono ?_);rintro e w3 ⟨rfl,hb3⟩;have hx3:Below w.heap.size w w3:=below_nextN hx2 hb3 hx2.size))
   go_ret
   exact ⟨rfl,hx2⟩
  ·have HV:=qh hv
   clear hv
   obtain ⟨r,hr⟩ : ∃ r,coversB x l t col own=r:=⟨_,rfl⟩
   rw [hr]
   have HC:=qh hr
   clear hr
   go_enter Tryz.func57,Tryz.ntmps57
   go_wp2_with (first
    | (go_at_call 93;(with_reducible refine (ref19_oneB x _ hsx HK.out).mono ?_);rintro e w1 ⟨rfl,hb1⟩;have hx1:Below w.heap.size w w1:=below_nextN belA hb1.1 leA;obtain ⟨k1,f1,z1⟩:=keepE hb1 w.heap.size ltA;obtain ⟨k2,f2,z2⟩:=keepE hb1 (w.heap.size + 1) ltA)
    | (go_at_call 106;(with_reducible refine (ref16_ValidN A c l.length l _ ((HL.out.below hx1).mono hx1.size) rfl hn HS.out HV.out).mono ?_);rintro e w2 ⟨rfl,hb2⟩;have hx2:Below w.heap.size w w2:=below_nextN hx1 hb2 hx1.size;obtain ⟨k3,f3,z3⟩:=keepB hb2 w.heap.size z1;obtain ⟨k4,f4,z4⟩:=keepB hb2 (w.heap.size + 1) z2)
    | (go_at_call 107;(with_reducible refine (ref19_covers x A c l.length l t col sq rec dy A' c' own.length own nul lst _ HK.out ((HL.out.below hx2).mono hx2.size) rfl hn HS.out hsx ((HO.out.below hx2).mono hx2.size) rfl hn' HC.out).mono ?_);rintro e w3 ⟨rfl,hb3⟩;have hx3:Below w.heap.size w w3:=below_nextN hx2 hb3 hx2.size))
   go_ret
   exact ⟨rfl,hx3⟩
theorem idle_Covers (w:World):CallsD Tryz.prog 109 #[] .returning w fun e u' w'=>e = .returned (.tuple #[])∧u' = .returning∧w'=w:=by
 refine callsD_of_wpS Tryz.func109 rfl fun c₀ cs hu => ?_
 apply wpS_region
 cases c₀
 simp_all [wpOpsS,go_sem,recoverD,Tryz.ntmps109,bodyPostS,results,Tryz.results109]
theorem saneH_one {x:Hold} (h:x.who.ns.size ≤ 1000000):SaneH [x]:=fun y hy=>by rw [List.mem_singleton.1 hy];exact h
theorem holdOk_seq {x:Hold} (h:holdOk x=true):x.seq ≤ 9223372036854775807:=by
 obtain ⟨_,_,_,_,_,_,h,_⟩:=(holdOk_iff _).1 h
 omega
theorem one_valid {x:Hold} {b:Bool} (h:holdOk x=b):validHolds [x]=b:=by
 simp [validHolds,h]
theorem hold_Covers (x:Hold) (A:Option Addr) (c n:Nat) (l:List Link) (t col sq rec dy:Int) (A':Option Addr) (c' n':Nat) (own:List Ident) (nul lst:Bool) (w:World) (hl:SliceIs w w.heap.size Link.cells 10 A l) (hln:l.length=n) (hn:n ≤ 1000000) (hs:Sane l) (hsx:x.who.ns.size ≤ 1000000) (ho:SliceIs w w.heap.size Ident.cells 4 A' own) (hon:own.length=n') (hn':n' ≤ 1000000) {r:Bool} (hr:(holdOk x&&validLinks l&&coversB x l t col own)=r) :
 Calls Tryz.prog 56 #[.agg #[.int .i64 x.table, .int .i64 x.column, .string x.who.ns, .int .i64 x.who.val.kind, .int .i64 x.who.val.num, .string x.who.val.text, .int .i64 x.seq, .int .i64 x.day0, .int .i64 x.day1], .slice A n c, .agg #[.int .i64 t, .int .i64 col, .int .i64 sq, .int .i64 rec, .int .i64 dy, .slice A' n' c', .bool nul, .bool lst]] w fun e w'=>e = .returned (.bool r)∧Below w.heap.size w w':=by
 subst hln hon hr
 have HS:=qh hs
 have HL:=qh hl
 have HO:=qh ho
 clear hs hl ho
 cases hk:holdOk x
 ·have HK:=qh hk
  have HK1:=qh (one_valid hk)
  clear hk
  go_enter_defers Tryz.func56,Tryz.ntmps56
  go_wp2_with (first
   | (go_at_call 46;(with_reducible refine (hold_ValidB _ 1 1 [x] _ ?_ spA omA (saneH_one hsx) HK1.out).mono ?_);(exact Blk.one (enc:=Hold.cells) (x:=x) (Blk.new' (t := 107) spA) spA);rintro e w1 ⟨rfl,hb1⟩;have hx1:Below w.heap.size w w1:=below_nextN belA hb1 leA;obtain ⟨k1,f1,z1⟩:=keepB hb1 w.heap.size ltA;obtain ⟨k2,f2,z2⟩:=keepB hb1 (w.heap.size + 1) ltA)
   | (go_at_call 96;(with_reducible refine (identity_ValidN A c l.length l _ ((HL.out.below hx1).mono hx1.size) rfl hn HS.out HV.out).mono ?_);rintro e w2 ⟨rfl,hb2⟩;have hx2:Below w.heap.size w w2:=below_nextN hx1 hb2 hx1.size;obtain ⟨k3,f3,z3⟩:=keepB hb2 w.heap.size z1;obtain ⟨k4,f4,z4⟩:=keepB hb2 (w.heap.size + 1) z2)
   | (go_at_call 105;(with_reducible refine (hold_covers x A c l.length l t col sq rec dy A' c' own.length own nul lst _ ((HL.out.below hx2).mono hx2.size) rfl hn HS.out hsx (holdOk_seq HK.out) ((HO.out.below hx2).mono hx2.size) rfl hn' HC.out).mono ?_);rintro e w3 ⟨rfl,hb3⟩;have hx3:Below w.heap.size w w3:=below_nextN hx2 hb3 hx2.size))
  refine leaves_cons (f := 109) (args := #[]) spA (by simp [go_sem]) ?_;refine (idle_Covers _).mono ?_;rintro e u' w'' ⟨rfl,rfl,rfl⟩;refine ⟨_,results_tmp rfl _ _ _,?_⟩
  exact ⟨rfl,hx1⟩
 ·have HK:=qh hk
  have HK1:=qh (one_valid hk)
  clear hk
  cases hv:validLinks l
  ·have HV:=qh hv
   clear hv
   go_enter_defers Tryz.func56,Tryz.ntmps56
   go_wp2_with (first
    | (go_at_call 46;(with_reducible refine (hold_ValidB _ 1 1 [x] _ ?_ spA omA (saneH_one hsx) HK1.out).mono ?_);(exact Blk.one (enc:=Hold.cells) (x:=x) (Blk.new' (t := 107) spA) spA);rintro e w1 ⟨rfl,hb1⟩;have hx1:Below w.heap.size w w1:=below_nextN belA hb1 leA;obtain ⟨k1,f1,z1⟩:=keepB hb1 w.heap.size ltA;obtain ⟨k2,f2,z2⟩:=keepB hb1 (w.heap.size + 1) ltA)
    | (go_at_call 96;(with_reducible refine (identity_ValidN A c l.length l _ ((HL.out.below hx1).mono hx1.size) rfl hn HS.out HV.out).mono ?_);rintro e w2 ⟨rfl,hb2⟩;have hx2:Below w.heap.size w w2:=below_nextN hx1 hb2 hx1.size;obtain ⟨k3,f3,z3⟩:=keepB hb2 w.heap.size z1;obtain ⟨k4,f4,z4⟩:=keepB hb2 (w.heap.size + 1) z2)
    | (go_at_call 105;(with_reducible refine (hold_covers x A c l.length l t col sq rec dy A' c' own.length own nul lst _ ((HL.out.below hx2).mono hx2.size) rfl hn HS.out hsx (holdOk_seq HK.out) ((HO.out.below hx2).mono hx2.size) rfl hn' HC.out).mono ?_);rintro e w3 ⟨rfl,hb3⟩;have hx3:Below w.heap.size w w3:=below_nextN hx2 hb3 hx2.size))
   refine leaves_cons (f := 109) (args := #[]) spA (by simp [go_sem]) ?_;refine (idle_Covers _).mono ?_;rintro e u' w'' ⟨rfl,rfl,rfl⟩;refine ⟨_,results_tmp rfl _ _ _,?_⟩
   exact ⟨rfl,hx2⟩
  ·have HV:=qh hv
   clear hv
   obtain ⟨r,hr⟩ : ∃ r,coversB x l t col own=r:=⟨_,rfl⟩
   rw [hr]
   have HC:=qh hr
   clear hr
   go_enter_defers Tryz.func56,Tryz.ntmps56
   go_wp2_with (first
    | (go_at_call 46;(with_reducible refine (hold_ValidB _ 1 1 [x] _ ?_ spA omA (saneH_one hsx) HK1.out).mono ?_);(exact Blk.one (enc:=Hold.cells) (x:=x) (Blk.new' (t := 107) spA) spA);rintro e w1 ⟨rfl,hb1⟩;have hx1:Below w.heap.size w w1:=below_nextN belA hb1 leA;obtain ⟨k1,f1,z1⟩:=keepB hb1 w.heap.size ltA;obtain ⟨k2,f2,z2⟩:=keepB hb1 (w.heap.size + 1) ltA)
    | (go_at_call 96;(with_reducible refine (identity_ValidN A c l.length l _ ((HL.out.below hx1).mono hx1.size) rfl hn HS.out HV.out).mono ?_);rintro e w2 ⟨rfl,hb2⟩;have hx2:Below w.heap.size w w2:=below_nextN hx1 hb2 hx1.size;obtain ⟨k3,f3,z3⟩:=keepB hb2 w.heap.size z1;obtain ⟨k4,f4,z4⟩:=keepB hb2 (w.heap.size + 1) z2)
    | (go_at_call 105;(with_reducible refine (hold_covers x A c l.length l t col sq rec dy A' c' own.length own nul lst _ ((HL.out.below hx2).mono hx2.size) rfl hn HS.out hsx (holdOk_seq HK.out) ((HO.out.below hx2).mono hx2.size) rfl hn' HC.out).mono ?_);rintro e w3 ⟨rfl,hb3⟩;have hx3:Below w.heap.size w w3:=below_nextN hx2 hb3 hx2.size))
   refine leaves_cons (f := 109) (args := #[]) spA (by simp [go_sem]) ?_;refine (idle_Covers _).mono ?_;rintro e u' w'' ⟨rfl,rfl,rfl⟩;refine ⟨_,results_tmp rfl _ _ _,?_⟩
   exact ⟨rfl,hx3⟩
theorem ref19_Blocking (A:Option Addr) (c n:Nat) (hs:List Hold) (AL:Option Addr) (cL nL:Nat) (l:List Link) (t col sq rec dy:Int) (A':Option Addr) (c' n':Nat) (own:List Ident) (nul lst:Bool) (day:Int) (w:World)
 (hh:SliceIs w w.heap.size Hold.cells 9 A hs) (hnh:hs.length=n) (hn32:n ≤ 1000000) (hsh:SaneH hs) (hl:SliceIs w w.heap.size Link.cells 10 AL l) (hnl:l.length=nL) (hnl':nL ≤ 1000000) (hsl:Sane l) (ho:SliceIs w w.heap.size Ident.cells 4 A' own) (hon:own.length=n') (hn':n' ≤ 1000000) :
 Calls Tryz.prog 53 #[.slice A n c, .slice AL nL cL, .agg #[.int .i64 t, .int .i64 col, .int .i64 sq, .int .i64 rec, .int .i64 dy, .slice A' n' c', .bool nul, .bool lst], .int .i64 day] w fun e w' =>
  (∃ v,e = .returned v∧Owns w' w.heap.size 3 intCells 1 v (blocking hs l t col own day))∧Below w.heap.size w w':=by
 subst hnh
 obtain ⟨i0,hi0,hz0,hz1,hz2⟩:=info_parts infoIntT
 have HH:=qh hh
 have HL:=qh hl
 have HO:=qh ho
 have HSH:=qh hsh
 have HSL:=qh hsl
 clear hh hl ho hsh hsl
 cases hvh:validHolds hs
 ·have HVH:=qh hvh
  clear hvh
  go_enter Tryz.func53,Tryz.ntmps53
  go_wp2_with (first
   | (go_at_call 47;(with_reducible refine (ref19_Valid A c hs.length hs _ ((HH.out.below (B:=w.heap.size) belA).mono leA) rfl hn32 HSH.out HVH.out).mono ?_);rintro e w1 ⟨rfl,hb1⟩;have hx1:Below w.heap.size w w1:=below_nextN belA hb1 leA;obtain ⟨k1,f1,z1⟩:=keepB hb1 w.heap.size ltA)
   | (go_at_call 106;(with_reducible refine (ref16_ValidN AL cL nL l _ ((HL.out.below hx1).mono hx1.size) hnl hnl' HSL.out HVL.out).mono ?_);rintro e w2 ⟨rfl,hb2⟩;have hx2:Below w.heap.size w w2:=below_nextN hx1 hb2 hx1.size))
  go_ret
  refine ⟨⟨_,rfl,?_⟩,hx1⟩
  rw [blocking,HVH.out]
  exact Owns.nil
 cases hvl:validLinks l
 ·have HVH:=qh hvh
  have HVL:=qh hvl
  clear hvh hvl
  go_enter Tryz.func53,Tryz.ntmps53
  go_wp2_with (first
   | (go_at_call 47;(with_reducible refine (ref19_Valid A c hs.length hs _ ((HH.out.below (B:=w.heap.size) belA).mono leA) rfl hn32 HSH.out HVH.out).mono ?_);rintro e w1 ⟨rfl,hb1⟩;have hx1:Below w.heap.size w w1:=below_nextN belA hb1 leA;obtain ⟨k1,f1,z1⟩:=keepB hb1 w.heap.size ltA)
   | (go_at_call 106;(with_reducible refine (ref16_ValidN AL cL nL l _ ((HL.out.below hx1).mono hx1.size) hnl hnl' HSL.out HVL.out).mono ?_);rintro e w2 ⟨rfl,hb2⟩;have hx2:Below w.heap.size w w2:=below_nextN hx1 hb2 hx1.size))
  go_ret
  refine ⟨⟨_,rfl,?_⟩,hx2⟩
  rw [blocking,HVH.out,HVL.out]
  exact Owns.nil
 have hok : ∀ x∈hs,holdOk x=true:=by
  simp only [validHolds,Bool.and_eq_true,List.all_eq_true] at hvh
  exact hvh.2
 have hle:hs.length ≤ 32:=by
  simp only [validHolds,Bool.and_eq_true,decide_eq_true_eq] at hvh
  exact hvh.1
 have HOK:=qh hok
 have HVH:=qh hvh
 have HVL:=qh hvl
 clear hvh hvl hok
 go_enter Tryz.func53,Tryz.ntmps53
 go_upto_region 3 with (first
  | (go_at_call 47;(with_reducible refine (ref19_Valid A c hs.length hs _ ((HH.out.below (B:=w.heap.size) belA).mono leA) rfl hn32 HSH.out HVH.out).mono ?_);rintro e w1 ⟨rfl,hb1⟩;have hx1:Below w.heap.size w w1:=below_nextN belA hb1 leA;obtain ⟨k1,f1,z1⟩:=keepB hb1 w.heap.size ltA)
  | (go_at_call 106;(with_reducible refine (ref16_ValidN AL cL nL l _ ((HL.out.below hx1).mono hx1.size) hnl hnl' HSL.out HVL.out).mono ?_);rintro e w2 ⟨rfl,hb2⟩;have hx2:Below w.heap.size w w2:=below_nextN hx1 hb2 hx1.size))
 refine abs_world (P:=fun u=>Code.wp _ _ _ _ u) (R:=fun u=>Blk u w.heap.size 55 #[.int .i64 t, .int .i64 col, .int .i64 sq, .int .i64 rec, .int .i64 dy, .slice A' n' c', .bool nul, .bool lst]∧Below w.heap.size w u) ⟨?_,?_⟩ ?_
 ·exact ((Blk.new _ _ _).below hb1 spA).below hb2 z1
 ·exact hx2
 clear k1 f1 z1 hb1 hb2 hx1 hx2
 rintro W ⟨hB,hbW⟩
 have hzW:=hB.lt
 have HB:=qh hB
 clear hB
 go_wp2_with fail
 go_loopw [9,10] (fun vo vi wr => ∃ m:Nat,m≤hs.length∧vi = .int .i64 m∧Owns wr W.heap.size 3 intCells 1 vo (blockTo hs l t col own day m)∧Below W.heap.size W wr) (fun _ vi _=>hs.length - (intOf vi).toNat)
 case atStart=>exact ⟨0,Nat.zero_le _,rfl,Owns.nil,Below.refl _ _⟩
 case round =>
  obtain ⟨m,hm,rfl,hown,hbr⟩:=hrel
  have hwz:=hbr.size
  have hxr:=below_nextN hbW hbr hbW.size
  have hzr:=hxr.size
  by_cases hlt:m<hs.length
  ·obtain ⟨b5,o5,rfl,hb5,hc5⟩:=(HH.out.below hxr).get hlt
   obtain ⟨h0,h1,⟨h2,h3,h4,h5⟩,h6,h7,h8⟩:=Hold.cells9 hc5
   obtain ⟨q0,q1,q2,q3,q4,q5,q6,q7⟩:=Owned.blk (HB.out.below hbr hzW)
   have hsm:=HSH.out hs[m] (List.getElem_mem hlt)
   have HK5:=qh (HOK.out hs[m] (List.getElem_mem hlt))
   have HLW:=qh (HL.out.next hxr)
   have HOW:=qh (HO.out.next hxr)
   have hk0:=keepQ (w:=wr) b5 omA
   have hk1:=keepQ (w:=wr) w.heap.size omA
   have HOWN:=qh hown
   have hrow:=hown.row
   have hbl:=blockTo_len hs l t col own day m
   clear hc5 hown
   cases ha:activeOn hs[m] day
   ·have HA:=qh ha
    have HCV:Hid (coversB hs[m] l t col own=coversB hs[m] l t col own):=qh rfl
    clear ha
    go_upto_region 7 with (fail)
    refine wp_region_bel krA krA ?_;(repeat (go_big_quiet_step ((first
     | (go_at_call 59;with_reducible exact bel_of_ext (ref19_Active hs[m] day _ HA.out))
     | (go_at_call 107;with_reducible exact bel_of (ref19_covers hs[m] AL cL nL l t col sq rec dy A' c' n' own nul lst _ HK5.out (HLW.out.next (BelOf.h _)) hnl hnl' HSL.out hsm (HOW.out.next (BelOf.h _)) hon hn' HCV.out))))));refine wpQuiet_nil ?_;intro wq hq
    clear hk0 hk1
    go_wp2_with fail
    go_roundw
    case rel=>exact ⟨m + 1,by omega,by go_num,by rw [blockTo_step hlt,HA.out];exact HOWN.out.below hq (Nat.le_refl _),below_nextN hbr hq hwz⟩
    case measure=>simp [intOf];omega
   ·cases hcv:coversB hs[m] l t col own
    ·have HA:=qh ha
     have HCV:=qh hcv
     clear ha hcv
     go_upto_region 7 with (fail)
     refine wp_region_bel krA krA ?_;(repeat (go_big_quiet_step ((first
      | (go_at_call 59;with_reducible exact bel_of_ext (ref19_Active hs[m] day _ HA.out))
      | (go_at_call 107;with_reducible exact bel_of (ref19_covers hs[m] AL cL nL l t col sq rec dy A' c' n' own nul lst _ HK5.out (HLW.out.next (BelOf.h _)) hnl hnl' HSL.out hsm (HOW.out.next (BelOf.h _)) hon hn' HCV.out))))));refine wpQuiet_nil ?_;intro wq hq
     clear hk0 hk1
     go_wp2_with fail
     go_roundw
     case rel=>exact ⟨m + 1,by omega,by go_num,by rw [blockTo_step hlt,HA.out,HCV.out];exact HOWN.out.below hq (Nat.le_refl _),below_nextN hbr hq hwz⟩
     case measure=>simp [intOf];omega
    ·have HA:=qh ha
     have HCV:=qh hcv
     clear ha hcv
     go_upto_region 7 with (fail)
     refine wp_region_bel krA krA ?_;(repeat (go_big_quiet_step ((first
      | (go_at_call 59;with_reducible exact bel_of_ext (ref19_Active hs[m] day _ HA.out))
      | (go_at_call 107;with_reducible exact bel_of (ref19_covers hs[m] AL cL nL l t col sq rec dy A' c' n' own nul lst _ HK5.out (HLW.out.next (BelOf.h _)) hnl hnl' HSL.out hsm (HOW.out.next (BelOf.h _)) hon hn' HCV.out))))));refine wpQuiet_nil ?_;intro wq hq
     clear hk0 hk1
     have hqz:=hq.size
     have hO2:Owns (wq.alloc (.cells #[.int .i64 (m:Int)] 3)) W.heap.size 3 intCells 1 u9 (blockTo hs l t col own day m):=(HOWN.out.below hq (Nat.le_refl _)).alloc _
     have hone:SliceIs (wq.alloc (.cells #[.int .i64 (m:Int)] 3)) (wq.alloc (.cells #[.int .i64 (m:Int)] 3)).heap.size intCells 1 (some ⟨wq.heap.size,0,none⟩) [(m:Int)]:=Blk.one (enc:=intCells) (x:=(m:Int)) (Blk.new' rfl) spA
     have HO2:=qh hO2
     have HONE:=qh hone
     clear hO2 hone
     go_wp2_with (at_builtin;go_must ((refine wpList_append_list _ rfl (.tmp 40) (.tmp 42) 22 rfl 3 i0 _ intCells 1 8 Tryz.underlying22 hi0 hz0 hz1 hz2 rfl omA int_len int_one W.heap.size u9 (blockTo hs l t col own day m) rfl HO2.out _ _ _ [(m:Int)] rfl rfl HONE.out smA mxA smA ?_);intro v' w3 hown' hg' hat';have HOWN':=qh hown';clear hown';have hbel:Below W.heap.size W w3:=Below.grown ((below_nextN hbr hq hwz).alloc omA _) hg' smA (fun q e=>by have:=hrow q e;omega)))
     go_roundw
     case rel=>exact ⟨m + 1,by omega,by go_num,by rw [blockTo_step hlt,HA.out,HCV.out];exact HOWN'.out,hbel⟩
     case measure=>simp [intOf];omega
  ·have hlt':decide (m<hs.length)=false:=by simpa using hlt
   obtain rfl:m=hs.length:=by omega
   go_wp2_with fail
   go_ret
   refine ⟨⟨_,rfl,?_⟩,hxr⟩
   rw [blocking,HVH.out,HVL.out]
   exact hown.mono hbW.size
theorem UntilOut.unique {cov:List Hold} {day r r':Int} (h:UntilOut cov day r) (h':UntilOut cov day r'):r=r':=by
 obtain ⟨u,hu,hf,rfl⟩:=h
 obtain ⟨u',hu',hf',rfl⟩:=h'
 have e:u=u':=by
  rcases Int.lt_trichotomy u u' with k|k|k
  ·obtain ⟨x,hx,ha⟩:=hu'.held u hu.le k
   rw [hf x hx] at ha
   cases ha
  ·exact k
  ·obtain ⟨x,hx,ha⟩:=hu.held u' hu'.le k
   rw [hf' x hx] at ha
   cases ha
 rw [e]
theorem mem_block {hs:List Hold} {l:List Link} {t c:Int} {own:List Ident} {day:Int} {m:Nat} {i:Int}:i∈blockTo hs l t c own day m ↔ ∃ k:Nat,i=(k:Int)∧k<m ∧ ∃ h:k<hs.length,(activeOn hs[k] day&&coversB hs[k] l t c own)=true:=by
 unfold blockTo
 rw [List.mem_map]
 constructor
 ·rintro ⟨k,hk,rfl⟩
  rw [List.mem_filter,List.mem_range] at hk
  obtain ⟨h1,h2⟩:=hk
  refine ⟨k,rfl,h1,?_⟩
  cases h:hs[k]? with
  | none=>rw [h] at h2;cases h2
  | some x =>
    obtain ⟨hl,rfl⟩:=List.getElem?_eq_some_iff.1 h
    rw [h] at h2
    exact ⟨hl,h2⟩
 ·rintro ⟨k,rfl,h1,h2,h3⟩
  refine ⟨k,?_,rfl⟩
  rw [List.mem_filter,List.mem_range]
  refine ⟨h1,?_⟩
  rw [List.getElem?_eq_getElem h2]
  exact h3
theorem block_get {hs:List Hold} {l:List Link} {t c:Int} {own:List Ident} {day u:Int} (hu:day≤u) {j:Nat} (hj:j<(blockTo hs l t c own u hs.length).length) : ∃ k:Nat,∃ h:k<hs.length,(blockTo hs l t c own u hs.length)[j]=(k:Int)∧hs[k]∈covering hs l t c own day∧activeOn hs[k] u=true:=by
 obtain ⟨k,e,_,hk,h⟩:=mem_block.1 (List.getElem_mem hj)
 simp only [Bool.and_eq_true] at h
 refine ⟨k,hk,e,?_,h.1⟩
 unfold covering
 rw [List.mem_filter]
 refine ⟨List.getElem_mem hk,?_⟩
 have:=(active_iff.1 h.1).2
 rw [h.2,Bool.and_true]
 simp
 omega
theorem block_free {hs:List Hold} {l:List Link} {t c:Int} {own:List Ident} {day u:Int} (h:blockTo hs l t c own u hs.length = []) : ∀ x∈covering hs l t c own day,activeOn x u=false:=by
 intro x hx
 unfold covering at hx
 rw [List.mem_filter] at hx
 obtain ⟨h1,h2⟩:=hx
 obtain ⟨k,hk,rfl⟩:=List.getElem_of_mem h1
 cases ha:activeOn hs[k] u
 ·rfl
 ·simp only [Bool.and_eq_true] at h2
  have:(k:Int)∈blockTo hs l t c own u hs.length:=mem_block.2 ⟨k,rfl,hk,hk,by rw [ha,h2.2];rfl⟩
  rw [h] at this
  cases this
structure FInv (hs cov:List Hold) (bl:List Int) (u e:Int) (m:Nat):Prop where
 le:u≤e
 at_:e=u ∨ ∃ x∈cov,activeOn x u=true∧x.day1=e
 all : ∀ i (h:i<bl.length),i<m → ∀ k:Nat,∀ hk:k<hs.length,bl[i]=(k:Int)→hs[k].day1≤e
theorem FInv.take {hs cov:List Hold} {bl:List Int} {u e:Int} {m k:Nat} (h:FInv hs cov bl u e m) (hm:m<bl.length) (hk:k<hs.length) (hb:bl[m]=(k:Int)) (hc:hs[k]∈cov) (ha:activeOn hs[k] u=true):FInv hs cov bl u (max e hs[k].day1) (m + 1):=by
 have hl:=h.le
 have hall : ∀ i (h:i<bl.length),i<m + 1 → ∀ k':Nat,∀ hk:k'<hs.length,bl[i]=(k':Int)→hs[k'].day1≤e∨hs[k'].day1=hs[k].day1:=by
  intro i hi him k' hk' hb'
  rcases Nat.lt_or_ge i m with q|q
  ·exact .inl (h.all i hi q k' hk' hb')
  ·obtain rfl:i=m:=by omega
   have:k'=k:=by rw [hb] at hb';omega
   subst this
   exact .inr rfl
 rcases Int.le_total e hs[k].day1 with hg|hg
 ·rw [Int.max_eq_right hg]
  refine ⟨by omega, .inr ⟨hs[k],hc,ha,rfl⟩,fun i hi him k' hk' hb' => ?_⟩
  rcases hall i hi him k' hk' hb' with q|q <;> omega
 ·rw [Int.max_eq_left hg]
  refine ⟨hl,h.at_,fun i hi him k' hk' hb' => ?_⟩
  rcases hall i hi him k' hk' hb' with q|q <;> omega
theorem FInv.go {hs cov:List Hold} {bl:List Int} {day u e:Int} {m:Nat} (h:FInv hs cov bl u e m) (hu:UInv cov day u):UInv cov day e:=by
 have h1:=h.le
 have h2:=hu.le
 refine ⟨by omega,fun d hd hde => ?_⟩
 rcases Int.lt_or_le d u with k|k
 ·exact hu.held d hd k
 ·rcases h.at_ with e1|⟨x,hx,ha,hxe⟩
  ·omega
  ·have:=active_iff.1 ha
   exact ⟨x,hx,active_iff.2 ⟨by omega,by omega⟩⟩
theorem ref19_Until (A:Option Addr) (c n:Nat) (hs:List Hold) (AL:Option Addr) (cL nL:Nat) (l:List Link) (t col sq rec dy:Int) (A':Option Addr) (c' n':Nat) (own:List Ident) (nul lst:Bool) (day:Int) (w:World)
 (hh:SliceIs w w.heap.size Hold.cells 9 A hs) (hnh:hs.length=n) (hn32:n ≤ 1000000) (hsh:SaneH hs) (hl:SliceIs w w.heap.size Link.cells 10 AL l) (hnl:l.length=nL) (hnl':nL ≤ 1000000) (hsl:Sane l) (ho:SliceIs w w.heap.size Ident.cells 4 A' own) (hon:own.length=n') (hn':n' ≤ 1000000) :
 Calls Tryz.prog 55 #[.slice A n c, .slice AL nL cL, .agg #[.int .i64 t, .int .i64 col, .int .i64 sq, .int .i64 rec, .int .i64 dy, .slice A' n' c', .bool nul, .bool lst], .int .i64 day] w fun e w' =>
  (∃ r,e = .returned (.int .i64 r)∧if (validHolds hs&&validLinks l)=true then UntilOut (covering hs l t col own day) day r else r = 0)∧Below w.heap.size w w':=by
 subst hnh hnl hon
 have HH:=qh hh
 have HL:=qh hl
 have HO:=qh ho
 have HSH:=qh hsh
 have HSL:=qh hsl
 clear hh hl ho hsh hsl
 by_cases hv:(validHolds hs&&validLinks l)=true
 ·have hble : ∀ u,blocking hs l t col own u=blockTo hs l t col own u hs.length:=fun u=>by rw [blocking,if_pos hv]
  have hok : ∀ x∈hs,holdOk x=true:=by
   simp only [validHolds,Bool.and_eq_true,List.all_eq_true] at hv
   exact hv.1.2
  have HOK:=qh hok
  have HV:=qh hv
  have HBL:=qh hble
  have hlen : ∀ u,(blockTo hs l t col own u hs.length).length≤hs.length:=fun u=>blockTo_len hs l t col own u hs.length
  have HLEN:=qh hlen
  clear hv hble hok hlen
  go_enter Tryz.func55,Tryz.ntmps55
  go_wp2_with fail
  (with_reducible refine (ref19_Blocking A c hs.length hs AL cL l.length l t col sq rec dy A' c' own.length own nul lst day _ ((HH.out.below (B:=w.heap.size) belA).mono leA) rfl hn32 HSH.out ((HL.out.below (B:=w.heap.size) belA).mono leA) rfl hnl' HSL.out ((HO.out.below (B:=w.heap.size) belA).mono leA) rfl hn').mono ?_)
  rintro e W ⟨⟨v1,rfl,hown1⟩,hb1⟩
  have hx1:Below w.heap.size w W:=below_nextN belA hb1 leA
  have hB:Blk W w.heap.size 55 #[.int .i64 t, .int .i64 col, .int .i64 sq, .int .i64 rec, .int .i64 dy, .slice A' own.length c', .bool nul, .bool lst]:=(Blk.new _ _ _).below hb1 spA
  have hzW:=hB.lt
  have HB:=qh hB
  rw [HBL.out] at hown1
  obtain ⟨A1,c1,rfl,hc1,hs1,hA1⟩:=hown1.slice int_len
  have HS1:=qh hs1
  clear hB hb1 hown1 hs1 hc1 hA1
  by_cases h0:(blockTo hs l t col own day hs.length).length = 0
  ·have h0':(((blockTo hs l t col own day hs.length).length:Int) == 0)=true:=by rw [h0];rfl
   have HF:=qh (block_free (day:=day) (List.eq_nil_of_length_eq_zero h0))
   clear h0
   go_wp2_with fail
   go_ret
   exact ⟨⟨0,rfl,day,⟨Int.le_refl _,fun d h1 h2=>by omega⟩,HF.out,by rw [if_pos rfl]⟩,hx1⟩
  ·have h0':(((blockTo hs l t col own day hs.length).length:Int) == 0)=false:=by rw [beq_eq_false_iff_ne];omega
   have H0:=qh h0
   clear h0
   go_wp2_with fail
   clear h0'
   go_loopw [3,9] (fun vu vl wr => ∃ (u:Int) (A2:Option Addr) (c2:Nat),vu = .int .i64 u∧vl = .slice A2 (blockTo hs l t col own u hs.length).length c2∧SliceIs wr wr.heap.size intCells 1 A2 (blockTo hs l t col own u hs.length)∧UInv (covering hs l t col own day) day u∧(u=day → ¬ (blockTo hs l t col own u hs.length).length = 0)∧Below W.heap.size W wr) (fun vu _ _=>(1048576 - intOf vu).toNat)
   case atStart=>exact ⟨day,A1,c1,rfl,rfl,HS1.out,⟨Int.le_refl _,fun d h1 h2=>by omega⟩,fun _=>H0.out,Below.refl _ _⟩
   case round =>
    obtain ⟨u,A2,c2,rfl,rfl,hs2,hui,hne,hbr⟩:=hrel
    have hxr:=below_nextN hx1 hbr hx1.size
    have hzr:=hxr.size
    have hwz:=hbr.size
    obtain ⟨q0,q1,q2,q3,q4,q5,q6,q7⟩:=Owned.blk (HB.out.below hbr hzW)
    have hl2:=HLEN.out u
    have HUI:=qh hui
    have HNE:=qh hne
    have HS2:=qh hs2
    clear hui hne hs2
    by_cases hbe:(blockTo hs l t col own u hs.length).length = 0
    ·have hbe':decide (0<(blockTo hs l t col own u hs.length).length)=false:=by rw [hbe];rfl
     have HF:=qh (block_free (day:=day) (List.eq_nil_of_length_eq_zero hbe))
     have hud : ¬ u=day:=fun e=>HNE.out e hbe
     have HUD:=qh hud
     clear hbe hud
     go_wp2_with fail
     go_ret
     exact ⟨⟨u,rfl,u,HUI.out,HF.out,by rw [if_neg HUD.out]⟩,hxr⟩
    ·have hbe':decide (0<(blockTo hs l t col own u hs.length).length)=true:=by simpa using Nat.pos_of_ne_zero hbe
     have HBE:=qh (Nat.pos_of_ne_zero hbe)
     clear hbe
     obtain ⟨wp,rfl⟩ : ∃ wp:World,wp=wr:=⟨_,rfl⟩
     go_wp2_with fail
     clear hbe'
     go_loopw [3,10] (fun ve vi wr => ∃ (e:Int) (k:Nat),k≤(blockTo hs l t col own u hs.length).length∧ve = .int .i64 e∧vi = .int .i64 k∧FInv hs (covering hs l t col own day) (blockTo hs l t col own u hs.length) u e k∧wp=wr) (fun _ vi _=>(blockTo hs l t col own u hs.length).length - (intOf vi).toNat)
     case atStart=>exact ⟨u,0,Nat.zero_le _,rfl,rfl,⟨Int.le_refl _, .inl rfl,fun i _ h=>by omega⟩,rfl⟩
     case round =>
      obtain ⟨e,k,hk,rfl,rfl,hfi,rfl⟩:=hrel
      have HFI:=qh hfi
      clear hfi
      by_cases hkl:k<(blockTo hs l t col own u hs.length).length
      ·obtain ⟨b5,o5,rfl,hb5,hc5⟩:=HS2.out.get hkl
       obtain ⟨j,hj,hbj,hjc,hja⟩:=block_get HUI.out.le hkl
       have x0:=hc5 0 _ rfl
       simp only [Nat.mul_one,Nat.add_zero] at x0
       rw [hbj] at x0
       obtain ⟨b6,o6,rfl,hb6,hc6⟩:=(HH.out.below hxr).get hj
       obtain ⟨g0,g1,⟨g2,g3,g4,g5⟩,g6,g7,g8⟩:=Hold.cells9 hc6
       have HT:=qh (HFI.out.take hkl hj hbj hjc hja)
       clear hc5 hc6 hbj hjc hja
       go_wp2_with fail
       go_roundw
       case rel=>exact ⟨max e hs[j].day1,k + 1,by omega,rfl,by go_num,HT.out,trivial⟩
       case measure=>simp [intOf];omega
      ·have hkl':decide (k<(blockTo hs l t col own u hs.length).length)=false:=by simpa using hkl
       obtain rfl:k=(blockTo hs l t col own u hs.length).length:=by omega
       have hle:u<e∧e ≤ 1048576:=by
        obtain ⟨j,hj,hbj,hjc,hja⟩:=block_get HUI.out.le HBE.out
        have h1:=HFI.out.all 0 HBE.out HBE.out j hj hbj
        have h2:=(active_iff.1 hja).2
        refine ⟨by omega,?_⟩
        rcases HFI.out.at_ with h|⟨x,hx,_,h⟩
        ·omega
        ·rw [← h]
         have:=(holdOk_iff x).1 (HOK.out x (List.mem_filter.1 hx).1)
         exact this.2.2.2.2.2.2.2.2.2.2
       obtain ⟨hle1,hle2⟩:=hle
       go_wp2_with fail
       (with_reducible refine (ref19_Blocking A c hs.length hs AL cL l.length l t col sq rec dy A' c' own.length own nul lst e _ (HH.out.next hxr) rfl hn32 HSH.out (HL.out.next hxr) rfl hnl' HSL.out (HO.out.next hxr) rfl hn').mono ?_)
       rintro e' w5 ⟨⟨v5,rfl,hown5⟩,hb5⟩
       rw [HBL.out] at hown5
       obtain ⟨A5,c5,rfl,hc5,hs5,hA5⟩:=hown5.slice int_len
       have HS5:=qh hs5
       clear hown5 hs5 hc5 hA5
       go_wp2_with fail
       go_roundw
       case rel=>exact ⟨e,A5,c5,rfl,rfl,HS5.out,HFI.out.go HUI.out,fun h=>by have:=HUI.out.le;omega,below_nextN hbr hb5 hwz⟩
       case measure=>simp [intOf];omega
 ·have hble:blocking hs l t col own day = []:=by rw [blocking,if_neg hv]
  have HBL:=qh hble
  have HV:=qh hv
  clear hv hble
  go_enter Tryz.func55,Tryz.ntmps55
  go_wp2_with fail
  (with_reducible refine (ref19_Blocking A c hs.length hs AL cL l.length l t col sq rec dy A' c' own.length own nul lst day _ ((HH.out.below (B:=w.heap.size) belA).mono leA) rfl hn32 HSH.out ((HL.out.below (B:=w.heap.size) belA).mono leA) rfl hnl' HSL.out ((HO.out.below (B:=w.heap.size) belA).mono leA) rfl hn').mono ?_)
  rintro e W ⟨⟨v1,rfl,hown1⟩,hb1⟩
  have hx1:Below w.heap.size w W:=below_nextN belA hb1 leA
  rw [HBL.out] at hown1
  obtain ⟨A1,c1,rfl,hc1,hs1,hA1⟩:=hown1.slice int_len
  clear hown1 hs1 hc1 hA1
  go_wp2_with fail
  go_ret
  exact ⟨rfl,hx1⟩
structure Owned where
 table:Int
 col:Int
 seq:Int
 record:Int
 day:Int
 A:Option Addr
 cap:Nat
 own:List Ident
 null:Bool
 last:Bool
def Owned.cells (x:Owned):List Value := [.int .i64 x.table, .int .i64 x.col, .int .i64 x.seq, .int .i64 x.record, .int .i64 x.day, .slice x.A x.own.length x.cap, .bool x.null, .bool x.last]
theorem owned_len : ∀ x:Owned,(Owned.cells x).length = 8:=fun _=>rfl
theorem owned_one : ∀ x:Owned,∀ u∈Owned.cells x,u.oneCell'=true:=by
 intro x u hu
 simp only [Owned.cells,List.mem_cons,List.not_mem_nil,or_false] at hu
 rcases hu with rfl|rfl|rfl|rfl|rfl|rfl|rfl|rfl <;> rfl
theorem infoOwned:(Tryz.prog.info? 55).map (fun i=>(i.zero,i.size,i.bytes))=some (some (.agg #[.int .i64 0, .int .i64 0, .int .i64 0, .int .i64 0, .int .i64 0, .slice none 0 0, .bool false, .bool false]),8,72):=by kernel_rfl
theorem Owned.cells8 {w:World} {b o:Nat} {x:Owned} (h : ∀ j u,x.cells[j]? = some u→w.cell? ⟨b,o+j,none⟩=some u) :
 w.cell? ⟨b,o,none⟩=some (.int .i64 x.table)∧w.cell? ⟨b,o + 1,none⟩=some (.int .i64 x.col)∧w.cell? ⟨b,o + 2,none⟩=some (.int .i64 x.seq)∧w.cell? ⟨b,o + 3,none⟩=some (.int .i64 x.record)∧w.cell? ⟨b,o + 4,none⟩=some (.int .i64 x.day)∧w.cell? ⟨b,o + 5,none⟩=some (.slice x.A x.own.length x.cap)∧w.cell? ⟨b,o + 6,none⟩=some (.bool x.null)∧w.cell? ⟨b,o + 7,none⟩=some (.bool x.last) :=
 ⟨h 0 _ rfl,h 1 _ rfl,h 2 _ rfl,h 3 _ rfl,h 4 _ rfl,h 5 _ rfl,h 6 _ rfl,h 7 _ rfl⟩
def OwnersIn (w:World) (B:Nat) (l:List Owned):Prop := ∀ x∈l,SliceIs w B Ident.cells 4 x.A x.own∧x.own.length ≤ 1000000
theorem OwnersIn.below {w w':World} {B:Nat} {l:List Owned} (h:OwnersIn w B l) (hb:Below B w w'):OwnersIn w' B l:=fun x hx=>⟨(h x hx).1.below hb,(h x hx).2⟩
theorem OwnersIn.mono {w:World} {B B':Nat} {l:List Owned} (h:OwnersIn w B l) (hb:B≤B'):OwnersIn w B' l:=fun x hx=>⟨(h x hx).1.mono hb,(h x hx).2⟩
theorem OwnersIn.next {w w':World} {l:List Owned} (h:OwnersIn w w.heap.size l) (hb:Below w.heap.size w w'):OwnersIn w' w'.heap.size l:=(h.below hb).mono hb.size
def srcOf (x:Owned):Src:=⟨x.table,x.record⟩
theorem insertion_nil (f:Value) (w:World) :
 Calls Tryz.prog 178 #[.slice none 0 0, .int .i64 0, .int .i64 0,f] w fun e w'=>e = .returned (.tuple #[])∧w=w':=by
 go_enter Tryz.func178,Tryz.ntmps178
 go_wp2_with fail
 go_loopw [8] (fun vi wr=>vi = .int .i64 1∧w=wr) (fun _ _ => 0)
 case atStart=>exact ⟨rfl,rfl⟩
 case round =>
  obtain ⟨rfl,rfl⟩:=hrel
  go_wp2_with fail
  first|go_end0|(refine bodyPost_ret (results_none rfl _ _ _) rfl ?_)
  exact ⟨rfl,rfl⟩
theorem pdq_nil (f:Value) (w:World) :
 Calls Tryz.prog 130 #[.slice none 0 0, .int .i64 0, .int .i64 0, .int .i64 0,f] w fun e w'=>e = .returned (.tuple #[])∧w=w':=by
 go_enter Tryz.func130,Tryz.ntmps130
 go_wp2_with fail
 go_loopw [1,2,3,10,11] (fun va vb vc vd ve wr=>va = .int .i64 0∧vb = .int .i64 0∧vc = .int .i64 0∧vd = .bool true∧ve = .bool true∧w=wr) (fun _ _ _ _ _ _ => 0)
 case atStart=>exact ⟨rfl,rfl,rfl,rfl,rfl,rfl⟩
 case round =>
  obtain ⟨rfl,rfl,rfl,rfl,rfl,rfl⟩:=hrel
  go_wp2_with (go_at_call 178;(with_reducible refine (insertion_nil _ _).mono ?_);rintro e w1 ⟨rfl,rfl⟩)
  first|go_end0|(refine bodyPost_ret (results_none rfl _ _ _) rfl ?_)
  exact ⟨rfl,rfl⟩
theorem sort_nil (w:World) :
 Calls Tryz.prog 75 #[.slice none 0 0, .func (.func 157) #[] #[]] w fun e w'=>e = .returned (.tuple #[])∧w=w':=by
 go_enter Tryz.func75,Tryz.ntmps75
 go_wp2_with (first
  | (go_at_call 131;(with_reducible refine (Tryz.bits_Len 0 _ omA omA).mono ?_);rintro e w1 ⟨rfl,rfl⟩)
  | (go_at_call 130;(refine (pdq_nil _ _).mono ?_);rintro e w1 ⟨rfl,rfl⟩))
 first|go_end0|(refine bodyPost_ret (results_none rfl _ _ _) rfl ?_)
 exact ⟨rfl,rfl⟩
theorem compact_nil (w:World) :
 Calls Tryz.prog 158 #[.slice none 0 0] w fun e w'=>e = .returned (.slice none 0 0)∧w=w':=by
 go_enter Tryz.func158,Tryz.ntmps158
 go_wp2_with fail
 go_ret
 exact ⟨rfl,rfl⟩
theorem records_spec {l:List Owned} {l':List Src} (hp:l'.Perm (l.map srcOf)) (hs:l'.Pairwise (fun a b=>lessS a b∨a=b)):AscS (dedupE l')∧(∀ s,s∈dedupE l' ↔ ∃ x∈l,srcOf x=s) :=
 ⟨dedupE_asc (lt:=lessS) lessS_trans hs,fun s=>by rw [dedupE_mem (lt:=lessS) lessS_trans hs,hp.mem_iff,List.mem_map]⟩
theorem sort_srcN (base g c n:Nat) (l:List Src) (w:World) (hln:l.length=n) (h:Owns w base 68 Src.cells 2 (.slice (some ⟨g,0,none⟩) n c) l) (hn:n ≤ 1000000) :
 Calls Tryz.prog 75 #[.slice (some ⟨g,0,none⟩) n c, .func (.func 157) #[] #[]] w fun e w' =>
  e = .returned (.tuple #[]) ∧ ∃ l':List Src,l'.Perm l∧l'.Pairwise (fun a b=>lessS a b∨a=b)∧Owns w' base 68 Src.cells 2 (.slice (some ⟨g,0,none⟩) n c) l'∧w.grownBy w' (some g):=by
 subst hln
 exact sort_src base g c l w h hn
theorem compact_srcN (base g c n:Nat) (l:List Src) (w:World) (hln:l.length=n) (h:Owns w base 68 Src.cells 2 (.slice (some ⟨g,0,none⟩) n c) l) (hn:n ≤ 1000000) :
 Calls Tryz.prog 158 #[.slice (some ⟨g,0,none⟩) n c] w fun e w' =>
  (∃ v,e = .returned v∧Owns w' base 68 Src.cells 2 v (dedupE l))∧w.grownBy w' (some g):=by
 subst hln
 exact compact_src base g c l w h hn
theorem idle_Records (w:World):CallsD Tryz.prog 156 #[] .returning w fun e u' w'=>e = .returned (.tuple #[])∧u' = .returning∧w'=w:=by
 refine callsD_of_wpS Tryz.func156 rfl fun c₀ cs hu => ?_
 apply wpS_region
 cases c₀
 simp_all [wpOpsS,go_sem,recoverD,Tryz.ntmps156,bodyPostS,results,Tryz.results156]
theorem ownership_Records (A:Option Addr) (c n:Nat) (l:List Owned) (w:World) (hl:SliceIs w w.heap.size Owned.cells 8 A l) (hln:l.length=n) (hn:n ≤ 1000000) :
 Calls Tryz.prog 102 #[.slice A n c] w fun e w' =>
  (∃ v out,e = .returned v∧Owns w' w.heap.size 68 Src.cells 2 v out∧AscS out∧(∀ s,s∈out ↔ ∃ x∈l,srcOf x=s))∧Below w.heap.size w w':=by
 subst hln
 obtain ⟨i0,hi0,hz0,hz1,hz2⟩:=info_parts infoSrc
 have HL:=qh hl
 clear hl
 go_enter_defers Tryz.func102,Tryz.ntmps102
 go_wp2_with fail
 go_loopw [3,8] (fun vo vi wr => ∃ m:Nat,m≤l.length∧vi = .int .i64 m∧Owns wr w.heap.size 68 Src.cells 2 vo ((l.take m).map srcOf)∧Below w.heap.size w wr) (fun _ vi _=>l.length - (intOf vi).toNat)
 case atStart=>exact ⟨0,Nat.zero_le _,rfl,Owns.nil,by exact belA⟩
 case round =>
  obtain ⟨m,hm,rfl,hown,hbr⟩:=hrel
  have hwz:=hbr.size
  by_cases hlt:m<l.length
  ·obtain ⟨b5,o5,rfl,hb5,hc5⟩:=(HL.out.below hbr).get hlt
   obtain ⟨h0,h1,h2,h3,h4,h5,h6,h7⟩:=Owned.cells8 hc5
   have HOWN:=qh hown
   have hrow:=hown.row
   have hml:((l.take m).map srcOf).length=m:=by simp;omega
   have HML:=qh hml
   clear hc5 hown hml
   go_upto_region 6 with (fail)
   have hO2:=qh (((HOWN.out.alloc (.cells l[m].cells.toArray 55)).alloc (.cells (srcOf l[m]).cells.toArray 68)))
   go_wp2_with (at_builtin;go_must ((refine wpList_append_list _ rfl (.tmp 12) (.tmp 19) 64 rfl 68 i0 _ Src.cells 2 16 Tryz.underlying64 hi0 hz0 hz1 hz2 rfl omA src_len src_one w.heap.size u3 ((l.take m).map srcOf) rfl hO2.out _ _ _ [srcOf l[m]] rfl rfl (Blk.one (enc:=Src.cells) (x:=srcOf l[m]) (Blk.new' spA) spA) (by rw [HML.out];simp;omega) (by rw [HML.out];simp [maxLen];omega) smA ?_);intro v' w3 hown' hg' hat';have HOWN':=qh hown';clear hown';have hbel:Below w.heap.size w w3:=Below.grown belA hg' smA (fun q e=>by have:=hrow q e;omega)))
   go_roundw
   case rel=>exact ⟨m + 1,by omega,by go_num,by rw [List.take_succ_eq_append_getElem hlt,List.map_append];exact HOWN'.out,hbel⟩
   case measure=>simp [intOf];omega
  ·have hlt':decide (m<l.length)=false:=by simpa using hlt
   obtain rfl:m=l.length:=by omega
   rw [List.take_length] at hown
   obtain ⟨xs,hxs⟩ : ∃ xs,l.map srcOf=xs:=⟨_,rfl⟩
   have hxl:xs.length=l.length:=by rw [← hxs,List.length_map]
   rw [hxs] at hown
   have HXS:=qh hxs
   have HXL:=qh hxl
   clear hxs
   have hu:(l.length = 0∧u3 = .slice none 0 0) ∨ ∃ g c5,u3 = .slice (some ⟨g,0,none⟩) l.length c5:=by
    rcases hown.2 with ⟨h,h'⟩|⟨g,cap,cur,h,_⟩
    ·exact .inl ⟨by omega,h⟩
    ·exact .inr ⟨g,cap,by rw [← hxl];exact h⟩
   clear hxl
   rcases hu with ⟨h0,rfl⟩|⟨g,c5,rfl⟩
   ·have HL0:=qh h0
    clear h0 hown
    go_wp2_with (first
     | (go_at_call 75;(with_reducible refine (sort_nil _).mono ?_);rintro e w1 ⟨rfl,rfl⟩)
     | (go_at_call 158;(with_reducible refine (compact_nil _).mono ?_);rintro e w1 ⟨rfl,rfl⟩))
    refine leaves_cons (f := 156) (args := #[]) spA (by simp [go_sem]) ?_;refine (idle_Records _).mono ?_;rintro e u' w'' ⟨rfl,rfl,rfl⟩;refine ⟨_,results_tmp rfl _ _ _,?_⟩
    refine ⟨⟨_,[],rfl,Owns.nil,List.Pairwise.nil,?_⟩,hbr⟩
    obtain rfl:=List.eq_nil_of_length_eq_zero HL0.out
    simp
   ·have HOWN:=qh hown
    clear hown
    go_wp2_with fail
    (with_reducible refine (sort_srcN w.heap.size g c5 l.length xs _ HXL.out HOWN.out hn).mono ?_)
    rintro e w1 ⟨rfl,l',hp,hs,hown1,hg1⟩
    have HLL:=qh (hp.length_eq.trans HXL.out)
    have HO1:=qh hown1
    have HP:=qh hp
    have HS:=qh hs
    clear hown1 hp hs
    have hb1:Below w.heap.size w w1:=Below.grown hbr hg1 hwz (fun q e=>by injection e with e;have:=HOWN.out.row g rfl;omega)
    go_wp2_with fail
    (with_reducible refine (compact_srcN w.heap.size g c5 l.length l' _ HLL.out HO1.out hn).mono ?_)
    rintro e w2 ⟨⟨v2,rfl,hown2⟩,hg2⟩
    have hb2:Below w.heap.size w w2:=Below.grown hb1 hg2 hb1.size (fun q e=>by injection e with e;have:=HO1.out.row g rfl;omega)
    have HO2:=qh hown2
    clear hown2
    go_wp2_with fail
    refine leaves_cons (f := 156) (args := #[]) spA (by simp [go_sem]) ?_;refine (idle_Records _).mono ?_;rintro e u' w'' ⟨rfl,rfl,rfl⟩;refine ⟨_,results_tmp rfl _ _ _,?_⟩
    exact ⟨⟨_,dedupE l',rfl,HO2.out,records_spec (by rw [HXS.out];exact HP.out) HS.out⟩,hb2⟩
theorem ref15_Less (a b:Src) (w:World) {r:Bool} (hr:decide (lessS a b)=r) :
 Calls Tryz.prog 103 #[.agg #[.int .i64 a.tab, .int .i64 a.seq], .agg #[.int .i64 b.tab, .int .i64 b.seq]] w fun e w'=>e = .returned (.bool r)∧Ext w w':=by
 subst hr
 cases h1:decide (a.tab<b.tab)
 ·cases h2:(a.tab==b.tab)
  ·have h2':a.tab≠b.tab:=by simpa using h2
   go_enter Tryz.func103,Tryz.ntmps103
   go_wp2_with fail
   go_ret
   exact ⟨ret_bool (by symm;rw [decide_eq_false_iff_not];unfold lessS;have:=of_decide_eq_false h1;omega),by exact extA⟩
  ·have h2':a.tab=b.tab:=by simpa using h2
   have H2:=qh h2'
   clear h2'
   cases h3:decide (a.seq<b.seq)
   ·go_enter Tryz.func103,Tryz.ntmps103
    go_wp2_with fail
    go_ret
    exact ⟨ret_bool (by symm;rw [decide_eq_false_iff_not];unfold lessS;have:=of_decide_eq_false h1;have:=of_decide_eq_false h3;omega),by exact extA⟩
   ·go_enter Tryz.func103,Tryz.ntmps103
    go_wp2_with fail
    go_ret
    exact ⟨ret_bool (by symm;rw [decide_eq_true_iff];exact .inr ⟨H2.out,of_decide_eq_true h3⟩),by exact extA⟩
 ·go_enter Tryz.func103,Tryz.ntmps103
  go_wp2_with fail
  go_ret
  exact ⟨ret_bool (by symm;rw [decide_eq_true_iff];exact .inl (of_decide_eq_true h1)),by exact extA⟩
theorem compare_same (A A':Option Addr) (c c' n:Nat) (l:List Src) (w:World) (hl:SliceIs w w.heap.size Src.cells 2 A l) (hl':SliceIs w w.heap.size Src.cells 2 A' l) (hln:l.length=n) (hn:n ≤ 1000000) :
 Calls Tryz.prog 94 #[.slice A n c, .slice A' n c'] w fun e w'=>e = .returned (.int .i64 0)∧Below w.heap.size w w':=by
 subst hln
 have HL:=qh hl
 have HL':=qh hl'
 clear hl hl'
 go_enter Tryz.func94,Tryz.ntmps94
 go_wp2_with fail
 go_loopw [5] (fun vi wr => ∃ m:Nat,m≤l.length∧vi = .int .i64 m∧Below w.heap.size w wr) (fun vi _=>l.length - (intOf vi).toNat)
 case atStart=>exact ⟨0,Nat.zero_le _,rfl,by exact belA⟩
 case round =>
  obtain ⟨m,hm,rfl,hbw⟩:=hrel
  have hwz:=hbw.size
  by_cases hlt:m<l.length
  ·obtain ⟨b5,o5,rfl,hb5,hc5⟩:=(HL.out.below hbw).get hlt
   obtain ⟨b6,o6,rfl,hb6,hc6⟩:=(HL'.out.below hbw).get hlt
   obtain ⟨x0,x1⟩:=Src.cells2 hc5
   obtain ⟨y0,y1⟩:=Src.cells2 hc6
   have hk0:=keepQ (w:=wr) b5 omA
   have hk1:=keepQ (w:=wr) b6 omA
   have heq:=eqlSrc_of (x:=l[m]) (y:=l[m]) (decide_eq_true rfl)
   clear hc5 hc6
   go_upto_region 4 with (fail)
   refine wp_region_bel krA krA ?_;(repeat (go_big_quiet_step (fail)));refine wpQuiet_nil ?_;intro wq hq
   clear hk0 hk1 heq
   go_wp2_with fail
   go_roundw
   case rel=>exact ⟨m + 1,by omega,by go_num,below_nextN hbw hq hwz⟩
   case measure=>simp [intOf];omega
  ·have hlt':decide (m<l.length)=false:=by simpa using hlt
   go_wp2_with fail
   go_ret
   exact ⟨rfl,hbw⟩
theorem sources_same (A A':Option Addr) (c c' n:Nat) (l:List Src) (w:World) (hl:SliceIs w w.heap.size Src.cells 2 A l) (hl':SliceIs w w.heap.size Src.cells 2 A' l) (hln:l.length=n) (hn:n ≤ 1000000) :
 Calls Tryz.prog 48 #[.slice A n c, .slice A' n c'] w fun e w'=>e = .returned (.bool true)∧Below w.heap.size w w':=by
 have HL:=qh hl
 have HL':=qh hl'
 have HN:=qh hln
 clear hl hl' hln
 go_enter Tryz.func48,Tryz.ntmps48
 go_wp2_with (go_at_call 94;(with_reducible refine (compare_same A A' c c' n l _ HL.out HL'.out HN.out hn).mono ?_);rintro e w1 ⟨rfl,hb1⟩)
 go_ret
 exact ⟨rfl,hb1⟩
theorem tw_take {α : Type} (p : α → Bool) : ∀ l:List α,l.take (l.takeWhile p).length=l.takeWhile p
 | []=>rfl
 | x::l=>by
   cases h:p x
   ·rw [List.takeWhile_cons_of_neg (by rw [h];decide)]
    rfl
   ·rw [List.takeWhile_cons_of_pos h,List.length_cons,List.take_succ_cons,tw_take p l]
theorem tw_at {α : Type} (p : α → Bool) : ∀ (l:List α) (h:(l.takeWhile p).length<l.length),p l[(l.takeWhile p).length]=false
 | [],h=>by simp at h
 | x::l,h=>by
   cases hx:p x
   ·have e:((x::l).takeWhile p).length = 0:=by rw [List.takeWhile_cons_of_neg (by rw [hx];decide)];rfl
    simp only [e]
    exact hx
   ·have e:((x::l).takeWhile p).length=(l.takeWhile p).length + 1:=by rw [List.takeWhile_cons_of_pos hx];rfl
    have h':(l.takeWhile p).length<l.length:=by rw [e] at h;simpa using h
    have:=tw_at p l h'
    simp only [e]
    exact this
/-! A source put into an ascending list. -/
def posS (l:List Src) (x:Src):Nat:=(l.takeWhile (fun y=>decide (lessS y x))).length
def insS (l:List Src) (x:Src):List Src:=if l[posS l x]? = some x then l else l.take (posS l x)++(x::l.drop (posS l x))
theorem posS_at {l:List Src} {x:Src} {m:Nat} (hm:m≤l.length) (hlo : ∀ j (h:j<l.length),j<m→decide (lessS l[j] x)=true) (hhi : ∀ h:m<l.length,decide (lessS l[m] x)=false):posS l x=m:=takeWhile_len _ l m hm hlo hhi
theorem insS_mem (l:List Src) (x y:Src):y∈insS l x↔y∈l∨y=x:=by
 unfold insS
 split
 ·rename_i h
  have:x∈l:=List.mem_of_getElem? h
  exact ⟨.inl,fun k=>k.elim id (fun e=>by rw [e];exact this)⟩
 ·have e:l=l.take (posS l x)++l.drop (posS l x):=(List.take_append_drop _ _).symm
  have h1:y∈l↔y∈l.take (posS l x)∨y∈l.drop (posS l x):=by
   rw [← List.mem_append,List.take_append_drop]
  rw [h1,List.mem_append,List.mem_cons]
  constructor
  ·rintro (h|h|h)
   ·exact .inl (.inl h)
   ·exact .inr h
   ·exact .inl (.inr h)
  ·rintro ((h|h)|h)
   ·exact .inl h
   ·exact .inr (.inr h)
   ·exact .inr (.inl h)
theorem posS_le (l:List Src) (x:Src):posS l x≤l.length:=List.Sublist.length_le (List.takeWhile_sublist _)
theorem insS_asc {l:List Src} (h:AscS l) (x:Src):AscS (insS l x):=by
 unfold insS
 split
 ·exact h
 ·rename_i hx
  have hlo : ∀ a∈l.take (posS l x),lessS a x:=by
   intro a ha
   have e:l.take (posS l x)=l.takeWhile (fun y=>decide (lessS y x)):=tw_take _ l
   rw [e] at ha
   have:=List.all_takeWhile (p:=fun y=>decide (lessS y x)) (l:=l)
   rw [List.all_eq_true] at this
   simpa using this a ha
  have hhi : ∀ b∈l.drop (posS l x),lessS x b:=by
   have hle:=posS_le l x
   intro b hb
   obtain ⟨i,hi,rfl⟩:=List.getElem_of_mem hb
   have hi':posS l x+i<l.length:=by simp at hi;omega
   have hp:posS l x<l.length:=by omega
   have h0 : ¬ lessS l[posS l x] x:=by
    have e:=tw_at (fun y=>decide (lessS y x)) l hp
    exact of_decide_eq_false e
   have h1:lessS x l[posS l x]:=by
    rcases lessS_tri l[posS l x] x with k|k|k
    ·exact absurd k h0
    ·exact absurd (by rw [List.getElem?_eq_getElem hp,k]) hx
    ·exact k
   rw [List.getElem_drop]
   rcases Nat.eq_zero_or_pos i with rfl|hi0
   ·simpa using h1
   ·exact lessS_trans h1 (List.pairwise_iff_getElem.1 h _ _ hp hi' omA)
  refine List.pairwise_append.2 ⟨h.sublist (List.take_sublist _ _),List.pairwise_cons.2 ⟨hhi,h.sublist (List.drop_sublist _ _)⟩,fun a ha b hb => ?_⟩
  rcases List.mem_cons.1 hb with rfl|hb
  ·exact hlo a ha
  ·exact lessS_trans (hlo a ha) (hhi b hb)
structure Scope where
 g:Nat
 x:Hold
 A:Option Addr
 c:Nat
 o:List Ident
def Scope.cells (s:Scope):List Value := [.pointer (some ⟨s.g,0,none⟩)]
theorem scope_len : ∀ s:Scope,(Scope.cells s).length = 1:=fun _=>rfl
theorem scope_one : ∀ s:Scope,∀ u∈Scope.cells s,u.oneCell'=true:=by
 intro s u hu
 simp only [Scope.cells,List.mem_cons,List.not_mem_nil,or_false] at hu
 subst hu
 rfl
theorem infoScopeP:(Tryz.prog.info? 178).map (fun i=>(i.zero,i.size,i.bytes))=some (some (.pointer none),1,8):=by kernel_rfl
structure ScopeOk (w:World) (B:Nat) (l:List Link) (s:Scope):Prop where
 blk:Blk w s.g 180 (scopeCells s.x (.slice s.A s.o.length s.c))
 lt:s.g<B
 sub:SliceIs w B Ident.cells 4 s.A s.o
 no:s.x.who=noId→s.o = []
 yes:s.x.who≠noId→SubjectOut l s.x.who s.x.seq s.o
theorem ScopeOk.below {w w':World} {B:Nat} {l:List Link} {s:Scope} (h:ScopeOk w B l s) (hb:Below B w w'):ScopeOk w' B l s:=⟨h.blk.below hb h.lt,h.lt,h.sub.below hb,h.no,h.yes⟩
theorem ScopeOk.mono {w:World} {B B':Nat} {l:List Link} {s:Scope} (h:ScopeOk w B l s) (hb:B≤B'):ScopeOk w B' l s:=⟨h.blk,Nat.lt_of_lt_of_le h.lt hb,h.sub.mono hb,h.no,h.yes⟩
def hitB (s:Scope) (t col:Int) (own:List Ident):Bool:=concernsB s.x t col&&(decide (s.x.who=noId)||own.any (fun y=>decide (y∈s.o)))
theorem hit_eq {w:World} {B:Nat} {l:List Link} {s:Scope} (h:ScopeOk w B l s) (t col:Int) (own:List Ident):hitB s t col own=coversB s.x l t col own:=by
 unfold hitB
 cases hc:concernsB s.x t col
 ·rw [coversB,hc]
  rfl
 ·rw [Bool.true_and,covers_eq hc h.no h.yes]
theorem blocked_fn (p:Nat) (s:Scope) (l:List Link) (x:Owned) (w:World) (hs:ScopeOk w w.heap.size l s) (hp:Blk w p 55 #[.int .i64 x.table, .int .i64 x.col, .int .i64 x.seq, .int .i64 x.record, .int .i64 x.day, .slice x.A x.own.length x.cap, .bool x.null, .bool x.last]) (ho:SliceIs w w.heap.size Ident.cells 4 x.A x.own) (hn:x.own.length ≤ 1000000) {r:Bool} (hr:hitB s x.table x.col x.own=r) :
 Calls Tryz.prog 98 #[.pointer (some ⟨s.g,0,none⟩), .pointer (some ⟨p,0,none⟩)] w fun e w' =>
  e = .returned (.bool r)∧Below w.heap.size w w':=by
 subst hr
 obtain ⟨q0,q1,q2,q3,q4,q5,q6,q7⟩:=Owned.blk hp
 have hpl:=hp.lt
 obtain ⟨ha,hv,hol⟩:=scope_good hs.no hs.yes
 have HS:=qh hs
 have HO:=qh ho
 have HP:=qh hp
 have HA:=qh ha
 have HV:=qh hv
 clear hs ho hp ha hv
 cases hc:concernsB s.x x.table x.col
 ·have HC:=qh hc
  clear hc
  go_enter Tryz.func98,Tryz.ntmps98
  go_wp2_with fail
  (with_reducible refine (scope_concerns s.g s.x (.slice s.A s.o.length s.c) x.table x.col x.seq _ HS.out.blk).mono ?_)
  rintro e w1 ⟨rfl,hb1⟩
  rw [HC.out]
  go_wp2_with fail
  go_ret
  exact ⟨ret_bool (by rw [hitB,HC.out];rfl),hb1⟩
 ·have HC:=qh hc
  clear hc
  go_enter Tryz.func98,Tryz.ntmps98
  go_wp2_with fail
  (with_reducible refine (scope_concerns s.g s.x (.slice s.A s.o.length s.c) x.table x.col x.seq _ HS.out.blk).mono ?_)
  rintro e w1 ⟨rfl,hb1⟩
  rw [HC.out]
  obtain ⟨k1,f1,z1⟩:=keepB hb1 p hpl
  go_wp2_with fail
  (with_reducible refine (scope_includes s.g s.x s.A s.c s.o x.A x.cap x.own _ (HS.out.blk.below hb1 HS.out.lt) (HS.out.sub.next hb1) hol HA.out HV.out (HO.out.next hb1) hn).mono ?_)
  rintro e w2 ⟨rfl,hb2⟩
  go_wp2_with fail
  go_ret
  exact ⟨ret_bool (by rw [hitB,HC.out];rfl),below_nextN hb1 hb2 hb1.size⟩
theorem index_scope (p:Nat) (x:Owned) (ll:List Link) (A':Option Addr) (c':Nat) (l:List Scope) (w:World) (hp:Blk w p 55 #[.int .i64 x.table, .int .i64 x.col, .int .i64 x.seq, .int .i64 x.record, .int .i64 x.day, .slice x.A x.own.length x.cap, .bool x.null, .bool x.last]) (ho:SliceIs w w.heap.size Ident.cells 4 x.A x.own) (hn:x.own.length ≤ 1000000) (hl:SliceIs w w.heap.size Scope.cells 1 A' l) (hn':l.length ≤ 1000000) (hok : ∀ s∈l,ScopeOk w w.heap.size ll s) :
 Calls Tryz.prog 155 #[.slice A' l.length c', .func (.func 98) #[] #[.pointer (some ⟨p,0,none⟩)]] w fun e w' =>
  (∃ k:Int,e = .returned (.int .i64 k)∧(0≤k↔l.any (fun s=>hitB s x.table x.col x.own)=true))∧Below w.heap.size w w':=by
 have hpl:=hp.lt
 have HP:=qh hp
 have HO:=qh ho
 have HL:=qh hl
 have HOKS:=qh hok
 clear hp ho hl hok
 go_enter Tryz.func155,Tryz.ntmps155
 go_wp2_with fail
 go_loopw [8] (fun vi wr => ∃ m:Nat,m≤l.length∧vi = .int .i64 m∧Below w.heap.size w wr∧(∀ i (h:i<l.length),i<m→hitB l[i] x.table x.col x.own=false)) (fun vi _=>l.length - (intOf vi).toNat)
 case atStart=>exact ⟨0,Nat.zero_le _,rfl,by exact belA,fun i _ h=>by omega⟩
 case round =>
  obtain ⟨m,hm,rfl,hbw,hok⟩:=hrel
  have HOK:=qh hok
  clear hok
  by_cases hlt:m<l.length
  ·obtain ⟨b,of_,rfl,hb,hc⟩:=(HL.out.below hbw).get hlt
   have x0:=hc 0 _ rfl
   simp only [Nat.mul_one,Nat.add_zero] at x0
   have HSO:=qh (((HOKS.out l[m] (List.getElem_mem hlt)).below hbw).mono hbw.size)
   have HP2:=qh (HP.out.below hbw hpl)
   clear hc
   cases hk:hitB l[m] x.table x.col x.own
   ·have HK:=qh hk
    clear hk
    go_wp2_with (go_at_call 98;(with_reducible refine (blocked_fn p l[m] ll x _ HSO.out HP2.out (HO.out.next hbw) hn HK.out).mono ?_);rintro e w1 ⟨rfl,hb1⟩;have hx1:Below w.heap.size w w1:=below_nextN hbw hb1 hbw.size)
    go_roundw
    case rel=>exact ⟨m + 1,by omega,by go_num,hx1,fun i h hi=>by
     rcases Nat.lt_or_ge i m with h1|h1
     ·exact HOK.out i h h1
     ·obtain rfl:i=m:=by omega
      exact HK.out⟩
    case measure=>simp [intOf];omega
   ·have HK:=qh hk
    clear hk
    go_wp2_with (go_at_call 98;(with_reducible refine (blocked_fn p l[m] ll x _ HSO.out HP2.out (HO.out.next hbw) hn HK.out).mono ?_);rintro e w1 ⟨rfl,hb1⟩;have hx1:Below w.heap.size w w1:=below_nextN hbw hb1 hbw.size)
    go_ret
    refine ⟨⟨_,rfl,fun _ => ?_,fun _=>by omega⟩,hx1⟩
    rw [List.any_eq_true]
    exact ⟨l[m],List.getElem_mem hlt,HK.out⟩
  ·have hlt':decide (m<l.length)=false:=by simpa using hlt
   go_wp2_with fail
   go_ret
   refine ⟨⟨_,rfl,fun h=>by omega,fun h => ?_⟩,hbw⟩
   rw [List.any_eq_true] at h
   obtain ⟨x,hx,hxx⟩:=h
   obtain ⟨i,hi,rfl⟩:=List.getElem_of_mem hx
   rw [HOK.out i hi omA] at hxx
   cases hxx
theorem contains_scope (p:Nat) (x:Owned) (ll:List Link) (A':Option Addr) (c' n':Nat) (l:List Scope) (w:World) (hp:Blk w p 55 #[.int .i64 x.table, .int .i64 x.col, .int .i64 x.seq, .int .i64 x.record, .int .i64 x.day, .slice x.A x.own.length x.cap, .bool x.null, .bool x.last]) (ho:SliceIs w w.heap.size Ident.cells 4 x.A x.own) (hn:x.own.length ≤ 1000000) (hl:SliceIs w w.heap.size Scope.cells 1 A' l) (hln:l.length=n') (hn':n' ≤ 1000000) (hok : ∀ s∈l,ScopeOk w w.heap.size ll s) {r:Bool} (hr:l.any (fun s=>hitB s x.table x.col x.own)=r) :
 Calls Tryz.prog 101 #[.slice A' n' c', .func (.func 98) #[] #[.pointer (some ⟨p,0,none⟩)]] w fun e w' =>
  e = .returned (.bool r)∧Below w.heap.size w w':=by
 subst hr hln
 have HP:=qh hp
 have HO:=qh ho
 have HL:=qh hl
 have HOKS:=qh hok
 clear hp ho hl hok
 go_enter Tryz.func101,Tryz.ntmps101
 go_wp2_with fail
 with_reducible refine (index_scope p x ll A' c' l _ HP.out HO.out hn HL.out hn' HOKS.out).mono ?_
 rintro e w1 ⟨⟨k,rfl,hk⟩,hb1⟩
 have HK:=qh hk
 clear hk
 go_wp2_with fail
 go_ret
 refine ⟨ret_bool ?_,hb1⟩
 rw [Bool.eq_iff_iff,← HK.out]
 simp
theorem Owns.grownNe {α : Type} {w w':World} {base:Nat} {e:TypeId} {enc : α → List Value} {k:Nat} {v:Value} {l:List α} (h:Owns w base e enc k v l) {row:Option Nat} (hg:w.grownBy w' row) (hr : ∀ q,v.ownBlock=some q→some q≠row):Owns w' base e enc k v l:=by
 refine ⟨h.1,?_⟩
 rcases h.2 with h1|⟨g,cap,cur,rfl,hbs,hgg,hrest⟩
 ·exact .inl h1
 ·refine .inr ⟨g,cap,cur,rfl,hbs,?_,hrest⟩
  have hlt:g<w.heap.size:=by
   rcases Nat.lt_or_ge g w.heap.size with hlt|hge
   ·exact hlt
   ·rw [Array.getElem?_eq_none hge] at hgg;cases hgg
  rw [hg.block g hlt (hr g rfl)]
  exact hgg
theorem Owns.rowlt {α : Type} {w:World} {base:Nat} {e:TypeId} {enc : α → List Value} {k:Nat} {v:Value} {l:List α} (h:Owns w base e enc k v l) : ∀ q,v.ownBlock=some q→q<w.heap.size:=by
 intro q hq
 obtain ⟨A,c,rfl,_,hA⟩:=h.form
 cases A with
 | none=>simp [Value.ownBlock] at hq
 | some a =>
   have:a.block=q:=by simpa [Value.ownBlock] using hq
   rw [← this]
   exact (hA a rfl).2
theorem ScopeOk.grown {w w':World} {B g:Nat} {l:List Link} {s:Scope} (h:ScopeOk w B l s) (hg:w.grownBy w' (some g)) (hB:B≤g) (hw:B≤w.heap.size):ScopeOk w' B l s :=
 ⟨h.blk.grown hg (fun e=>by injection e with e;have:=h.lt;omega),h.lt,h.sub.grownL hg hB hw,h.no,h.yes⟩
def Apart (v:Value) (s:Scope):Prop:=some s.g≠v.ownBlock∧(s.o ≠ [] → ∀ a,s.A=some a→some a.block≠v.ownBlock)
theorem ScopeOk.row {w w':World} {l:List Link} {s:Scope} {v:Value} (h:ScopeOk w w.heap.size l s) (hg:w.grownBy w' v.ownBlock) (ha:Apart v s):ScopeOk w' w'.heap.size l s:=by
 refine ⟨h.blk.grown hg ha.1,Nat.lt_of_lt_of_le h.lt hg.size,fun hl => ?_,h.no,h.yes⟩
 obtain ⟨b,o,hA,hb,hc⟩:=h.sub hl
 refine ⟨b,o,hA,Nat.lt_of_lt_of_le hb hg.size,fun i hi j u hu => ?_⟩
 exact (World.cell?_of_block (hg.block b hb (ha.2 (List.ne_nil_of_length_pos hl) _ hA))).trans (hc i hi j u hu)
theorem Apart.next {w:World} {l:List Link} {s:Scope} {v v':Value} (h:Apart v s) (hs:ScopeOk w w.heap.size l s) (hv:v'.ownBlock=v.ownBlock∨v'.ownBlock=some w.heap.size):Apart v' s:=by
 rcases hv with e|e
 ·unfold Apart
  rw [e]
  exact h
 ·unfold Apart
  rw [e]
  refine ⟨fun k=>by injection k with k;have:=hs.lt;omega,fun ho a ha k => ?_⟩
  obtain ⟨b,o,hA,hb,_⟩:=hs.sub (List.length_pos_iff.2 ho)
  rw [ha] at hA
  injection hA with hA
  subst hA
  injection k with k
  simp only at k
  omega
theorem Apart.new {v:Value} {s:Scope} {B:Nat} (hq : ∀ q,v.ownBlock=some q→q<B) (hg:B≤s.g) (hA : ∀ a,s.A=some a→B≤a.block):Apart v s :=
 ⟨fun k=>by have:=hq s.g k.symm;omega,fun _ a ha k=>by have:=hq a.block k.symm;have:=hA a ha;omega⟩
noncomputable def hitO (hs:List Hold) (l:List Link) (day:Int) (x:Owned):Bool:=x.last&&hs.any (fun h=>activeOn h day&&coversB h l x.table x.col x.own)
def BlockedOut (hs:List Hold) (l:List Link) (o:List Owned) (day:Int) (out:List Src):Prop:=AscS out ∧ ∀ s,s∈out↔(validHolds hs&&validLinks l)=true ∧ ∃ x∈o,hitO hs l day x=true∧srcOf x=s
theorem BlockedOut.unique {hs:List Hold} {l:List Link} {o:List Owned} {day:Int} {out out':List Src} (h:BlockedOut hs l o day out) (h':BlockedOut hs l o day out'):out=out':=h.1.unique h'.1 fun x=>by rw [h.2,h'.2]
theorem any_scopes {w:World} {B:Nat} {l:List Link} {hs:List Hold} {day:Int} {ss:List Scope} (hok : ∀ s∈ss,ScopeOk w B l s) (hm:ss.map (·.x)=hs.filter (fun h=>activeOn h day)) (t c:Int) (own:List Ident) :
 ss.any (fun s=>hitB s t c own)=hs.any (fun h=>activeOn h day&&coversB h l t c own):=by
 have e1:ss.any (fun s=>hitB s t c own)=(ss.map (·.x)).any (fun h=>coversB h l t c own):=by
  rw [List.any_map]
  rw [Bool.eq_iff_iff,List.any_eq_true,List.any_eq_true]
  constructor
  ·rintro ⟨s,hs,h⟩
   rw [hit_eq (hok s hs)] at h
   exact ⟨s,hs,h⟩
  ·rintro ⟨s,hs,h⟩
   refine ⟨s,hs,?_⟩
   rw [hit_eq (hok s hs)]
   exact h
 rw [e1,hm,List.any_filter]
theorem idle_Blocked (w:World):CallsD Tryz.prog 95 #[] .returning w fun e u' w'=>e = .returned (.tuple #[])∧u' = .returning∧w'=w:=by
 refine callsD_of_wpS Tryz.func95 rfl fun c₀ cs hu => ?_
 apply wpS_region
 cases c₀
 simp_all [wpOpsS,go_sem,recoverD,Tryz.ntmps95,bodyPostS,results,Tryz.results95]
theorem hold_Blocked (A:Option Addr) (c n:Nat) (hs:List Hold) (AL:Option Addr) (cL nL:Nat) (l:List Link) (AO:Option Addr) (cO nO:Nat) (o:List Owned) (day:Int) (w:World)
 (hh:SliceIs w w.heap.size Hold.cells 9 A hs) (hnh:hs.length=n) (hn32:n ≤ 1000000) (hsh:SaneH hs) (hl:SliceIs w w.heap.size Link.cells 10 AL l) (hnl:l.length=nL) (hnl':nL ≤ 1000000) (hsl:Sane l) (ho:SliceIs w w.heap.size Owned.cells 8 AO o) (hin:OwnersIn w w.heap.size o) (hon:o.length=nO) (hn':nO ≤ 1000000) :
 Calls Tryz.prog 49 #[.slice A n c, .slice AL nL cL, .slice AO nO cO, .int .i64 day] w fun e w' =>
  (∃ v out,e = .returned v∧Owns w' w.heap.size 68 Src.cells 2 v out∧BlockedOut hs l o day out)∧Below w.heap.size w w':=by
 subst hnh hnl hon
 obtain ⟨i0,hi0,hz0,hz1,hz2⟩:=info_parts infoScopeP
 obtain ⟨i1,hi1,hy0,hy1,hy2⟩:=info_parts infoOwned
 have HH:=qh hh
 have HL:=qh hl
 have HO:=qh ho
 have HIN:=qh hin
 have HSH:=qh hsh
 have HSL:=qh hsl
 clear hh hl ho hsh hsl hin
 cases hvh:validHolds hs
 ·have HVH:=qh hvh
  clear hvh
  go_enter_defers Tryz.func49,Tryz.ntmps49
  go_wp2_with (first
   | (go_at_call 46;(with_reducible refine (hold_ValidB A c hs.length hs _ ((HH.out.below (B:=w.heap.size) belA).mono leA) rfl hn32 HSH.out HVH.out).mono ?_);rintro e w1 ⟨rfl,hb1⟩;have hx1:Below w.heap.size w w1:=below_nextN belA hb1 leA)
   | (go_at_call 96;(with_reducible refine (identity_ValidN AL cL l.length l _ ((HL.out.below hx1).mono hx1.size) rfl hnl' HSL.out HVL.out).mono ?_);rintro e w2 ⟨rfl,hb2⟩;have hx2:Below w.heap.size w w2:=below_nextN hx1 hb2 hx1.size))
  refine leaves_cons (f := 95) (args := #[]) spA (by simp [go_sem]) ?_;refine (idle_Blocked _).mono ?_;rintro e u' w'' ⟨rfl,rfl,rfl⟩;refine ⟨_,results_tmp rfl _ _ _,?_⟩
  exact ⟨⟨_,[],rfl,Owns.nil,List.Pairwise.nil,fun s=>by rw [HVH.out];simp⟩,hx1⟩
 cases hvl:validLinks l
 ·have HVH:=qh hvh
  have HVL:=qh hvl
  clear hvh hvl
  go_enter_defers Tryz.func49,Tryz.ntmps49
  go_wp2_with (first
   | (go_at_call 46;(with_reducible refine (hold_ValidB A c hs.length hs _ ((HH.out.below (B:=w.heap.size) belA).mono leA) rfl hn32 HSH.out HVH.out).mono ?_);rintro e w1 ⟨rfl,hb1⟩;have hx1:Below w.heap.size w w1:=below_nextN belA hb1 leA)
   | (go_at_call 96;(with_reducible refine (identity_ValidN AL cL l.length l _ ((HL.out.below hx1).mono hx1.size) rfl hnl' HSL.out HVL.out).mono ?_);rintro e w2 ⟨rfl,hb2⟩;have hx2:Below w.heap.size w w2:=below_nextN hx1 hb2 hx1.size))
  refine leaves_cons (f := 95) (args := #[]) spA (by simp [go_sem]) ?_;refine (idle_Blocked _).mono ?_;rintro e u' w'' ⟨rfl,rfl,rfl⟩;refine ⟨_,results_tmp rfl _ _ _,?_⟩
  exact ⟨⟨_,[],rfl,Owns.nil,List.Pairwise.nil,fun s=>by rw [HVH.out,HVL.out];simp⟩,hx2⟩
 have hok : ∀ x∈hs,holdOk x=true:=by
  simp only [validHolds,Bool.and_eq_true,List.all_eq_true] at hvh
  exact hvh.2
 have hle:hs.length ≤ 32:=by
  simp only [validHolds,Bool.and_eq_true,decide_eq_true_eq] at hvh
  exact hvh.1
 have HOK:=qh hok
 have HVH:=qh hvh
 have HVL:=qh hvl
 clear hvh hvl hok
 go_enter_defers Tryz.func49,Tryz.ntmps49
 go_upto_region 4 with (first
  | (go_at_call 46;(with_reducible refine (hold_ValidB A c hs.length hs _ ((HH.out.below (B:=w.heap.size) belA).mono leA) rfl hn32 HSH.out HVH.out).mono ?_);rintro e w1 ⟨rfl,hb1⟩;have hx1:Below w.heap.size w w1:=below_nextN belA hb1 leA)
  | (go_at_call 96;(with_reducible refine (identity_ValidN AL cL l.length l _ ((HL.out.below hx1).mono hx1.size) rfl hnl' HSL.out HVL.out).mono ?_);rintro e w2 ⟨rfl,hb2⟩;have hx2:Below w.heap.size w w2:=below_nextN hx1 hb2 hx1.size))
 clear hb1 hb2 hx1
 have hxW:=hx2
 clear hx2
 obtain ⟨W,rfl⟩ : ∃ W:World,W=w2:=⟨_,rfl⟩
 have hzW:=hxW.size
 go_wp2_with fail
 go_loopw [9,27] (fun vo vi wr => ∃ (m:Nat) (ss:List Scope),m≤hs.length∧vi = .int .i64 m∧ss.map (·.x)=(hs.take m).filter (fun h=>activeOn h day)∧Owns wr W.heap.size 178 Scope.cells 1 vo ss∧(∀ s∈ss,ScopeOk wr wr.heap.size l s∧Apart vo s)∧Below W.heap.size W wr) (fun _ vi _=>hs.length - (intOf vi).toNat)
 case atStart=>exact ⟨0,[],Nat.zero_le _,rfl,by simp,Owns.nil,fun s h=>by simp at h,Below.refl _ _⟩
 case round =>
  obtain ⟨m,ss,hm,rfl,hmap,hown,hall,hbr⟩:=hrel
  have hwz:=hbr.size
  have hxr:=below_nextN hxW hbr hzW
  have hzr:=hxr.size
  have hsl:ss.length≤m:=by
   have h:=congrArg List.length hmap
   rw [List.length_map] at h
   rw [h]
   exact Nat.le_trans (List.length_filter_le _ _) smA
  by_cases hlt:m<hs.length
  ·obtain ⟨b5,o5,rfl,hb5,hc5⟩:=(HH.out.below hxr).get hlt
   obtain ⟨h0,h1,⟨h2,h3,h4,h5⟩,h6,h7,h8⟩:=Hold.cells9 hc5
   have hsm:=HSH.out hs[m] (List.getElem_mem hlt)
   have hsq:=holdOk_seq (HOK.out hs[m] (List.getElem_mem hlt))
   have HOWN:=qh hown
   have HMAP:=qh hmap
   have HALL:=qh hall
   clear hc5 hown hmap hall
   cases ha:activeOn hs[m] day
   ·have HA:=qh ha
    clear ha
    go_wp2_with (go_at_call 58;(with_reducible refine (hold_ActiveB hs[m] day _ HA.out).mono ?_);rintro e w1 ⟨rfl,hb1⟩;have hx1:Below wr.heap.size wr w1:=below_nextN belA hb1.1 leA)
    go_roundw
    case rel=>exact ⟨m + 1,ss,by omega,by go_num,by rw [List.take_succ_eq_append_getElem hlt,List.filter_append,HMAP.out];simp [HA.out],HOWN.out.below hx1 (Nat.le_refl _),fun s h=>⟨((HALL.out s h).1.below hx1).mono hx1.size,(HALL.out s h).2⟩,below_nextN hbr hx1 hwz⟩
    case measure=>simp [intOf];omega
   ·have HA:=qh ha
    clear ha
    go_wp2_with (go_at_call 58;(with_reducible refine (hold_ActiveB hs[m] day _ HA.out).mono ?_);rintro e w1 ⟨rfl,hb1⟩;have hx1:Below wr.heap.size wr w1:=below_nextN belA hb1.1 leA;obtain ⟨k1,f1,z1⟩:=keepE hb1 wr.heap.size ltA)
    have hzx1:=hx1.size
    refine (scope_limit w1.heap.size hs[m] AL cL l _ (Blk.new' rfl) ?_ hnl' HSL.out hsm hsq).mono ?_
    ·exact (HL.out.next (hxr.trans (hx1.mono hzr))).next ((Below.refl _ _).alloc (Nat.le_refl _) _)
    rintro e w2 ⟨rfl,⟨o2,A6,c6,no2,yes2,hB2,hso,hfr⟩,hg2⟩
    have hw2:=hg2.size
    have hw2':w1.heap.size + 1≤w2.heap.size:=by simpa using hw2
    obtain ⟨sN,hsN⟩ : ∃ sN:Scope,sN=⟨w1.heap.size,hs[m],A6,c6,o2⟩:=⟨_,rfl⟩
    have hN:ScopeOk w2 w2.heap.size l sN:=by rw [hsN];exact ⟨hB2,by show w1.heap.size<_;omega,hso,no2,yes2⟩
    have hOw:Owns w2 W.heap.size 178 Scope.cells 1 u9 ss:=((HOWN.out.below hx1 (Nat.le_refl _)).alloc _).grownNe hg2 (fun q e k=>by injection k with k;have:=HOWN.out.rowlt q e;omega)
    have hAll : ∀ s∈ss,ScopeOk w2 w2.heap.size l s∧Apart u9 s:=fun s h=>by
     have h1:=(HALL.out s h).1.below hx1
     have h2:ScopeOk (w1.alloc (.cells (scopeCells hs[m] (.slice none 0 0)) 180)) wr.heap.size l s:=h1.below ((Below.refl _ _).alloc omA _)
     exact ⟨(h2.grown hg2 omA smA).mono omA,(HALL.out s h).2⟩
    have hAp:Apart u9 sN:=Apart.new (B:=wr.heap.size) HOWN.out.rowlt (by rw [hsN];show _≤w1.heap.size;omega) (fun a h=>by rw [hsN] at h;have:=hfr a h;simp at this;omega)
    have hbW2:Below W.heap.size W w2:=Below.grown (((hbr.trans (hx1.mono hwz))).alloc omA _) hg2 smA (fun q e=>by injection e with e;omega)
    have HN:=qh hN
    have HOW:=qh hOw
    have HALL2:=qh hAll
    have HAP:=qh hAp
    have HSN:=qh hsN
    clear hN hOw hAll hAp hB2 hso hfr hg2 no2 yes2 HOWN HALL
    go_upto_region 11 with (fail)
    have hptr:Value.pointer (some ⟨w1.heap.size,0,none⟩) = .pointer (some ⟨sN.g,0,none⟩):=by rw [HSN.out]
    rw [hptr]
    have HX:Hid (sN.x=hs[m]):=qh (by rw [HSN.out])
    clear hptr HSN hsN
    have hO3:=qh (HOW.out.alloc (.cells (Scope.cells sN).toArray 178))
    have hO4:=qh (HOW.out.rowlt)
    go_wp2_with (at_builtin;go_must ((refine wpList_append_list _ rfl (.tmp 40) (.tmp 42) 177 rfl 178 i0 _ Scope.cells 1 8 Tryz.underlying177 hi0 hz0 hz1 hz2 rfl omA scope_len scope_one W.heap.size u9 ss rfl hO3.out _ _ _ [sN] rfl rfl (Blk.one (enc:=Scope.cells) (x:=sN) (Blk.new' rfl) spA) smA mxA smA ?_);intro v' w3 hown' hg' hat';have HOWN':=qh hown';have HG':=qh hg';have HAT':=qh hat';clear hown' hat';have hbel:Below W.heap.size W w3:=Below.grown (hbW2.alloc omA _) hg' smA HOW.out.row;clear hg'))
    go_roundw
    case rel =>
     refine ⟨m + 1,ss ++ [sN],by omega,by go_num,?_,HOWN'.out,fun s h => ?_,hbel⟩
     ·rw [List.take_succ_eq_append_getElem hlt,List.filter_append,List.map_append,HMAP.out]
      simp [HA.out,HX.out]
     ·have h1:ScopeOk (w2.alloc (.cells (Scope.cells sN).toArray 178)) (w2.alloc (.cells (Scope.cells sN).toArray 178)).heap.size l s∧Apart u9 s:=by
       rcases List.mem_append.1 h with h|h
       ·exact ⟨((HALL2.out s h).1.below ((Below.refl _ _).alloc (Nat.le_refl _) _)).mono spA,(HALL2.out s h).2⟩
       ·rw [List.mem_singleton.1 h]
        exact ⟨(HN.out.below ((Below.refl _ _).alloc (Nat.le_refl _) _)).mono spA,HAP.out⟩
      exact ⟨h1.1.row HG'.out h1.2,h1.2.next h1.1 HAT'.out⟩
    case measure=>simp [intOf];omega
  ·have hlt':decide (m<hs.length)=false:=by simpa using hlt
   obtain rfl:m=hs.length:=by omega
   rw [List.take_length] at hmap
   obtain ⟨A9,c9,rfl,hc9,hs9,hA9⟩:=hown.slice scope_len
   have HS9:=qh hs9
   have HOKS:Hid (∀ s∈ss,ScopeOk wr wr.heap.size l s):=qh fun s h=>(hall s h).1
   have hany:=fun t c own=>any_scopes (day:=day) HOKS.out hmap t c own
   have HANY:=qh hany
   clear hmap hown hall hany hc9 hs9 hA9 hlt'
   obtain ⟨wo,rfl⟩ : ∃ wo:World,wo=wr:=⟨_,rfl⟩
   go_wp2_with fail
   go_loopw [13,47] (fun vo vi wr => ∃ m:Nat,m≤o.length∧vi = .int .i64 m∧Owns wr wo.heap.size 55 Owned.cells 8 vo ((o.take m).filter (hitO hs l day))∧Below wo.heap.size wo wr) (fun _ vi _=>o.length - (intOf vi).toNat)
   case atStart=>exact ⟨0,Nat.zero_le _,rfl,by simpa using Owns.nil,Below.refl _ _⟩
   case round =>
    obtain ⟨m,hm,rfl,hown,hbo⟩:=hrel
    have hoz:=hbo.size
    have hxo:=below_nextN hxr hbo hzr
    by_cases hlt:m<o.length
    ·obtain ⟨b5,o5,rfl,hb5,hc5⟩:=(HO.out.below hxo).get hlt
     obtain ⟨h0,h1,h2,h3,h4,h5,h6,h7⟩:=Owned.cells8 hc5
     have HOWN:=qh hown
     have hfl:((o.take m).filter (hitO hs l day)).length≤m:=Nat.le_trans (List.length_filter_le _ _) smA
     obtain ⟨hio,hil⟩:=HIN.out o[m] (List.getElem_mem hlt)
     have hrow:=hown.row
     have HROW:=qh hrow
     have hstep:(o.take (m + 1)).filter (hitO hs l day)=(o.take m).filter (hitO hs l day)++if hitO hs l day o[m]=true then [o[m]] else []:=by
      rw [List.take_succ_eq_append_getElem hlt,List.filter_append]
      simp only [List.filter_cons,List.filter_nil]
     obtain ⟨⟨t,cl,sq,rc,dy,A0,c0,own0,nul,lst⟩,hx⟩ : ∃ x:Owned,o[m]=x:=⟨_,rfl⟩
     rw [hx] at h0 h1 h2 h3 h4 h5 h6 h7 hio hil hstep
     simp only at h0 h1 h2 h3 h4 h5 h6 h7 hio hil
     have HIO:=qh hio
     have HST:=qh hstep
     clear hc5 hown hio hrow hx hstep
     cases lst
     ·go_wp2_with fail
      go_roundw
      case rel=>exact ⟨m + 1,by omega,by go_num,by rw [HST.out,if_neg (by simp [hitO]),List.append_nil];exact HOWN.out.alloc _,by exact belA⟩
      case measure=>simp [intOf];omega
     ·obtain ⟨r,hr⟩ : ∃ r,ss.any (fun s=>hitB s t cl own0)=r:=⟨_,rfl⟩
      have HR:=qh hr
      clear hr
      have hhit:hitO hs l day ⟨t,cl,sq,rc,dy,A0,c0,own0,nul,true⟩=r:=by rw [hitO,← HANY.out,HR.out];rfl
      have HHIT:=qh hhit
      clear hhit
      cases r
      ·go_upto_region 18 with (fail)
       go_wp2_with (go_at_call 101;go_must (refine (contains_scope wr.heap.size ⟨t,cl,sq,rc,dy,A0,c0,own0,nul,true⟩ l A9 c9 ss.length ss _ ?_ ?_ hil ?_ rfl omA ?_ HR.out).mono ?_;(exact Blk.new _ _ _);(exact ((HIO.out.below hxo).mono hxo.size).next belA);(exact (HS9.out.next hbo).next belA);(exact fun s h=>(((HOKS.out s h).below hbo).mono hbo.size |>.below belA).mono leA);rintro e w3 ⟨rfl,hb3⟩;have hx3:Below wr.heap.size wr w3:=below_nextN belA hb3 leA;obtain ⟨k3,f3,z3⟩:=keepB hb3 wr.heap.size spA))
       go_roundw
       case rel=>exact ⟨m + 1,by omega,by go_num,by rw [HST.out,if_neg (by rw [HHIT.out];decide),List.append_nil];exact HOWN.out.below hx3 (Nat.le_refl _),below_nextN hbo hx3 hoz⟩
       case measure=>simp [intOf];omega
      ·go_upto_region 18 with (fail)
       go_upto_region 19 with (go_at_call 101;go_must (refine (contains_scope wr.heap.size ⟨t,cl,sq,rc,dy,A0,c0,own0,nul,true⟩ l A9 c9 ss.length ss _ ?_ ?_ hil ?_ rfl omA ?_ HR.out).mono ?_;(exact Blk.new _ _ _);(exact ((HIO.out.below hxo).mono hxo.size).next belA);(exact (HS9.out.next hbo).next belA);(exact fun s h=>(((HOKS.out s h).below hbo).mono hbo.size |>.below belA).mono leA);rintro e w3 ⟨rfl,hb3⟩;have hx3:Below wr.heap.size wr w3:=below_nextN belA hb3 leA;obtain ⟨k3,f3,z3⟩:=keepB hb3 wr.heap.size spA))
       have hO3:=qh ((HOWN.out.below hx3 (Nat.le_refl _)).alloc (.cells (Owned.cells ⟨t,cl,sq,rc,dy,A0,c0,own0,nul,true⟩).toArray 55))
       go_wp2_with (at_builtin;go_must ((refine wpList_append_list _ rfl (.tmp 59) (.tmp 61) 36 rfl 55 i1 _ Owned.cells 8 72 Tryz.underlying36 hi1 hy0 hy1 hy2 rfl omA owned_len owned_one wo.heap.size u13 ((o.take m).filter (hitO hs l day)) rfl hO3.out _ _ _ [⟨t,cl,sq,rc,dy,A0,c0,own0,nul,true⟩] rfl rfl (Blk.one (enc:=Owned.cells) (x:=⟨t,cl,sq,rc,dy,A0,c0,own0,nul,true⟩) (Blk.new' rfl) spA) smA mxA smA ?_);intro v' w4 hown' hg' hat';have HOWN':=qh hown';clear hown';have hbel:Below wo.heap.size wo w4:=Below.grown ((below_nextN hbo hx3 hoz).alloc omA _) hg' smA HROW.out))
       go_roundw
       case rel=>exact ⟨m + 1,by omega,by go_num,by rw [HST.out,if_pos HHIT.out];exact HOWN'.out,hbel⟩
       case measure=>simp [intOf];omega
    ·have hlt':decide (m<o.length)=false:=by simpa using hlt
     obtain rfl:m=o.length:=by omega
     rw [List.take_length] at hown
     obtain ⟨A7,c7,rfl,hc7,hs7,hA7⟩:=hown.slice owned_len
     have hfl:(o.filter (hitO hs l day)).length ≤ 1000000:=Nat.le_trans (List.length_filter_le _ _) hn'
     obtain ⟨fs,hfs⟩ : ∃ fs,o.filter (hitO hs l day)=fs:=⟨_,rfl⟩
     rw [hfs] at hs7 hfl
     rw [hfs]
     have HFS:=qh hfs
     have HS7:=qh hs7
     clear hown hfs hs7 hc7 hA7 hlt'
     go_wp2_with fail
     (with_reducible refine (ownership_Records A7 c7 fs.length fs _ HS7.out rfl hfl).mono ?_)
     rintro e w5 ⟨⟨v5,out,rfl,hown5,hasc,hmem⟩,hb5⟩
     have HO5:=qh hown5
     have HASC:=qh hasc
     have HMEM:=qh hmem
     clear hown5 hasc hmem
     go_wp2_with fail
     refine leaves_cons (f := 95) (args := #[]) spA (by simp [go_sem]) ?_;refine (idle_Blocked _).mono ?_;rintro e u' w'' ⟨rfl,rfl,rfl⟩;refine ⟨_,results_tmp rfl _ _ _,?_⟩
     refine ⟨⟨v5,out,rfl,HO5.out.mono hxo.size,HASC.out,fun s => ?_⟩,below_nextN hxo hb5 hxo.size⟩
     rw [HMEM.out,← HFS.out,HVH.out,HVL.out]
     simp [List.mem_filter,and_assoc]
noncomputable def hitR (hs:List Hold) (l:List Link) (day:Int) (x:Owned):Bool:=x.last && !decide ((blocking hs l x.table x.col x.own day).length = 0)
theorem hitR_eq (hs:List Hold) (l:List Link) (day:Int) (x:Owned):hitR hs l day x=(validHolds hs&&validLinks l&&hitO hs l day x):=by
 unfold hitR hitO blocking
 cases x.last
 ·simp
 ·rw [Bool.true_and,Bool.true_and]
  by_cases hv:(validHolds hs&&validLinks l)=true
  ·rw [if_pos hv,hv,Bool.true_and,Bool.eq_iff_iff,Bool.not_eq_true',decide_eq_false_iff_not,List.any_eq_true]
   constructor
   ·intro h
    obtain ⟨i,hi⟩:=List.exists_mem_of_length_pos (Nat.pos_of_ne_zero h)
    obtain ⟨k,_,_,hk,hh⟩:=mem_block.1 hi
    exact ⟨hs[k],List.getElem_mem hk,hh⟩
   ·rintro ⟨h,hm,hh⟩ h0
    obtain ⟨k,hk,rfl⟩:=List.getElem_of_mem hm
    have:=mem_block.2 ⟨k,rfl,hk,hk,hh⟩
    rw [List.eq_nil_of_length_eq_zero h0] at this
    cases this
  ·rw [if_neg hv]
   have:(validHolds hs&&validLinks l)=false:=by simpa using hv
   rw [this]
   rfl
def FoundTo (hit:Owned→Bool) (o:List Owned) (m:Nat) (out:List Src):Prop:=AscS out ∧ ∀ s,s∈out ↔ ∃ x∈o.take m,hit x=true∧srcOf x=s
theorem FoundTo.skip {hit:Owned→Bool} {o:List Owned} {m:Nat} {out:List Src} (h:FoundTo hit o m out) (hm:m<o.length) (hx:hit o[m]=false):FoundTo hit o (m + 1) out:=by
 refine ⟨h.1,fun s => ?_⟩
 rw [h.2,List.take_succ_eq_append_getElem hm]
 constructor
 ·rintro ⟨x,hx,hh⟩
  exact ⟨x,List.mem_append_left _ hx,hh⟩
 ·rintro ⟨x,hx',hh⟩
  rcases List.mem_append.1 hx' with k|k
  ·exact ⟨x,k,hh⟩
  ·rw [List.mem_singleton.1 k] at hh
   rw [hx] at hh
   cases hh.1
theorem FoundTo.more {hit:Owned→Bool} {o:List Owned} {m:Nat} {out:List Src} (h:FoundTo hit o m out) (hm:m<o.length) (hx:hit o[m]=true):FoundTo hit o (m + 1) (insS out (srcOf o[m])):=by
 refine ⟨insS_asc h.1 _,fun s => ?_⟩
 rw [insS_mem,h.2,List.take_succ_eq_append_getElem hm]
 constructor
 ·rintro (⟨x,hx,hh⟩|rfl)
  ·exact ⟨x,List.mem_append_left _ hx,hh⟩
  ·exact ⟨o[m],List.mem_append_right _ spA,hx,rfl⟩
 ·rintro ⟨x,hx',hh⟩
  rcases List.mem_append.1 hx' with k|k
  ·exact .inl ⟨x,k,hh⟩
  ·rw [List.mem_singleton.1 k] at hh
   exact .inr hh.2.symm
theorem ref19_Blocked (A:Option Addr) (c n:Nat) (hs:List Hold) (AL:Option Addr) (cL nL:Nat) (l:List Link) (AO:Option Addr) (cO nO:Nat) (o:List Owned) (day:Int) (w:World)
 (hh:SliceIs w w.heap.size Hold.cells 9 A hs) (hnh:hs.length=n) (hn32:n ≤ 1000000) (hsh:SaneH hs) (hl:SliceIs w w.heap.size Link.cells 10 AL l) (hnl:l.length=nL) (hnl':nL ≤ 1000000) (hsl:Sane l) (ho:SliceIs w w.heap.size Owned.cells 8 AO o) (hin:OwnersIn w w.heap.size o) (hon:o.length=nO) (hn':nO ≤ 1000000) :
 Calls Tryz.prog 50 #[.slice A n c, .slice AL nL cL, .slice AO nO cO, .int .i64 day] w fun e w' =>
  (∃ A' c' out,e = .returned (.slice A' out.length c')∧SliceIs w' w'.heap.size Src.cells 2 A' out∧BlockedOut hs l o day out)∧Below w.heap.size w w':=by
 subst hnh hnl hon
 obtain ⟨i0,hi0,hz0,hz1,hz2⟩:=info_parts infoSrc
 have HH:=qh hh
 have HL:=qh hl
 have HO:=qh ho
 have HIN:=qh hin
 have HSH:=qh hsh
 have HSL:=qh hsl
 clear hh hl ho hsh hsl hin
 go_enter Tryz.func50,Tryz.ntmps50
 go_wp2_with fail
 go_loopw [9,10] (fun vo vi wr => ∃ (m:Nat) (A2:Option Addr) (c2:Nat) (out:List Src),m≤o.length∧vi = .int .i64 m∧vo = .slice A2 out.length c2∧out.length≤c2∧SliceIs wr wr.heap.size Src.cells 2 A2 out∧FoundTo (hitR hs l day) o m out∧out.length≤m∧Below w.heap.size w wr) (fun _ vi _=>o.length - (intOf vi).toNat)
 case atStart=>exact ⟨0,none,0,[],Nat.zero_le _,rfl,rfl,by simp,SliceIs.nil,⟨List.Pairwise.nil,by simp⟩,by simp,by exact belA⟩
 case round =>
  obtain ⟨m,A2,c2,out,hm,rfl,rfl,hcap,hsO,hfo,hol,hbr⟩:=hrel
  have hzr:=hbr.size
  have HSO:=qh hsO
  have HFO:=qh hfo
  clear hsO hfo
  by_cases hlt:m<o.length
  ·obtain ⟨b5,o5,rfl,hb5,hc5⟩:=(HO.out.below hbr).get hlt
   obtain ⟨h0,h1,h2,h3,h4,h5,h6,h7⟩:=Owned.cells8 hc5
   obtain ⟨hio,hil⟩:=HIN.out o[m] (List.getElem_mem hlt)
   obtain ⟨⟨t,cl,sq,rc,dy,A0,c0,own0,nul,lst⟩,hx⟩ : ∃ x:Owned,o[m]=x:=⟨_,rfl⟩
   rw [hx] at h0 h1 h2 h3 h4 h5 h6 h7 hio hil
   simp only at h0 h1 h2 h3 h4 h5 h6 h7 hio hil
   have HX:=qh hx
   have HIO:=qh hio
   clear hc5 hio hx
   cases lst
   ·have hf:=HFO.out.skip hlt (by rw [HX.out,hitR];rfl)
    have HF:=qh hf
    clear hf
    go_wp2_with fail
    go_roundw
    case rel=>exact ⟨m + 1,A2,c2,out,by omega,by go_num,rfl,hcap,HSO.out,HF.out,by omega,hbr⟩
    case measure=>simp [intOf];omega
   ·by_cases hbe:(blocking hs l t cl own0 day).length = 0
    ·have hbe':(((blocking hs l t cl own0 day).length:Int) == 0)=true:=by rw [hbe];rfl
     have hf:=HFO.out.skip hlt (by rw [HX.out,hitR];simp [hbe])
     have HF:=qh hf
     clear hf hbe
     go_wp2_with (go_at_call 53;(with_reducible refine (ref19_Blocking A c hs.length hs AL cL l.length l t cl sq rc dy A0 c0 own0.length own0 nul true day _ (HH.out.next hbr) rfl hn32 HSH.out (HL.out.next hbr) rfl hnl' HSL.out (HIO.out.next hbr) rfl hil).mono ?_);rintro e W1 ⟨⟨v1,rfl,hown1⟩,hbW1⟩;obtain ⟨A1,c1,rfl,_,_,_⟩:=hown1.slice int_len;clear hown1;have hxW1:=below_nextN hbr hbW1 hzr)
     clear hbe'
     go_roundw
     case rel=>exact ⟨m + 1,A2,c2,out,by omega,by go_num,rfl,hcap,HSO.out.next hbW1,HF.out,by omega,hxW1⟩
     case measure=>simp [intOf];omega
    ·have hbe':(((blocking hs l t cl own0 day).length:Int) == 0)=false:=by rw [beq_eq_false_iff_ne];omega
     have hf:=HFO.out.more hlt (by rw [HX.out,hitR];simp [hbe])
     rw [HX.out] at hf
     have HF:=qh hf
     clear hf hbe
     go_upto_region 6 with (go_at_call 53;(with_reducible refine (ref19_Blocking A c hs.length hs AL cL l.length l t cl sq rc dy A0 c0 own0.length own0 nul true day _ (HH.out.next hbr) rfl hn32 HSH.out (HL.out.next hbr) rfl hnl' HSL.out (HIO.out.next hbr) rfl hil).mono ?_);rintro e W1 ⟨⟨v1,rfl,hown1⟩,hbW1⟩;obtain ⟨A1,c1,rfl,_,_,_⟩:=hown1.slice int_len;clear hown1;have hxW1:=below_nextN hbr hbW1 hzr)
     clear hbe'
     obtain ⟨k5,f5,z5⟩:=keepB hbW1 b5 omA
     have g0:=(k5 _).trans h0
     have g3:=(k5 _).trans h3
     clear h0 h1 h2 h3 h4 h5 h6 h7 k5 f5
     refine wp_region_held_drew (S:=(fun w'=>w'.cell? ⟨b5,o5+m * 8,none⟩=some (.int .i64 t)∧w'.cell? ⟨b5,o5+m * 8 + 3,none⟩=some (.int .i64 rc))) krA ⟨g0,g3⟩ (fun hHeld => ?_)
     refine tkH 0 hHeld ?_
     refine tkH 1 hHeld ?_
     refine tkH 2 hHeld ?_
     refine tkH 3 hHeld ?_
     refine tkH 4 hHeld ?_
     refine tkH 5 hHeld ?_
     refine tkH 6 hHeld ?_
     refine tkH 7 hHeld ?_
     refine tkH 8 hHeld ?_
     refine tkH 9 hHeld ?_
     refine tkH 10 hHeld ?_
     refine tkH 11 hHeld ?_
     refine wpAnyH_ready (rs := [12]) krA spA ?_
     refine AllReadyH.cons rfl (fun K hK => ?_) AllReadyH.nil
     go_simp
     go_wp2_with fail
     refine hK.out _ _ ⟨?_,?_⟩ (fun hHeld => ?_)
     iterate 2 (go_simp)
     clear hK K
     (try simp only [Act.put,List.getElem_toArray,List.getElem_cons_zero,List.getElem_cons_succ,List.setIfInBounds_toArray,List.set_cons_zero,List.set_cons_succ])
     refine wpAnyH_ready (rs := [13]) krA spA ?_
     refine AllReadyH.cons rfl (fun K hK => ?_) AllReadyH.nil
     go_simp
     go_wp2_with fail
     refine hK.out _ _ ⟨?_,?_⟩ (fun hHeld => ?_)
     iterate 2 (go_simp)
     clear hK K
     (try simp only [Act.put,List.getElem_toArray,List.getElem_cons_zero,List.getElem_cons_succ,List.setIfInBounds_toArray,List.set_cons_zero,List.set_cons_succ])
     refine wpAnyH_done krA ?_ _
     go_upto_region 7 with (fail)
     refine abs_world (P:=fun u=>Code.wp _ _ _ _ u) (R:=fun u=>Blk u W1.heap.size 68 #[.int .i64 t, .int .i64 rc]∧Below W1.heap.size W1 u) ⟨?_,?_⟩ ?_
     ·first|exact (Blk.new' spA).drew|exact Blk.new' spA
     ·exact belA
     rintro W2 ⟨hbx,hbW2⟩
     have hx2:Below w.heap.size w W2:=below_nextN hxW1 hbW2 hxW1.size
     obtain ⟨bx,hbxe⟩ : ∃ bx:Nat,bx=W1.heap.size:=⟨_,rfl⟩
     rw [← hbxe] at hbx ⊢
     have hzbx:=hbx.lt
     have HBX:=qh hbx
     have HS2:=qh ((HSO.out.next hbW1).next hbW2)
     have hwz2:=hx2.size
     clear hbx hHeld g0 g3 hbxe
     go_wp2_with fail
     go_loopw [12] (fun vk wi => ∃ k:Nat,k≤out.length∧vk = .int .i64 k∧Below W2.heap.size W2 wi∧(∀ j (h:j<out.length),j<k→decide (lessS out[j] ⟨t,rc⟩)=true)) (fun vk _=>out.length - (intOf vk).toNat)
     case atStart=>exact ⟨0,Nat.zero_le _,rfl,Below.refl _ _,fun j _ h=>by omega⟩
     case round =>
      obtain ⟨k,hk,rfl,hbi,hlo⟩:=hrel
      have HLO:=qh hlo
      have hix:=below_nextN hx2 hbi hwz2
      have hiz:=hbi.size
      have e0:=(HBX.out.below hbi hzbx).cell 0
      have e1:=(HBX.out.below hbi hzbx).cell 1
      simp only [List.getElem?_toArray,List.getElem?_cons_zero,List.getElem?_cons_succ] at e0 e1
      have hkx:=keepQ (w:=wr) bx omA
      clear hlo
      by_cases hkl:k<out.length
      ·obtain ⟨b6,o6,rfl,hb6,hc6⟩:=(HS2.out.next hbi).get hkl
       obtain ⟨y0,y1⟩:=Src.cells2 hc6
       have hk6:=keepQ (w:=wr) b6 omA
       clear hc6
       cases hls:decide (lessS out[k] ⟨t,rc⟩)
       ·have hkn:(((k:Nat):Int)==((out.length:Nat):Int))=false:=by rw [beq_eq_false_iff_ne];omega
        have HLS:=qh hls
        have hpos:posS out ⟨t,rc⟩=k:=posS_at hk HLO.out (fun _=>hls)
        have HPOS:=qh hpos
        clear hls hpos
        go_upto_region 8 with (fail)
        refine wp_region_bel krA krA ?_;(repeat (go_big_quiet_step ((go_at_call 103;with_reducible exact bel_of_ext (ref15_Less out[k] ⟨t,rc⟩ _ HLS.out)))));refine wpQuiet_nil ?_;intro wq hq
        have hq':=below_nextN hix hq hix.size
        have hqz:=hq.size
        obtain ⟨kb,_,_⟩:=keepB hq b6 omA
        obtain ⟨kx,_,_⟩:=keepB hq bx omA
        have y0:=(kb _).trans y0
        have y1:=(kb _).trans y1
        have e0:=(kx _).trans e0
        have e1:=(kx _).trans e1
        clear kb kx hk6 hkx
        have hk6:=keepQ (w:=wq) b6 omA
        have hkx:=keepQ (w:=wq) bx omA
        by_cases hxe:out[k]=⟨t,rc⟩
        ·have heq:=eqlSrc_of (decide_eq_true hxe)
         have e:insS out ⟨t,rc⟩=out:=by rw [insS,if_pos (by rw [HPOS.out,List.getElem?_eq_getElem hkl,hxe])]
         have HE:=qh e
         clear hxe e
         go_upto_region 10 with (fail)
         refine wp_region_bel krA krA ?_;(repeat (go_big_quiet_step (fail)));refine wpQuiet_nil ?_;intro wq2 hq2
         clear heq hk6 hkx y0 y1 e0 e1
         go_wp2_with fail
         have hbel:=below_nextN hq' hq2 hq'.size
         go_roundw
         case rel=>exact ⟨m + 1,_,c2,out,by omega,by go_num,rfl,hcap,(((HS2.out.next hbi).next hq).next hq2),by have:=HF.out;rwa [show srcOf ⟨t,cl,sq,rc,dy,A0,c0,own0,nul,true⟩=⟨t,rc⟩ from rfl,HE.out] at this,by omega,hbel⟩
         case measure=>simp [intOf];omega
        ·have heq:=eqlSrc_of (decide_eq_false hxe)
         have e:insS out ⟨t,rc⟩=out.take k++(⟨t,rc⟩::out.drop k):=by rw [insS,if_neg (by rw [HPOS.out,List.getElem?_eq_getElem hkl];simpa using hxe),HPOS.out]
         have HE:=qh e
         clear hxe e
         go_upto_region 10 with (fail)
         refine wp_region_bel krA krA ?_;(repeat (go_big_quiet_step (fail)));refine wpQuiet_nil ?_;intro wq2 hq2
         clear heq hk6 hkx y0 y1
         have hbel:=below_nextN hq' hq2 hq'.size
         have hl2:=((HS2.out.next hbi).next hq).next hq2
         obtain ⟨kx,_,hzz⟩:=keepB hq2 bx omA
         have e0:=(kx _).trans e0
         have e1:=(kx _).trans e1
         clear kx
         have hmc:k≤c2:=by omega
         have hcm : ¬ c2=k:=by omega
         have hcut:SliceIs wq2 wq2.heap.size Src.cells 2 (some ⟨b6,o6+k * 2,none⟩) (out.drop k):=by have h:=hl2.cut (c:=c2) k hcap;rwa [if_neg hcm] at h
         go_upto_region 11 with (fail)
         go_region_law (first
         | (refine step_append_list _ rfl (.tmp 75) (.tmp 78) 64 rfl 68 i0 _ Src.cells 2 16 Tryz.underlying64 hi0 hz0 hz1 hz2 rfl omA src_len src_one wq2.heap.size (.slice (some ⟨wq2.heap.size,0,none⟩) 0 0) [] rfl (Owns.empty ncA leA) _ _ _ (out.take k) rfl smA ((hl2.take k).next belA) smA mxA leA ?_;intro v1 w1 hown1 hg1 hat1;have hb1:Below wq2.heap.size wq2 w1:=Below.grown belA hg1 leA (own_row leA);have hsz1:=hb1.size;have kx1:=(keepB hb1 bx hzz).1;have h40:Blk w1 (wq2.heap.size + 1) 68 #[.int .i64 t, .int .i64 rc]:=Blk.grown ndA hg1 (ne_row omA))
         | (refine step_append_list _ rfl (.tmp 75) (.tmp 78) 64 rfl 68 i0 _ Src.cells 2 16 Tryz.underlying64 hi0 hz0 hz1 hz2 rfl omA src_len src_one wq2.heap.size (.slice (some ⟨(wq2.heap.size + 1),0,none⟩) 0 0) [] rfl (Owns.empty ndA leA) _ _ _ (out.take k) rfl smA ((hl2.take k).next belA) smA mxA leA ?_;intro v1 w1 hown1 hg1 hat1;have hb1:Below wq2.heap.size wq2 w1:=Below.grown belA hg1 leA (own_row leA);have hsz1:=hb1.size;have kx1:=(keepB hb1 bx hzz).1;have h40:Blk w1 wq2.heap.size 68 #[.int .i64 t, .int .i64 rc]:=Blk.grown ncA hg1 (ne_row omA))
         | (refine step_append_list _ rfl (.tmp 75) (.tmp 78) 64 rfl 68 i0 _ Src.cells 2 16 Tryz.underlying64 hi0 hz0 hz1 hz2 rfl omA src_len src_one wq2.heap.size (.slice (some ⟨wq2.heap.size,0,none⟩) 0 0) [] rfl (Owns.empty neA leA) _ _ _ (out.take k) rfl smA ((hl2.take k).next belA) smA mxA leA ?_;intro v1 w1 hown1 hg1 hat1;have hb1:Below wq2.heap.size wq2 w1:=Below.grown belA hg1 leA (own_row leA);have hsz1:=hb1.size;have kx1:=(keepB hb1 bx hzz).1)
         | (refine step_append_list _ rfl (.tmp 79) (.tmp 81) 64 rfl 68 i0 _ Src.cells 2 16 Tryz.underlying64 hi0 hz0 hz1 hz2 rfl omA src_len src_one wq2.heap.size v1 ([]++out.take k) rfl nfA _ _ _ [⟨t,rc⟩] rfl rfl (by first|exact Blk.one (enc:=Src.cells) (x:=⟨t,rc⟩) (Blk.new' spA) spA|exact Blk.one (enc:=Src.cells) (x:=⟨t,rc⟩) h40 h40.lt) smA mxA ngA ?_;intro v2 w2 hown2 hg2 hat2;have hb2:Below wq2.heap.size wq2 w2:=Below.grown belA hg2 ngA hown1.row;have hsz2:=hb2.size)
         | (refine step_append_list _ rfl (.tmp 82) (.tmp 85) 64 rfl 68 i0 _ Src.cells 2 16 Tryz.underlying64 hi0 hz0 hz1 hz2 rfl omA src_len src_one wq2.heap.size v2 ([]++out.take k ++ [⟨t,rc⟩]) rfl hown2 _ _ _ (out.drop k) rfl spA (hcut.next hb2) smA mxA hb2.size ?_;intro v3 w3 hown3 hg3 hat3;have hb3:Below wq2.heap.size wq2 w3:=Below.grown hb2 hg3 hb2.size hown2.row;obtain ⟨A3,c3,rfl,hc3,hs3,_⟩:=hown3.slice src_len))
         all_goals go_wp2_with fail
         all_goals go_roundw
         all_goals (try (case rel=>exact ⟨m + 1,A3,c3,insS out ⟨t,rc⟩,by omega,by go_num,by rw [HE.out];simp;omega,by rw [HE.out];simpa using hc3,by rw [HE.out];simpa using hs3,HF.out,by rw [HE.out];simp;omega,below_nextN hbel hb3 hbel.size⟩))
         all_goals (try (simp [intOf];omega))
       ·have HLS:=qh hls
        clear hls
        go_upto_region 8 with (fail)
        refine wp_region_bel krA krA ?_;(repeat (go_big_quiet_step ((go_at_call 103;with_reducible exact bel_of_ext (ref15_Less out[k] ⟨t,rc⟩ _ HLS.out)))));refine wpQuiet_nil ?_;intro wq hq
        clear hk6 hkx y0 y1 e0 e1
        go_wp2_with fail
        go_roundw
        case rel=>exact ⟨k + 1,by omega,by go_num,below_nextN hbi hq hiz,fun j h hj=>by
         rcases Nat.lt_or_ge j k with h1|h1
         ·exact HLO.out j h h1
         ·obtain rfl:j=k:=by omega
          exact HLS.out⟩
        case measure=>simp [intOf];omega
      ·have hkl':decide (k<out.length)=false:=by simpa using hkl
       have hke:k=out.length:=by omega
       have hkn:(((k:Nat):Int)==((out.length:Nat):Int))=true:=by rw [hke];simp
       have hpos:posS out ⟨t,rc⟩=k:=posS_at hk HLO.out (fun h=>absurd h omA)
       have e:insS out ⟨t,rc⟩=out.take k++(⟨t,rc⟩::out.drop k):=by rw [insS,if_neg (by rw [hpos,List.getElem?_eq_none omA];simp),hpos]
       have HE:=qh e
       have hdr:out.drop k = []:=List.drop_eq_nil_of_le omA
       have HDR:=qh hdr
       have HKE:=qh hke
       clear hdr e hpos hke
       go_upto_region 8 with (fail)
       refine wp_region_bel krA krA ?_;(repeat (go_big_quiet_step (fail)));refine wpQuiet_nil ?_;intro wq hq
       have hq':=below_nextN hix hq hix.size
       have hqz:=hq.size
       obtain ⟨kx,_,_⟩:=keepB hq bx omA
       have e0:=(kx _).trans e0
       have e1:=(kx _).trans e1
       clear kx hkx
       have hkx:=keepQ (w:=wq) bx omA
       go_upto_region 10 with (fail)
       refine wp_region_bel krA krA ?_;(repeat (go_big_quiet_step (fail)));refine wpQuiet_nil ?_;intro wq2 hq2
       clear hkx
       have hbel:=below_nextN hq' hq2 hq'.size
       have hl2:=((HS2.out.next hbi).next hq).next hq2
       obtain ⟨kx,_,hzz⟩:=keepB hq2 bx omA
       have e0:=(kx _).trans e0
       have e1:=(kx _).trans e1
       clear kx
       have hcut : ∀ A',SliceIs wq2 wq2.heap.size Src.cells 2 A' (out.drop k):=fun A'=>by rw [HDR.out];exact SliceIs.nil
       have hmc:k≤c2:=by omega
       clear hkl' hkl hkn
       go_upto_region 11 with (fail)
       go_region_law (first
       | (refine step_append_list _ rfl (.tmp 75) (.tmp 78) 64 rfl 68 i0 _ Src.cells 2 16 Tryz.underlying64 hi0 hz0 hz1 hz2 rfl omA src_len src_one wq2.heap.size (.slice (some ⟨wq2.heap.size,0,none⟩) 0 0) [] rfl (Owns.empty ncA leA) _ _ _ (out.take k) rfl smA ((hl2.take k).next belA) smA mxA leA ?_;intro v1 w1 hown1 hg1 hat1;have hb1:Below wq2.heap.size wq2 w1:=Below.grown belA hg1 leA (own_row leA);have hsz1:=hb1.size;have kx1:=(keepB hb1 bx hzz).1;have h40:Blk w1 (wq2.heap.size + 1) 68 #[.int .i64 t, .int .i64 rc]:=Blk.grown ndA hg1 (ne_row omA))
       | (refine step_append_list _ rfl (.tmp 75) (.tmp 78) 64 rfl 68 i0 _ Src.cells 2 16 Tryz.underlying64 hi0 hz0 hz1 hz2 rfl omA src_len src_one wq2.heap.size (.slice (some ⟨(wq2.heap.size + 1),0,none⟩) 0 0) [] rfl (Owns.empty ndA leA) _ _ _ (out.take k) rfl smA ((hl2.take k).next belA) smA mxA leA ?_;intro v1 w1 hown1 hg1 hat1;have hb1:Below wq2.heap.size wq2 w1:=Below.grown belA hg1 leA (own_row leA);have hsz1:=hb1.size;have kx1:=(keepB hb1 bx hzz).1;have h40:Blk w1 wq2.heap.size 68 #[.int .i64 t, .int .i64 rc]:=Blk.grown ncA hg1 (ne_row omA))
       | (refine step_append_list _ rfl (.tmp 75) (.tmp 78) 64 rfl 68 i0 _ Src.cells 2 16 Tryz.underlying64 hi0 hz0 hz1 hz2 rfl omA src_len src_one wq2.heap.size (.slice (some ⟨wq2.heap.size,0,none⟩) 0 0) [] rfl (Owns.empty neA leA) _ _ _ (out.take k) rfl smA ((hl2.take k).next belA) smA mxA leA ?_;intro v1 w1 hown1 hg1 hat1;have hb1:Below wq2.heap.size wq2 w1:=Below.grown belA hg1 leA (own_row leA);have hsz1:=hb1.size;have kx1:=(keepB hb1 bx hzz).1)
       | (refine step_append_list _ rfl (.tmp 79) (.tmp 81) 64 rfl 68 i0 _ Src.cells 2 16 Tryz.underlying64 hi0 hz0 hz1 hz2 rfl omA src_len src_one wq2.heap.size v1 ([]++out.take k) rfl nfA _ _ _ [⟨t,rc⟩] rfl rfl (by first|exact Blk.one (enc:=Src.cells) (x:=⟨t,rc⟩) (Blk.new' spA) spA|exact Blk.one (enc:=Src.cells) (x:=⟨t,rc⟩) h40 h40.lt) smA mxA ngA ?_;intro v2 w2 hown2 hg2 hat2;have hb2:Below wq2.heap.size wq2 w2:=Below.grown belA hg2 ngA hown1.row;have hsz2:=hb2.size)
       | (refine step_append_list _ rfl (.tmp 82) (.tmp 85) 64 rfl 68 i0 _ Src.cells 2 16 Tryz.underlying64 hi0 hz0 hz1 hz2 rfl omA src_len src_one wq2.heap.size v2 ([]++out.take k ++ [⟨t,rc⟩]) rfl hown2 _ _ _ (out.drop k) rfl spA ((hcut _).next hb2) smA mxA hb2.size ?_;intro v3 w3 hown3 hg3 hat3;have hb3:Below wq2.heap.size wq2 w3:=Below.grown hb2 hg3 hb2.size hown2.row;obtain ⟨A3,c3,rfl,hc3,hs3,_⟩:=hown3.slice src_len))
       all_goals go_wp2_with fail
       all_goals go_roundw
       all_goals (try (case rel=>exact ⟨m + 1,A3,c3,insS out ⟨t,rc⟩,by omega,by go_num,by rw [HE.out];simp;omega,by rw [HE.out];simpa using hc3,by rw [HE.out];simpa using hs3,HF.out,by rw [HE.out];simp;omega,below_nextN hbel hb3 hbel.size⟩))
       all_goals (try (simp [intOf];omega))
  ·have hlt':decide (m<o.length)=false:=by simpa using hlt
   obtain rfl:m=o.length:=by omega
   go_wp2_with fail
   go_ret
   refine ⟨⟨A2,c2,out,rfl,HSO.out,HFO.out.1,fun s => ?_⟩,hbr⟩
   rw [HFO.out.2,List.take_length]
   constructor
   ·rintro ⟨x,hx,hh,hs⟩
    rw [hitR_eq,Bool.and_eq_true] at hh
    exact ⟨hh.1,x,hx,hh.2,hs⟩
   ·rintro ⟨hv,x,hx,hh,hs⟩
    exact ⟨x,hx,by rw [hitR_eq,hv,hh];rfl,hs⟩
theorem hold_BlockedN (A:Option Addr) (c n:Nat) (hs:List Hold) (AL:Option Addr) (cL nL:Nat) (l:List Link) (AO:Option Addr) (cO nO:Nat) (o:List Owned) (day:Int) (w:World)
 (hh:SliceIs w w.heap.size Hold.cells 9 A hs) (hnh:hs.length=n) (hn32:n ≤ 1000000) (hsh:SaneH hs) (hl:SliceIs w w.heap.size Link.cells 10 AL l) (hnl:l.length=nL) (hnl':nL ≤ 1000000) (hsl:Sane l) (ho:SliceIs w w.heap.size Owned.cells 8 AO o) (hin:OwnersIn w w.heap.size o) (hon:o.length=nO) (hn':nO ≤ 1000000) :
 Calls Tryz.prog 49 #[.slice A n c, .slice AL nL cL, .slice AO nO cO, .int .i64 day] w fun e w' =>
  (∃ A' c' out,e = .returned (.slice A' out.length c')∧SliceIs w' w'.heap.size Src.cells 2 A' out∧BlockedOut hs l o day out)∧Below w.heap.size w w':=by
 refine (hold_Blocked A c n hs AL cL nL l AO cO nO o day w hh hnh hn32 hsh hl hnl hnl' hsl ho hin hon hn').mono ?_
 rintro e w' ⟨⟨v,out,rfl,hown,hb⟩,hx⟩
 obtain ⟨A',c',rfl,_,hs',_⟩:=hown.slice src_len
 exact ⟨⟨A',c',out,rfl,hs',hb⟩,hx⟩
theorem BlockedOut.len {hs:List Hold} {l:List Link} {o:List Owned} {day:Int} {out:List Src} (h:BlockedOut hs l o day out):out.length≤o.length:=by
 have hnd:out.Nodup:=List.Pairwise.imp (fun {a b} hab e=>by subst e;exact lessS_irrefl a hab) h.1
 have:=nodup_le hnd (l':=o.map srcOf) fun s hs=>by
  obtain ⟨_,x,hx,_,e⟩:=(h.2 s).1 hs
  exact List.mem_map.2 ⟨x,hx,e⟩
 simpa using this
theorem blocking_len (hs:List Hold) (l:List Link) (t c:Int) (own:List Ident) (day:Int):(blocking hs l t c own day).length≤hs.length:=by
 unfold blocking
 split
 ·exact blockTo_len _ _ _ _ _ _ _
 ·simp
def UntilIs (hs:List Hold) (l:List Link) (t c:Int) (own:List Ident) (day r:Int):Prop:=if (validHolds hs&&validLinks l)=true then UntilOut (covering hs l t c own day) day r else r = 0
theorem UntilIs.unique {hs:List Hold} {l:List Link} {t c:Int} {own:List Ident} {day r r':Int} (h:UntilIs hs l t c own day r) (h':UntilIs hs l t c own day r'):r=r':=by
 unfold UntilIs at h h'
 split at h
 ·rename_i hv
  rw [if_pos hv] at h'
  exact h.unique h'
 ·rename_i hv
  rw [if_neg hv] at h'
  rw [h,h']
noncomputable def untilB (hs:List Hold) (l:List Link) (t c:Int) (own:List Ident) (day:Int):Int := @dite _ (∃ r,UntilIs hs l t c own day r) (Classical.propDecidable _) (fun h=>h.choose) (fun _ => 0)
theorem UntilIs.eq {hs:List Hold} {l:List Link} {t c:Int} {own:List Ident} {day r:Int} (h:UntilIs hs l t c own day r):r=untilB hs l t c own day:=by
 have hx : ∃ r,UntilIs hs l t c own day r:=⟨r,h⟩
 unfold untilB
 rw [dif_pos hx]
 exact h.unique hx.choose_spec
theorem hold_UntilN (A:Option Addr) (c n:Nat) (hs:List Hold) (AL:Option Addr) (cL nL:Nat) (l:List Link) (t col sq rec dy:Int) (A':Option Addr) (c' n':Nat) (own:List Ident) (nul lst:Bool) (day:Int) (w:World)
 (hh:SliceIs w w.heap.size Hold.cells 9 A hs) (hnh:hs.length=n) (hn32:n ≤ 1000000) (hsh:SaneH hs) (hl:SliceIs w w.heap.size Link.cells 10 AL l) (hnl:l.length=nL) (hnl':nL ≤ 1000000) (hsl:Sane l) (ho:SliceIs w w.heap.size Ident.cells 4 A' own) (hon:own.length=n') (hn':n' ≤ 1000000) {r:Int} (hr:untilB hs l t col own day=r) :
 Calls Tryz.prog 54 #[.slice A n c, .slice AL nL cL, .agg #[.int .i64 t, .int .i64 col, .int .i64 sq, .int .i64 rec, .int .i64 dy, .slice A' n' c', .bool nul, .bool lst], .int .i64 day] w fun e w'=>e = .returned (.int .i64 r)∧Below w.heap.size w w':=by
 subst hr
 refine (hold_Until A c n hs AL cL nL l t col sq rec dy A' c' n' own nul lst day w hh hnh hn32 hsh hl hnl hnl' hsl ho hon hn').mono ?_
 rintro e w' ⟨⟨r,rfl,hr⟩,hb⟩
 exact ⟨ret_int (UntilIs.eq hr),hb⟩
theorem ref19_UntilN (A:Option Addr) (c n:Nat) (hs:List Hold) (AL:Option Addr) (cL nL:Nat) (l:List Link) (t col sq rec dy:Int) (A':Option Addr) (c' n':Nat) (own:List Ident) (nul lst:Bool) (day:Int) (w:World)
 (hh:SliceIs w w.heap.size Hold.cells 9 A hs) (hnh:hs.length=n) (hn32:n ≤ 1000000) (hsh:SaneH hs) (hl:SliceIs w w.heap.size Link.cells 10 AL l) (hnl:l.length=nL) (hnl':nL ≤ 1000000) (hsl:Sane l) (ho:SliceIs w w.heap.size Ident.cells 4 A' own) (hon:own.length=n') (hn':n' ≤ 1000000) {r:Int} (hr:untilB hs l t col own day=r) :
 Calls Tryz.prog 55 #[.slice A n c, .slice AL nL cL, .agg #[.int .i64 t, .int .i64 col, .int .i64 sq, .int .i64 rec, .int .i64 dy, .slice A' n' c', .bool nul, .bool lst], .int .i64 day] w fun e w'=>e = .returned (.int .i64 r)∧Below w.heap.size w w':=by
 subst hr
 refine (ref19_Until A c n hs AL cL nL l t col sq rec dy A' c' n' own nul lst day w hh hnh hn32 hsh hl hnl hnl' hsl ho hon hn').mono ?_
 rintro e w' ⟨⟨r,rfl,hr⟩,hb⟩
 exact ⟨ret_int (UntilIs.eq hr),hb⟩
theorem looks19 (A:Option Addr) (c n:Nat) (hs:List Hold) (AL:Option Addr) (cL nL:Nat) (l:List Link) (AO:Option Addr) (cO nO:Nat) (o:List Owned) (day:Int) (w:World)
 (hh:SliceIs w w.heap.size Hold.cells 9 A hs) (hnh:hs.length=n) (hn32:n ≤ 1000000) (hsh:SaneH hs) (hl:SliceIs w w.heap.size Link.cells 10 AL l) (hnl:l.length=nL) (hnl':nL ≤ 1000000) (hsl:Sane l) (ho:SliceIs w w.heap.size Owned.cells 8 AO o) (hin:OwnersIn w w.heap.size o) (hon:o.length=nO) (hn':nO ≤ 1000000) :
 Calls Tryz.prog 14 #[.slice A n c, .slice AL nL cL, .slice AO nO cO, .int .i64 day] w fun e w'=>e = .returned (.bool true)∧Below w.heap.size w w':=by
 subst hnh hnl hon
 obtain ⟨vh,hvh⟩ : ∃ r,validHolds hs=r:=⟨_,rfl⟩
 have HVH:=qh hvh
 have HH:=qh hh
 have HL:=qh hl
 have HO:=qh ho
 have HIN:=qh hin
 have HSH:=qh hsh
 have HSL:=qh hsl
 clear hh hl ho hsh hsl hin hvh
 go_enter Tryz.func14,Tryz.ntmps14
 go_upto_region 3 with (first
  | (go_at_call 46;(with_reducible refine (hold_ValidB A c hs.length hs _ (HH.out.next belA) rfl hn32 HSH.out HVH.out).mono ?_);rintro e w1 ⟨rfl,hb1⟩;have hx1:Below w.heap.size w w1:=below_nextN belA hb1 leA)
  | (go_at_call 47;(with_reducible refine (ref19_Valid A c hs.length hs _ (HH.out.next belA) rfl hn32 HSH.out HVH.out).mono ?_);rintro e w2 ⟨rfl,hb2⟩;have hx2:Below w.heap.size w w2:=below_nextN hx1 hb2 hx1.size)
  | (go_at_call 49;(with_reducible refine (hold_BlockedN A c hs.length hs AL cL l.length l AO cO o.length o day _ (HH.out.next hx2) rfl hn32 HSH.out (HL.out.next hx2) rfl hnl' HSL.out (HO.out.next hx2) (HIN.out.next hx2) rfl hn').mono ?_);rintro e w3 ⟨⟨A3,c3,out3,rfl,hs3,ho3⟩,hb3⟩;have hx3:Below w.heap.size w w3:=below_nextN hx2 hb3 hx2.size;have HO3:=qh ho3;have HS3:=qh hs3;clear ho3 hs3)
  | (go_at_call 50;(with_reducible refine (ref19_Blocked A c hs.length hs AL cL l.length l AO cO o.length o day _ (HH.out.next hx3) rfl hn32 HSH.out (HL.out.next hx3) rfl hnl' HSL.out (HO.out.next hx3) (HIN.out.next hx3) rfl hn').mono ?_);rintro e w4 ⟨⟨A4,c4,out4,rfl,hs4,ho4⟩,hb4⟩;have hx4:Below w.heap.size w w4:=below_nextN hx3 hb4 hx3.size;obtain rfl:=HO3.out.unique ho4;have HS4:=qh hs4;clear ho4 hs4)
  | (go_at_call 48;(with_reducible refine (sources_same A3 A4 c3 c4 out3.length out3 _ (HS3.out.next hb4) HS4.out rfl (Nat.le_trans HO3.out.len hn')).mono ?_);rintro e w5 ⟨rfl,hb5⟩;have hx5:Below w.heap.size w w5:=below_nextN hx4 hb5 hx4.size))
 clear hb1 hx1 hb2 hx2 hb3 hx3 hb4 hx4 HO3 HS3 HS4
 obtain ⟨W,rfl⟩ : ∃ W:World,W=w5:=⟨_,rfl⟩
 have hxW:=hx5
 clear hx5 hb5
 go_wp2_with fail
 go_loopw [9] (fun vi wr => ∃ m:Nat,m≤o.length∧vi = .int .i64 m∧Below w.heap.size w wr) (fun vi _=>o.length - (intOf vi).toNat)
 case atStart=>exact ⟨0,Nat.zero_le _,rfl,hxW⟩
 case round =>
  obtain ⟨m,hm,rfl,hxr⟩:=hrel
  have hzr:=hxr.size
  by_cases hlt:m<o.length
  ·obtain ⟨b5,o5,rfl,hb5,hc5⟩:=(HO.out.below hxr).get hlt
   obtain ⟨g0,g1,g2,g3,g4,g5,g6,g7⟩:=Owned.cells8 hc5
   obtain ⟨hio,hil⟩:=HIN.out o[m] (List.getElem_mem hlt)
   have HIO:=qh ((hio.below hxr).mono hzr)
   have HHR:=qh (HH.out.next hxr)
   have HLR:=qh (HL.out.next hxr)
   have hbz:b5<wr.heap.size:=by omega
   obtain ⟨bl,hbl⟩ : ∃ bl,blocking hs l o[m].table o[m].col o[m].own day=bl:=⟨_,rfl⟩
   have hbll:bl.length ≤ 1000000:=by rw [← hbl];exact Nat.le_trans (blocking_len _ _ _ _ _ _) hn32
   obtain ⟨ru,hru⟩ : ∃ r,untilB hs l o[m].table o[m].col o[m].own day=r:=⟨_,rfl⟩
   have HBL:=qh hbl
   have HRU:=qh hru
   clear hc5 hio hbl hru
   go_upto_region 6 with (fail)
   refine wp_region_held_drew (S:=(fun w'=>w'.cell? ⟨b5,o5+m * 8,none⟩=some (.int .i64 o[m].table)∧w'.cell? ⟨b5,o5+m * 8 + 1,none⟩=some (.int .i64 o[m].col)∧w'.cell? ⟨b5,o5+m * 8 + 2,none⟩=some (.int .i64 o[m].seq)∧w'.cell? ⟨b5,o5+m * 8 + 3,none⟩=some (.int .i64 o[m].record)∧w'.cell? ⟨b5,o5+m * 8 + 4,none⟩=some (.int .i64 o[m].day)∧w'.cell? ⟨b5,o5+m * 8 + 5,none⟩=some (.slice o[m].A o[m].own.length o[m].cap)∧w'.cell? ⟨b5,o5+m * 8 + 6,none⟩=some (.bool o[m].null)∧w'.cell? ⟨b5,o5+m * 8 + 7,none⟩=some (.bool o[m].last))) krA ⟨g0,g1,g2,g3,g4,g5,g6,g7⟩ (fun hHeld => ?_)
   refine tkH 0 hHeld ?_
   refine tkH 1 hHeld ?_
   refine tkH 2 hHeld ?_
   refine tkH 3 hHeld ?_
   refine tkH 4 hHeld ?_
   refine tkH 5 hHeld ?_
   refine tkH 6 hHeld ?_
   refine tkH 8 hHeld ?_
   refine tkH 9 hHeld ?_
   refine tkH 10 hHeld ?_
   refine tkH 11 hHeld ?_
   refine tkH 12 hHeld ?_
   refine tkH 13 hHeld ?_
   refine tkH 14 hHeld ?_
   refine wpAnyH_ready (rs := [7]) krA spA ?_
   refine AllReadyH.cons rfl (fun K hK => ?_) AllReadyH.nil
   go_simp
   (go_at_call 52;(with_reducible refine (hold_Blocking A c hs.length hs AL cL l.length l o[m].table o[m].col o[m].seq o[m].record o[m].day o[m].A o[m].cap o[m].own.length o[m].own o[m].null o[m].last day _ (HHR.out.next belA) rfl hn32 HSH.out (HLR.out.next belA) rfl hnl' HSL.out (HIO.out.next belA) rfl hil).mono ?_);rintro e w1 ⟨⟨v1,rfl,hown1⟩,hb1⟩;rw [HBL.out] at hown1;obtain ⟨A1,c1,rfl,_,hs1,_⟩:=hown1.slice int_len;clear hown1;have hx1:Below wr.heap.size wr w1:=belA;have hz1:=hx1.size;obtain ⟨ka1,_,_⟩:=keepB hx1 b5 hbz)
   go_wp2_with fail
   refine hK.out _ _ ⟨?_,?_,?_,?_,?_,?_,?_,?_⟩ (fun hHeld => ?_)
   iterate 8 (simp only [*])
   clear hK K
   (try simp only [Act.put,List.getElem_toArray,List.getElem_cons_zero,List.getElem_cons_succ,List.setIfInBounds_toArray,List.set_cons_zero,List.set_cons_succ])
   refine wpAnyH_ready (rs := [15]) krA spA ?_
   refine AllReadyH.cons rfl (fun K hK => ?_) AllReadyH.nil
   go_simp
   (go_at_call 53;(with_reducible refine (ref19_Blocking A c hs.length hs AL cL l.length l o[m].table o[m].col o[m].seq o[m].record o[m].day o[m].A o[m].cap o[m].own.length o[m].own o[m].null o[m].last day _ (HHR.out.next belA) rfl hn32 HSH.out (HLR.out.next belA) rfl hnl' HSL.out (HIO.out.next belA) rfl hil).mono ?_);rintro e w2 ⟨⟨v2,rfl,hown2⟩,hb2⟩;rw [HBL.out] at hown2;obtain ⟨A2,c2,rfl,_,hs2,_⟩:=hown2.slice int_len;clear hown2;have hx2:Below wr.heap.size wr w2:=belA;have hz2:=hx2.size;obtain ⟨ka2,_,_⟩:=keepB hx2 b5 hbz)
   go_wp2_with fail
   refine hK.out _ _ ⟨?_,?_,?_,?_,?_,?_,?_,?_⟩ (fun hHeld => ?_)
   iterate 8 (simp only [*])
   clear hK K
   (try simp only [Act.put,List.getElem_toArray,List.getElem_cons_zero,List.getElem_cons_succ,List.setIfInBounds_toArray,List.set_cons_zero,List.set_cons_succ])
   refine wpAnyH_ready (rs := [16]) krA spA ?_
   refine AllReadyH.cons rfl (fun K hK => ?_) AllReadyH.nil
   go_simp
   (go_at_call 51;(with_reducible refine (sameInts A1 A2 c1 c2 bl.length bl.length bl bl _ (hs1.next belA) (hs2.next belA) rfl rfl hbll hbll (r:=true) (decide_eq_true rfl)).mono ?_);rintro e w3 ⟨rfl,hb3⟩;have hx3:Below wr.heap.size wr w3:=belA;have hz3:=hx3.size;obtain ⟨ka3,_,_⟩:=keepB hx3 b5 hbz)
   go_wp2_with fail
   refine hK.out _ _ ⟨?_,?_,?_,?_,?_,?_,?_,?_⟩ (fun hHeld => ?_)
   iterate 8 (simp only [*])
   clear hK K
   (try simp only [Act.put,List.getElem_toArray,List.getElem_cons_zero,List.getElem_cons_succ,List.setIfInBounds_toArray,List.set_cons_zero,List.set_cons_succ])
   refine tkH 17 hHeld ?_
   refine tkH 18 hHeld ?_
   refine tkH 19 hHeld ?_
   refine tkH 20 hHeld ?_
   refine tkH 21 hHeld ?_
   refine tkH 22 hHeld ?_
   refine tkH 23 hHeld ?_
   refine tkH 24 hHeld ?_
   refine tkH 25 hHeld ?_
   refine tkH 27 hHeld ?_
   refine tkH 28 hHeld ?_
   refine tkH 29 hHeld ?_
   refine tkH 30 hHeld ?_
   refine tkH 31 hHeld ?_
   refine tkH 32 hHeld ?_
   refine tkH 33 hHeld ?_
   refine wpAnyH_ready (rs := [26]) krA spA ?_
   refine AllReadyH.cons rfl (fun K hK => ?_) AllReadyH.nil
   go_simp
   (go_at_call 54;(with_reducible refine (hold_UntilN A c hs.length hs AL cL l.length l o[m].table o[m].col o[m].seq o[m].record o[m].day o[m].A o[m].cap o[m].own.length o[m].own o[m].null o[m].last day _ (HHR.out.next belA) rfl hn32 HSH.out (HLR.out.next belA) rfl hnl' HSL.out (HIO.out.next belA) rfl hil HRU.out).mono ?_);rintro e w4 ⟨rfl,hb4⟩;have hx4:Below wr.heap.size wr w4:=belA;have hz4:=hx4.size;obtain ⟨ka4,_,_⟩:=keepB hx4 b5 hbz)
   go_wp2_with fail
   refine hK.out _ _ ⟨?_,?_,?_,?_,?_,?_,?_,?_⟩ (fun hHeld => ?_)
   iterate 8 (simp only [*])
   clear hK K
   (try simp only [Act.put,List.getElem_toArray,List.getElem_cons_zero,List.getElem_cons_succ,List.setIfInBounds_toArray,List.set_cons_zero,List.set_cons_succ])
   refine wpAnyH_ready (rs := [34]) krA spA ?_
   refine AllReadyH.cons rfl (fun K hK => ?_) AllReadyH.nil
   go_simp
   (go_at_call 55;(with_reducible refine (ref19_UntilN A c hs.length hs AL cL l.length l o[m].table o[m].col o[m].seq o[m].record o[m].day o[m].A o[m].cap o[m].own.length o[m].own o[m].null o[m].last day _ (HHR.out.next belA) rfl hn32 HSH.out (HLR.out.next belA) rfl hnl' HSL.out (HIO.out.next belA) rfl hil HRU.out).mono ?_);rintro e w5 ⟨rfl,hb5'⟩;have hx5:Below wr.heap.size wr w5:=belA;have hz5:=hx5.size;obtain ⟨ka5,_,_⟩:=keepB hx5 b5 hbz)
   go_wp2_with fail
   refine hK.out _ _ ⟨?_,?_,?_,?_,?_,?_,?_,?_⟩ (fun hHeld => ?_)
   iterate 8 (simp only [*])
   clear hK K
   (try simp only [Act.put,List.getElem_toArray,List.getElem_cons_zero,List.getElem_cons_succ,List.setIfInBounds_toArray,List.set_cons_zero,List.set_cons_succ])
   refine tkH 35 hHeld ?_
   refine tkH 36 hHeld ?_
   refine wpAnyH_done krA ?_ _
   clear hHeld ka1 ka2 ka3 ka4 ka5 g0 g1 g2 g3 g4 g5 g6 g7
   have hy5:=below_nextN hxr hx5 hzr
   obtain ⟨wo,rfl⟩ : ∃ wo:World,wo=w5:=⟨_,rfl⟩
   clear hb1 hb2 hb3 hb4 hx1 hx2 hx3 hx4 hs1 hs2
   go_wp2_with fail
   go_loopw [10] (fun vj wi => ∃ j:Nat,j≤hs.length∧vj = .int .i64 j∧Below wo.heap.size wo wi) (fun vj _=>hs.length - (intOf vj).toNat)
   case atStart=>exact ⟨0,Nat.zero_le _,rfl,Below.refl _ _⟩
   case round =>
    obtain ⟨j,hj,rfl,hbi⟩:=hrel
    have hyi:=below_nextN hy5 hbi hy5.size
    have hyz:=hyi.size
    by_cases hjl:j<hs.length
    ·obtain ⟨b6,o6,rfl,hb6,hc6⟩:=(HH.out.below hyi).get hjl
     obtain ⟨y0,y1,⟨y2,y3,y4,y5⟩,y6,y7,y8⟩:=Hold.cells9 hc6
     obtain ⟨b7,o7,hbe,hb7,hc7⟩:=(HO.out.below hyi).get hlt
     injection hbe with hbe
     injection hbe with hbe1 hbe2
     subst hbe1 hbe2
     obtain ⟨g0,g1,g2,g3,g4,g5,g6,g7⟩:=Owned.cells8 hc7
     have hsm:=HSH.out hs[j] (List.getElem_mem hjl)
     have hk0:=keepQ (w:=wr) b6 omA
     have hk1:=keepQ (w:=wr) b5 omA
     obtain ⟨rc,hrc⟩ : ∃ r,(holdOk hs[j]&&validLinks l&&coversB hs[j] l o[m].table o[m].col o[m].own)=r:=⟨_,rfl⟩
     obtain ⟨ra,hra⟩ : ∃ r,activeOn hs[j] day=r:=⟨_,rfl⟩
     have HRC:=qh hrc
     have HRA:=qh hra
     have HLI:=qh (HL.out.next hyi)
     have HIO2:=qh (((HIN.out o[m] (List.getElem_mem hlt)).1.below hyi).mono hyz)
     clear hc6 hc7 hrc hra
     go_upto_region 11 with (fail)
     refine wp_region_bel krA krA ?_;(repeat (go_big_quiet_step ((first
      | (go_at_call 56;with_reducible exact bel_of (hold_Covers hs[j] AL cL l.length l o[m].table o[m].col o[m].seq o[m].record o[m].day o[m].A o[m].cap o[m].own.length o[m].own o[m].null o[m].last _ (HLI.out.next (BelOf.h _)) rfl hnl' HSL.out hsm (HIO2.out.next (BelOf.h _)) rfl hil HRC.out))
      | (go_at_call 57;with_reducible exact bel_of (ref19_Covers hs[j] AL cL l.length l o[m].table o[m].col o[m].seq o[m].record o[m].day o[m].A o[m].cap o[m].own.length o[m].own o[m].null o[m].last _ (HLI.out.next (BelOf.h _)) rfl hnl' HSL.out hsm (HIO2.out.next (BelOf.h _)) rfl hil HRC.out))
      | (go_at_call 58;with_reducible exact bel_of_ext (hold_ActiveB hs[j] day _ HRA.out))
      | (go_at_call 59;with_reducible exact bel_of_ext (ref19_Active hs[j] day _ HRA.out))))));refine wpQuiet_nil ?_;intro wq hq
     clear hk0 hk1 y0 y1 y2 y3 y4 y5 y6 y7 y8 g0 g1 g2 g3 g4 g5 g6 g7
     go_wp2_with fail
     go_roundw
     case rel=>exact ⟨j + 1,by omega,by go_num,below_nextN hbi hq hbi.size⟩
     case measure=>simp [intOf];omega
    ·have hjl':decide (j<hs.length)=false:=by simpa using hjl
     go_wp2_with fail
     go_roundw
     case rel=>exact ⟨m + 1,by omega,by go_num,hyi⟩
     case measure=>simp [intOf];omega
  ·have hlt':decide (m<o.length)=false:=by simpa using hlt
   go_wp2_with fail
   go_ret
   exact ⟨rfl,hxr⟩
end Go.Proofs.YtlpgmdhnjckplaaGreat
