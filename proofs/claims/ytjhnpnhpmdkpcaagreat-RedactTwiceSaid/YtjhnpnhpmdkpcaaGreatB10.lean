/-
  Contracts and plain laws of this seat, part 10: Oth, ORef1, ORef2, ORefB, ORef3, ColAt, ORef4.
-/
import Derived.Test.YtjhnpnhpmdkpcaaGreatB6
import Derived.Test.YtjhnpnhpmdkpcaaGreatB5
set_option linter.unusedVariables false
set_option linter.unusedSimpArgs false
set_option maxRecDepth 100000
set_option maxHeartbeats 16000000
namespace Go.Proofs.YtjhnpnhpmdkpcaaGreat
open Go.RowKit Go
structure Idx where
 name:ByteArray
 src:ByteArray
 col:Int
structure Skt where
 name:ByteArray
 src:ByteArray
 col:Int
 kind:Int
 width:Int
 depth:Int
structure Cch where
 name:ByteArray
 src:ByteArray
 col:Int
 ttl:Int
structure Rel where
 name:ByteArray
 src:ByteArray
 thr:Int
structure Stm where
 name:ByteArray
 tab:ByteArray
structure Bak where
 name:ByteArray
 A:Option Addr
 n:Nat
 c:Nat
 keep:Int
def Idx.cells (x:Idx):List Value := [.string x.name, .string x.src, .int .i64 x.col]
def Skt.cells (x:Skt):List Value := [.string x.name, .string x.src, .int .i64 x.col, .int .i64 x.kind, .int .i64 x.width, .int .i64 x.depth]
def Cch.cells (x:Cch):List Value := [.string x.name, .string x.src, .int .i64 x.col, .int .i64 x.ttl]
def Rel.cells (x:Rel):List Value := [.string x.name, .string x.src, .int .i64 x.thr]
def Stm.cells (x:Stm):List Value := [.string x.name, .string x.tab]
def Bak.cells (x:Bak):List Value := [.string x.name, .slice x.A x.n x.c, .int .i64 x.keep]
structure Oth where
 vA:Option Addr
 vc:Nat
 iA:Option Addr
 ic:Nat
 idx:List Idx
 sA:Option Addr
 sc:Nat
 skt:List Skt
 cA:Option Addr
 cc:Nat
 cch:List Cch
 rA:Option Addr
 rc:Nat
 rel:List Rel
 tA:Option Addr
 tc:Nat
 str:List Stm
 bA:Option Addr
 bc:Nat
 bak:List Bak
structure OthIn (w:World) (B:Nat) (o:Oth):Prop where
 idx:SliceIs w B Idx.cells 3 o.iA o.idx
 skt:SliceIs w B Skt.cells 6 o.sA o.skt
 cch:SliceIs w B Cch.cells 4 o.cA o.cch
 rel:SliceIs w B Rel.cells 3 o.rA o.rel
 str:SliceIs w B Stm.cells 2 o.tA o.str
 bak:SliceIs w B Bak.cells 3 o.bA o.bak
theorem OthIn.below {w w':World} {B:Nat} {o:Oth} (h:OthIn w B o) (hb:Below B w w'):OthIn w' B o:=⟨h.idx.below hb,h.skt.below hb,h.cch.below hb,h.rel.below hb,h.str.below hb,h.bak.below hb⟩
theorem OthIn.mono {w:World} {B B':Nat} {o:Oth} (h:OthIn w B o) (hb:B≤B'):OthIn w B' o:=⟨h.idx.mono hb,h.skt.mono hb,h.cch.mono hb,h.rel.mono hb,h.str.mono hb,h.bak.mono hb⟩
theorem OthIn.next {w w':World} {o:Oth} (h:OthIn w w.heap.size o) (hb:Below w.heap.size w w'):OthIn w' w'.heap.size o:=(h.below hb).mono hb.size
def Oth.names (o:Oth):List ByteArray:=o.idx.map Idx.name++(o.skt.map Skt.name++(o.cch.map Cch.name++(o.rel.map Rel.name++(o.str.map Stm.name++o.bak.map Bak.name))))
structure SaneO (o:Oth):Prop where
 idx:o.idx.length ≤ 100
 skt:o.skt.length ≤ 100
 cch:o.cch.length ≤ 100
 rel:o.rel.length ≤ 100
 str:o.str.length ≤ 100
 bak:o.bak.length ≤ 100
 names : ∀ x∈o.names,x.size ≤ 1000000
 isrc : ∀ x∈o.idx,x.src.size ≤ 1000000
 ssrc : ∀ x∈o.skt,x.src.size ≤ 1000000
 csrc : ∀ x∈o.cch,x.src.size ≤ 1000000
 rsrc : ∀ x∈o.rel,x.src.size ≤ 1000000
theorem SaneO.len {o:Oth} (h:SaneO o):o.names.length ≤ 600:=by
 have h1:=h.idx
 have h2:=h.skt
 have h3:=h.cch
 have h4:=h.rel
 have h5:=h.str
 have h6:=h.bak
 simp only [Oth.names,List.length_append,List.length_map]
 omega
theorem Cat.blkO {w:World} {g:Nat} {a0 a1 a2 a3 a4 a5 a6 a7:Value} (k:Blk w g 34 #[a0,a1,a2,a3,a4,a5,a6,a7]) :
 w.cell? ⟨g,0,none⟩=some a0∧w.cell? ⟨g,1,none⟩=some a1∧w.cell? ⟨g,2,none⟩=some a2∧w.cell? ⟨g,3,none⟩=some a3∧w.cell? ⟨g,4,none⟩=some a4∧w.cell? ⟨g,5,none⟩=some a5∧w.cell? ⟨g,6,none⟩=some a6∧w.cell? ⟨g,7,none⟩=some a7 :=
 ⟨k.cell 0,k.cell 1,k.cell 2,k.cell 3,k.cell 4,k.cell 5,k.cell 6,k.cell 7⟩
theorem ref04_namesO (A:Option Addr) (c n:Nat) (ts:List Tab) (o:Oth) (w:World) (ht:SliceIs w w.heap.size Tab.cells 4 A ts) (ho:OthIn w w.heap.size o) (hso:SaneO o) (hn:ts.length=n) (hl:n ≤ 1000000) :
 Calls Tryz.prog 92 #[.agg #[.slice A n c, .slice o.vA 0 o.vc, .slice o.iA o.idx.length o.ic, .slice o.sA o.skt.length o.sc, .slice o.cA o.cch.length o.cc, .slice o.rA o.rel.length o.rc, .slice o.tA o.str.length o.tc, .slice o.bA o.bak.length o.bc]] w fun e w' =>
  (∃ A' c',e = .returned (.slice A' (ts.length+o.names.length) c')∧SliceIs w' w'.heap.size strCells 1 A' (ts.map Tab.name++o.names))∧Below w.heap.size w w':=by
 subst hn
 obtain ⟨i0,hi0,hz0,hz1,hz2⟩:=info_parts infoStr
 have HT:=qh ht
 have HO:=qh ho
 have hs1:=hso.idx
 have hs2:=hso.skt
 have hs3:=hso.cch
 have hs4:=hso.rel
 have hs5:=hso.str
 have hs6:=hso.bak
 clear ht ho hso
 go_enter Tryz.func92,Tryz.ntmps92
 go_upto_region 1 with (fail)
 refine abs_world (P:=fun u=>Code.wp _ _ _ _ u) (R:=fun u=>Blk u w.heap.size 34 #[.slice A ts.length c, .slice o.vA 0 o.vc, .slice o.iA o.idx.length o.ic, .slice o.sA o.skt.length o.sc, .slice o.cA o.cch.length o.cc, .slice o.rA o.rel.length o.rc, .slice o.tA o.str.length o.tc, .slice o.bA o.bak.length o.bc]∧Below w.heap.size w u) ⟨?_,?_⟩ ?_
 ·exact Blk.new _ _ _
 ·exact belA
 rintro W ⟨hB,hbW⟩
 have hzW:=hB.lt
 have HB:=qh hB
 clear hB
 go_wp2_with fail
 go_loopw [3,4] (fun vo vi wr => ∃ m:Nat,m≤ts.length∧vi = .int .i64 m∧Owns wr W.heap.size 9 strCells 1 vo ((ts.take m).map Tab.name)∧Below W.heap.size W wr) (fun _ vi _=>ts.length - (intOf vi).toNat)
 case atStart=>exact ⟨0,Nat.zero_le _,rfl,Owns.nil,Below.refl _ _⟩
 case round =>
  obtain ⟨m,hm,rfl,hown,hbr⟩:=hrel
  have hwz:=hbr.size
  have hxr:=below_nextN hbW hbr hbW.size
  obtain ⟨q0,q1,q2,q3,q4,q5,q6,q7⟩:=Cat.blkO (HB.out.below hbr hzW)
  by_cases hlt:m<ts.length
  ·obtain ⟨b5,o5,he5,hb5,hc5⟩:=(HT.out.below hxr).get hlt
   have x0:=hc5 0 _ rfl
   simp only [Nat.add_zero] at x0
   have HOWN:=qh hown
   have hrow:=hown.row
   obtain ⟨LL,hLL⟩ : ∃ LL,(ts.take m).map Tab.name=LL:=⟨_,rfl⟩
   have HML:Hid (LL.length ≤ 1000000 + 600):=qh (by rw [← hLL];simp;omega)
   have HNX:Hid ((ts.take (m + 1)).map Tab.name=LL ++ [ts[m].name]):=qh (by rw [← hLL,List.take_succ_eq_append_getElem hlt,List.map_append];simp)
   rw [hLL] at HOWN
   clear hc5 hown hLL
   subst he5
   go_upto_region 5 with (fail)
   have hO2:=qh (HOWN.out.alloc (.cells (strCells ts[m].name).toArray 9))
   go_wp2_with (at_builtin;go_must ((refine wpList_append_list _ rfl (.tmp 19) (.tmp 26) 111 rfl 9 i0 _ strCells 1 16 Tryz.underlying111 hi0 hz0 hz1 hz2 rfl omA str_len str_one W.heap.size u3 LL rfl hO2.out _ _ _ [ts[m].name] rfl rfl (Blk.one (enc:=strCells) (x:=ts[m].name) (Blk.new' rfl) spA) (by have:=HML.out;simp;omega) (by have:=HML.out;simp [maxLen];omega) smA ?_);intro v' w3 hown' hg' hat';have HOWN':=qh hown';clear hown';have hbel:Below W.heap.size W w3:=Below.grown (hbr.alloc omA _) hg' smA hrow))
   go_roundw
   case rel=>exact ⟨m + 1,by omega,by go_num,by rw [HNX.out];exact HOWN'.out,hbel⟩
   case measure=>exact meA
  ·have hlt':decide (m<ts.length)=false:=by simpa using hlt
   obtain rfl:m=ts.length:=by omega
   rw [List.take_length] at hown
   obtain ⟨L2,hL2⟩ : ∃ L2,ts.map Tab.name=L2:=⟨_,rfl⟩
   have HE2:=qh hL2
   have hl2:L2.length=ts.length:=by rw [← hL2,List.length_map]
   rw [hL2] at hown
   have HP2:=qh hown
   have HB2:=qh hbr
   clear hown hL2 hlt hlt' hxr hwz
   obtain ⟨wo,rfl⟩ : ∃ wo:World,wo=wr:=⟨_,rfl⟩
   go_wp2_with fail
   obtain ⟨A9,c9,hv9,_,_⟩:=HP2.out.form
   subst hv9
   go_loopw [3,5] (fun vl vi wi=>vl = .slice A9 L2.length c9∧vi = .int .i64 0∧wo=wi) (fun _ _ _ => 0)
   case atStart=>exact ⟨rfl,rfl,rfl⟩
   obtain ⟨rfl,rfl,rfl⟩:=hrel
   clear q0 q1 q2 q3 q4 q5 q6 q7
   obtain ⟨q0,q1,q2,q3,q4,q5,q6,q7⟩:=Cat.blkO (HB.out.below HB2.out hzW)
   go_wp2_with fail
   clear q0 q1 q2 q3 q4 q5 q6 q7
   go_loopw [3,6] (fun vo vi wr => ∃ m:Nat,m≤o.idx.length∧vi = .int .i64 m∧Owns wr W.heap.size 9 strCells 1 vo (L2++(o.idx.take m).map Idx.name)∧Below W.heap.size W wr) (fun _ vi _=>o.idx.length - (intOf vi).toNat)
   case atStart=>exact ⟨0,Nat.zero_le _,rfl,by simpa using HP2.out,HB2.out⟩
   case round =>
    obtain ⟨m,hm,rfl,hown,hbr⟩:=hrel
    have hwz:=hbr.size
    have hxr:=below_nextN hbW hbr hbW.size
    obtain ⟨q0,q1,q2,q3,q4,q5,q6,q7⟩:=Cat.blkO (HB.out.below hbr hzW)
    by_cases hlt:m<o.idx.length
    ·obtain ⟨b5,o5,he5,hb5,hc5⟩:=(HO.out.idx.below hxr).get hlt
     have x0:=hc5 0 _ rfl
     simp only [Nat.add_zero] at x0
     have HOWN:=qh hown
     have hrow:=hown.row
     obtain ⟨LL,hLL⟩ : ∃ LL,L2++(o.idx.take m).map Idx.name=LL:=⟨_,rfl⟩
     have HML:Hid (LL.length ≤ 1000000 + 600):=qh (by rw [← hLL];simp;omega)
     have HNX:Hid (L2++(o.idx.take (m + 1)).map Idx.name=LL ++ [o.idx[m].name]):=qh (by rw [← hLL,List.take_succ_eq_append_getElem hlt,List.map_append];simp)
     rw [hLL] at HOWN
     clear hc5 hown hLL
     rw [he5] at q2
     clear he5
     go_upto_region 13 with (fail)
     have hO2:=qh (HOWN.out.alloc (.cells (strCells o.idx[m].name).toArray 9))
     go_wp2_with (at_builtin;go_must ((refine wpList_append_list _ rfl (.tmp 51) (.tmp 58) 111 rfl 9 i0 _ strCells 1 16 Tryz.underlying111 hi0 hz0 hz1 hz2 rfl omA str_len str_one W.heap.size u3 LL rfl hO2.out _ _ _ [o.idx[m].name] rfl rfl (Blk.one (enc:=strCells) (x:=o.idx[m].name) (Blk.new' rfl) spA) (by have:=HML.out;simp;omega) (by have:=HML.out;simp [maxLen];omega) smA ?_);intro v' w3 hown' hg' hat';have HOWN':=qh hown';clear hown';have hbel:Below W.heap.size W w3:=Below.grown (hbr.alloc omA _) hg' smA hrow))
     go_roundw
     case rel=>exact ⟨m + 1,by omega,by go_num,by rw [HNX.out];exact HOWN'.out,hbel⟩
     case measure=>exact meA
    ·have hlt':decide (m<o.idx.length)=false:=by simpa using hlt
     obtain rfl:m=o.idx.length:=by omega
     rw [List.take_length] at hown
     obtain ⟨L3,hL3⟩ : ∃ L3,L2++o.idx.map Idx.name=L3:=⟨_,rfl⟩
     have HE3:=qh hL3
     have hl3:L3.length=L2.length+o.idx.length:=by rw [← hL3,List.length_append,List.length_map]
     rw [hL3] at hown
     have HP3:=qh hown
     have HB3:=qh hbr
     clear hown hL3 hlt hxr hwz
     clear q0 q1 q2 q3 q4 q5 q6 q7
     obtain ⟨q0,q1,q2,q3,q4,q5,q6,q7⟩:=Cat.blkO (HB.out.below HB3.out hzW)
     go_wp2_with fail
     clear q0 q1 q2 q3 q4 q5 q6 q7
     go_loopw [3,7] (fun vo vi wr => ∃ m:Nat,m≤o.skt.length∧vi = .int .i64 m∧Owns wr W.heap.size 9 strCells 1 vo (L3++(o.skt.take m).map Skt.name)∧Below W.heap.size W wr) (fun _ vi _=>o.skt.length - (intOf vi).toNat)
     case atStart=>exact ⟨0,Nat.zero_le _,rfl,by simpa using HP3.out,HB3.out⟩
     case round =>
      obtain ⟨m,hm,rfl,hown,hbr⟩:=hrel
      have hwz:=hbr.size
      have hxr:=below_nextN hbW hbr hbW.size
      obtain ⟨q0,q1,q2,q3,q4,q5,q6,q7⟩:=Cat.blkO (HB.out.below hbr hzW)
      by_cases hlt:m<o.skt.length
      ·obtain ⟨b5,o5,he5,hb5,hc5⟩:=(HO.out.skt.below hxr).get hlt
       have x0:=hc5 0 _ rfl
       simp only [Nat.add_zero] at x0
       have HOWN:=qh hown
       have hrow:=hown.row
       obtain ⟨LL,hLL⟩ : ∃ LL,L3++(o.skt.take m).map Skt.name=LL:=⟨_,rfl⟩
       have HML:Hid (LL.length ≤ 1000000 + 600):=qh (by rw [← hLL];simp;omega)
       have HNX:Hid (L3++(o.skt.take (m + 1)).map Skt.name=LL ++ [o.skt[m].name]):=qh (by rw [← hLL,List.take_succ_eq_append_getElem hlt,List.map_append];simp)
       rw [hLL] at HOWN
       clear hc5 hown hLL
       rw [he5] at q3
       clear he5
       go_upto_region 17 with (fail)
       have hO2:=qh (HOWN.out.alloc (.cells (strCells o.skt[m].name).toArray 9))
       go_wp2_with (at_builtin;go_must ((refine wpList_append_list _ rfl (.tmp 67) (.tmp 74) 111 rfl 9 i0 _ strCells 1 16 Tryz.underlying111 hi0 hz0 hz1 hz2 rfl omA str_len str_one W.heap.size u3 LL rfl hO2.out _ _ _ [o.skt[m].name] rfl rfl (Blk.one (enc:=strCells) (x:=o.skt[m].name) (Blk.new' rfl) spA) (by have:=HML.out;simp;omega) (by have:=HML.out;simp [maxLen];omega) smA ?_);intro v' w3 hown' hg' hat';have HOWN':=qh hown';clear hown';have hbel:Below W.heap.size W w3:=Below.grown (hbr.alloc omA _) hg' smA hrow))
       go_roundw
       case rel=>exact ⟨m + 1,by omega,by go_num,by rw [HNX.out];exact HOWN'.out,hbel⟩
       case measure=>exact meA
      ·have hlt':decide (m<o.skt.length)=false:=by simpa using hlt
       obtain rfl:m=o.skt.length:=by omega
       rw [List.take_length] at hown
       obtain ⟨L4,hL4⟩ : ∃ L4,L3++o.skt.map Skt.name=L4:=⟨_,rfl⟩
       have HE4:=qh hL4
       have hl4:L4.length=L3.length+o.skt.length:=by rw [← hL4,List.length_append,List.length_map]
       rw [hL4] at hown
       have HP4:=qh hown
       have HB4:=qh hbr
       clear hown hL4 hlt hxr hwz
       clear q0 q1 q2 q3 q4 q5 q6 q7
       obtain ⟨q0,q1,q2,q3,q4,q5,q6,q7⟩:=Cat.blkO (HB.out.below HB4.out hzW)
       go_wp2_with fail
       clear q0 q1 q2 q3 q4 q5 q6 q7
       go_loopw [3,8] (fun vo vi wr => ∃ m:Nat,m≤o.cch.length∧vi = .int .i64 m∧Owns wr W.heap.size 9 strCells 1 vo (L4++(o.cch.take m).map Cch.name)∧Below W.heap.size W wr) (fun _ vi _=>o.cch.length - (intOf vi).toNat)
       case atStart=>exact ⟨0,Nat.zero_le _,rfl,by simpa using HP4.out,HB4.out⟩
       case round =>
        obtain ⟨m,hm,rfl,hown,hbr⟩:=hrel
        have hwz:=hbr.size
        have hxr:=below_nextN hbW hbr hbW.size
        obtain ⟨q0,q1,q2,q3,q4,q5,q6,q7⟩:=Cat.blkO (HB.out.below hbr hzW)
        by_cases hlt:m<o.cch.length
        ·obtain ⟨b5,o5,he5,hb5,hc5⟩:=(HO.out.cch.below hxr).get hlt
         have x0:=hc5 0 _ rfl
         simp only [Nat.add_zero] at x0
         have HOWN:=qh hown
         have hrow:=hown.row
         obtain ⟨LL,hLL⟩ : ∃ LL,L4++(o.cch.take m).map Cch.name=LL:=⟨_,rfl⟩
         have HML:Hid (LL.length ≤ 1000000 + 600):=qh (by rw [← hLL];simp;omega)
         have HNX:Hid (L4++(o.cch.take (m + 1)).map Cch.name=LL ++ [o.cch[m].name]):=qh (by rw [← hLL,List.take_succ_eq_append_getElem hlt,List.map_append];simp)
         rw [hLL] at HOWN
         clear hc5 hown hLL
         rw [he5] at q4
         clear he5
         go_upto_region 21 with (fail)
         have hO2:=qh (HOWN.out.alloc (.cells (strCells o.cch[m].name).toArray 9))
         go_wp2_with (at_builtin;go_must ((refine wpList_append_list _ rfl (.tmp 83) (.tmp 90) 111 rfl 9 i0 _ strCells 1 16 Tryz.underlying111 hi0 hz0 hz1 hz2 rfl omA str_len str_one W.heap.size u3 LL rfl hO2.out _ _ _ [o.cch[m].name] rfl rfl (Blk.one (enc:=strCells) (x:=o.cch[m].name) (Blk.new' rfl) spA) (by have:=HML.out;simp;omega) (by have:=HML.out;simp [maxLen];omega) smA ?_);intro v' w3 hown' hg' hat';have HOWN':=qh hown';clear hown';have hbel:Below W.heap.size W w3:=Below.grown (hbr.alloc omA _) hg' smA hrow))
         go_roundw
         case rel=>exact ⟨m + 1,by omega,by go_num,by rw [HNX.out];exact HOWN'.out,hbel⟩
         case measure=>exact meA
        ·have hlt':decide (m<o.cch.length)=false:=by simpa using hlt
         obtain rfl:m=o.cch.length:=by omega
         rw [List.take_length] at hown
         obtain ⟨L5,hL5⟩ : ∃ L5,L4++o.cch.map Cch.name=L5:=⟨_,rfl⟩
         have HE5:=qh hL5
         have hl5:L5.length=L4.length+o.cch.length:=by rw [← hL5,List.length_append,List.length_map]
         rw [hL5] at hown
         have HP5:=qh hown
         have HB5:=qh hbr
         clear hown hL5 hlt hxr hwz
         clear q0 q1 q2 q3 q4 q5 q6 q7
         obtain ⟨q0,q1,q2,q3,q4,q5,q6,q7⟩:=Cat.blkO (HB.out.below HB5.out hzW)
         go_wp2_with fail
         clear q0 q1 q2 q3 q4 q5 q6 q7
         go_loopw [3,9] (fun vo vi wr => ∃ m:Nat,m≤o.rel.length∧vi = .int .i64 m∧Owns wr W.heap.size 9 strCells 1 vo (L5++(o.rel.take m).map Rel.name)∧Below W.heap.size W wr) (fun _ vi _=>o.rel.length - (intOf vi).toNat)
         case atStart=>exact ⟨0,Nat.zero_le _,rfl,by simpa using HP5.out,HB5.out⟩
         case round =>
          obtain ⟨m,hm,rfl,hown,hbr⟩:=hrel
          have hwz:=hbr.size
          have hxr:=below_nextN hbW hbr hbW.size
          obtain ⟨q0,q1,q2,q3,q4,q5,q6,q7⟩:=Cat.blkO (HB.out.below hbr hzW)
          by_cases hlt:m<o.rel.length
          ·obtain ⟨b5,o5,he5,hb5,hc5⟩:=(HO.out.rel.below hxr).get hlt
           have x0:=hc5 0 _ rfl
           simp only [Nat.add_zero] at x0
           have HOWN:=qh hown
           have hrow:=hown.row
           obtain ⟨LL,hLL⟩ : ∃ LL,L5++(o.rel.take m).map Rel.name=LL:=⟨_,rfl⟩
           have HML:Hid (LL.length ≤ 1000000 + 600):=qh (by rw [← hLL];simp;omega)
           have HNX:Hid (L5++(o.rel.take (m + 1)).map Rel.name=LL ++ [o.rel[m].name]):=qh (by rw [← hLL,List.take_succ_eq_append_getElem hlt,List.map_append];simp)
           rw [hLL] at HOWN
           clear hc5 hown hLL
           rw [he5] at q5
           clear he5
           go_upto_region 25 with (fail)
           have hO2:=qh (HOWN.out.alloc (.cells (strCells o.rel[m].name).toArray 9))
           go_wp2_with (at_builtin;go_must ((refine wpList_append_list _ rfl (.tmp 99) (.tmp 106) 111 rfl 9 i0 _ strCells 1 16 Tryz.underlying111 hi0 hz0 hz1 hz2 rfl omA str_len str_one W.heap.size u3 LL rfl hO2.out _ _ _ [o.rel[m].name] rfl rfl (Blk.one (enc:=strCells) (x:=o.rel[m].name) (Blk.new' rfl) spA) (by have:=HML.out;simp;omega) (by have:=HML.out;simp [maxLen];omega) smA ?_);intro v' w3 hown' hg' hat';have HOWN':=qh hown';clear hown';have hbel:Below W.heap.size W w3:=Below.grown (hbr.alloc omA _) hg' smA hrow))
           go_roundw
           case rel=>exact ⟨m + 1,by omega,by go_num,by rw [HNX.out];exact HOWN'.out,hbel⟩
           case measure=>exact meA
          ·have hlt':decide (m<o.rel.length)=false:=by simpa using hlt
           obtain rfl:m=o.rel.length:=by omega
           rw [List.take_length] at hown
           obtain ⟨L6,hL6⟩ : ∃ L6,L5++o.rel.map Rel.name=L6:=⟨_,rfl⟩
           have HE6:=qh hL6
           have hl6:L6.length=L5.length+o.rel.length:=by rw [← hL6,List.length_append,List.length_map]
           rw [hL6] at hown
           have HP6:=qh hown
           have HB6:=qh hbr
           clear hown hL6 hlt hxr hwz
           clear q0 q1 q2 q3 q4 q5 q6 q7
           obtain ⟨q0,q1,q2,q3,q4,q5,q6,q7⟩:=Cat.blkO (HB.out.below HB6.out hzW)
           go_wp2_with fail
           clear q0 q1 q2 q3 q4 q5 q6 q7
           go_loopw [3,10] (fun vo vi wr => ∃ m:Nat,m≤o.str.length∧vi = .int .i64 m∧Owns wr W.heap.size 9 strCells 1 vo (L6++(o.str.take m).map Stm.name)∧Below W.heap.size W wr) (fun _ vi _=>o.str.length - (intOf vi).toNat)
           case atStart=>exact ⟨0,Nat.zero_le _,rfl,by simpa using HP6.out,HB6.out⟩
           case round =>
            obtain ⟨m,hm,rfl,hown,hbr⟩:=hrel
            have hwz:=hbr.size
            have hxr:=below_nextN hbW hbr hbW.size
            obtain ⟨q0,q1,q2,q3,q4,q5,q6,q7⟩:=Cat.blkO (HB.out.below hbr hzW)
            by_cases hlt:m<o.str.length
            ·obtain ⟨b5,o5,he5,hb5,hc5⟩:=(HO.out.str.below hxr).get hlt
             have x0:=hc5 0 _ rfl
             simp only [Nat.add_zero] at x0
             have HOWN:=qh hown
             have hrow:=hown.row
             obtain ⟨LL,hLL⟩ : ∃ LL,L6++(o.str.take m).map Stm.name=LL:=⟨_,rfl⟩
             have HML:Hid (LL.length ≤ 1000000 + 600):=qh (by rw [← hLL];simp;omega)
             have HNX:Hid (L6++(o.str.take (m + 1)).map Stm.name=LL ++ [o.str[m].name]):=qh (by rw [← hLL,List.take_succ_eq_append_getElem hlt,List.map_append];simp)
             rw [hLL] at HOWN
             clear hc5 hown hLL
             rw [he5] at q6
             clear he5
             go_upto_region 29 with (fail)
             have hO2:=qh (HOWN.out.alloc (.cells (strCells o.str[m].name).toArray 9))
             go_wp2_with (at_builtin;go_must ((refine wpList_append_list _ rfl (.tmp 115) (.tmp 122) 111 rfl 9 i0 _ strCells 1 16 Tryz.underlying111 hi0 hz0 hz1 hz2 rfl omA str_len str_one W.heap.size u3 LL rfl hO2.out _ _ _ [o.str[m].name] rfl rfl (Blk.one (enc:=strCells) (x:=o.str[m].name) (Blk.new' rfl) spA) (by have:=HML.out;simp;omega) (by have:=HML.out;simp [maxLen];omega) smA ?_);intro v' w3 hown' hg' hat';have HOWN':=qh hown';clear hown';have hbel:Below W.heap.size W w3:=Below.grown (hbr.alloc omA _) hg' smA hrow))
             go_roundw
             case rel=>exact ⟨m + 1,by omega,by go_num,by rw [HNX.out];exact HOWN'.out,hbel⟩
             case measure=>exact meA
            ·have hlt':decide (m<o.str.length)=false:=by simpa using hlt
             obtain rfl:m=o.str.length:=by omega
             rw [List.take_length] at hown
             obtain ⟨L7,hL7⟩ : ∃ L7,L6++o.str.map Stm.name=L7:=⟨_,rfl⟩
             have HE7:=qh hL7
             have hl7:L7.length=L6.length+o.str.length:=by rw [← hL7,List.length_append,List.length_map]
             rw [hL7] at hown
             have HP7:=qh hown
             have HB7:=qh hbr
             clear hown hL7 hlt hxr hwz
             clear q0 q1 q2 q3 q4 q5 q6 q7
             obtain ⟨q0,q1,q2,q3,q4,q5,q6,q7⟩:=Cat.blkO (HB.out.below HB7.out hzW)
             go_wp2_with fail
             clear q0 q1 q2 q3 q4 q5 q6 q7
             go_loopw [3,11] (fun vo vi wr => ∃ m:Nat,m≤o.bak.length∧vi = .int .i64 m∧Owns wr W.heap.size 9 strCells 1 vo (L7++(o.bak.take m).map Bak.name)∧Below W.heap.size W wr) (fun _ vi _=>o.bak.length - (intOf vi).toNat)
             case atStart=>exact ⟨0,Nat.zero_le _,rfl,by simpa using HP7.out,HB7.out⟩
             case round =>
              obtain ⟨m,hm,rfl,hown,hbr⟩:=hrel
              have hwz:=hbr.size
              have hxr:=below_nextN hbW hbr hbW.size
              obtain ⟨q0,q1,q2,q3,q4,q5,q6,q7⟩:=Cat.blkO (HB.out.below hbr hzW)
              by_cases hlt:m<o.bak.length
              ·obtain ⟨b5,o5,he5,hb5,hc5⟩:=(HO.out.bak.below hxr).get hlt
               have x0:=hc5 0 _ rfl
               simp only [Nat.add_zero] at x0
               have HOWN:=qh hown
               have hrow:=hown.row
               obtain ⟨LL,hLL⟩ : ∃ LL,L7++(o.bak.take m).map Bak.name=LL:=⟨_,rfl⟩
               have HML:Hid (LL.length ≤ 1000000 + 600):=qh (by rw [← hLL];simp;omega)
               have HNX:Hid (L7++(o.bak.take (m + 1)).map Bak.name=LL ++ [o.bak[m].name]):=qh (by rw [← hLL,List.take_succ_eq_append_getElem hlt,List.map_append];simp)
               rw [hLL] at HOWN
               clear hc5 hown hLL
               rw [he5] at q7
               clear he5
               go_upto_region 33 with (fail)
               have hO2:=qh (HOWN.out.alloc (.cells (strCells o.bak[m].name).toArray 9))
               go_wp2_with (at_builtin;go_must ((refine wpList_append_list _ rfl (.tmp 131) (.tmp 138) 111 rfl 9 i0 _ strCells 1 16 Tryz.underlying111 hi0 hz0 hz1 hz2 rfl omA str_len str_one W.heap.size u3 LL rfl hO2.out _ _ _ [o.bak[m].name] rfl rfl (Blk.one (enc:=strCells) (x:=o.bak[m].name) (Blk.new' rfl) spA) (by have:=HML.out;simp;omega) (by have:=HML.out;simp [maxLen];omega) smA ?_);intro v' w3 hown' hg' hat';have HOWN':=qh hown';clear hown';have hbel:Below W.heap.size W w3:=Below.grown (hbr.alloc omA _) hg' smA hrow))
               go_roundw
               case rel=>exact ⟨m + 1,by omega,by go_num,by rw [HNX.out];exact HOWN'.out,hbel⟩
               case measure=>exact meA
              ·have hlt':decide (m<o.bak.length)=false:=by simpa using hlt
               obtain rfl:m=o.bak.length:=by omega
               rw [List.take_length] at hown
               obtain ⟨A8,c8,rfl,hc8,hs8,hA8⟩:=hown.slice str_len
               have HFE:Hid (L7++o.bak.map Bak.name=ts.map Tab.name++o.names):=qh (by rw [← HE7.out,← HE6.out,← HE5.out,← HE4.out,← HE3.out,← HE2.out];simp only [Oth.names,List.append_assoc])
               have HS8:=qh hs8
               have HLN:Hid ((L7++o.bak.map Bak.name).length=ts.length+o.names.length):=qh (by rw [HFE.out,List.length_append,List.length_map])
               rw [HLN.out]
               clear hs8 hown
               go_wp2_with fail
               go_ret
               exact ⟨⟨A8,c8,rfl,by rw [← HFE.out];exact HS8.out⟩,hxr⟩
open Go.RowKit Go
theorem ref04_findO (A:Option Addr) (c n:Nat) (ts:List Tab) (s:ByteArray) (k:Int) (o:Oth) (w:World) (ht:SliceIs w w.heap.size Tab.cells 4 A ts) (ho:OthIn w w.heap.size o) (hso:SaneO o) (hn:ts.length=n) (hl:n ≤ 1000000) {r:Int} (hr:findI (ts.map Tab.name) s k=r) :
 Calls Tryz.prog 129 #[.agg #[.slice A n c, .slice o.vA 0 o.vc, .slice o.iA o.idx.length o.ic, .slice o.sA o.skt.length o.sc, .slice o.cA o.cch.length o.cc, .slice o.rA o.rel.length o.rc, .slice o.tA o.str.length o.tc, .slice o.bA o.bak.length o.bc], .string s, .int .i64 k] w fun e w'=>e = .returned (.int .i64 r)∧Below w.heap.size w w':=by
 subst hn hr
 have HT:=qh ht
 have HO:=qh ho
 have HSO:=qh hso
 clear ht ho hso
 go_enter Tryz.func129,Tryz.ntmps129
 go_wp2_with fail
 (with_reducible refine (ref04_namesO A c ts.length ts o _ (HT.out.next belA) (HO.out.next belA) HSO.out rfl hl).mono ?_)
 rintro e W ⟨⟨A1,c1,rfl,hs0⟩,hb1⟩
 have hs1:SliceIs W W.heap.size strCells 1 A1 (ts.map Tab.name):=by
  have h:=hs0.take ts.length
  rwa [List.take_left' spA] at h
 have hol:ts.length≤ts.length+o.names.length:=by omega
 clear hs0
 have hxW:Below w.heap.size w W:=below_nextN belA hb1 leA
 have hB:Blk W w.heap.size 34 #[.slice A ts.length c, .slice o.vA 0 o.vc, .slice o.iA o.idx.length o.ic, .slice o.sA o.skt.length o.sc, .slice o.cA o.cch.length o.cc, .slice o.rA o.rel.length o.rc, .slice o.tA o.str.length o.tc, .slice o.bA o.bak.length o.bc]:=(Blk.new _ _ _).below hb1 spA
 obtain ⟨q0,q1,q2,q3,q4,q5,q6,q7⟩:=Cat.blkO hB
 obtain ⟨nl,hnl⟩ : ∃ nl,ts.map Tab.name=nl:=⟨_,rfl⟩
 have hnll:nl.length=ts.length:=by rw [← hnl,List.length_map]
 rw [hnl] at hs1
 have HNL:=qh hnl
 have HN:=qh hnll
 have HS:=qh hs1
 clear hB hs1 hnl hnll
 go_wp2_with fail
 go_loopw [8] (fun vi wr => ∃ m:Nat,m≤ts.length∧vi = .int .i64 m∧W=wr∧(∀ i (h:i<nl.length),i<m→nl[i]≠s)) (fun vi _=>ts.length - (intOf vi).toNat)
 case atStart=>exact ⟨0,Nat.zero_le _,rfl,rfl,fun i _ h=>by omega⟩
 case round =>
  obtain ⟨m,hm,rfl,rfl,hok⟩:=hrel
  have HOK:=qh hok
  clear hok
  by_cases hmk:(m:Int)<k
  ·have hmk':decide ((m:Int)<k)=true:=by simpa using hmk
   by_cases hlt:m<ts.length
   ·have hltn:m<nl.length:=by have:=HN.out;omega
    obtain ⟨b5,o5,rfl,hb5,hc5⟩:=HS.out.get hltn
    have x0:=hc5 0 _ rfl
    simp only [Nat.mul_one,Nat.add_zero] at x0
    clear hc5
    by_cases hs:nl[m]=s
    ·have hs':=strT hs
     have HF:=qh (findI_at (l:=nl) (s:=s) (n:=k) hltn hmk hs HOK.out)
     clear hs
     go_wp2_with fail
     go_ret
     exact ⟨ret_int (by rw [HNL.out];exact HF.out.symm),hxW⟩
    ·have hs':=strF hs
     have HS1:=qh hs
     clear hs
     go_wp2_with fail
     clear hs'
     go_roundw
     case rel=>exact ⟨m + 1,by omega,by go_num,trivial,fun i h hi=>by
      rcases Nat.lt_or_ge i m with h1|h1
      ·exact HOK.out i h h1
      ·obtain rfl:i=m:=by omega
       exact HS1.out⟩
     case measure=>exact meA
   ·have hlt':decide (m<ts.length)=false:=by simpa using hlt
    have HF:=qh (findI_none (l:=nl) (s:=s) (n:=k) (fun i h _=>HOK.out i h (by have:=HN.out;omega)))
    go_wp2_with fail
    go_ret
    exact ⟨ret_int (by rw [HNL.out];exact HF.out.symm),hxW⟩
  ·have hmk':decide ((m:Int)<k)=false:=by simpa using hmk
   have HF:=qh (findI_none (l:=nl) (s:=s) (n:=k) (fun i h hik=>HOK.out i h omA))
   go_wp2_with fail
   go_ret
   exact ⟨ret_int (by rw [HNL.out];exact HF.out.symm),hxW⟩
theorem ref04_tableO (A:Option Addr) (c n:Nat) (ts:List Tab) (s:ByteArray) (k:Int) (o:Oth) (w:World) (ht:SliceIs w w.heap.size Tab.cells 4 A ts) (ho:OthIn w w.heap.size o) (hso:SaneO o) (hn:ts.length=n) (hl:n ≤ 1000000) {r:Int} (hr:findT ts s k=r) :
 Calls Tryz.prog 140 #[.agg #[.slice A n c, .slice o.vA 0 o.vc, .slice o.iA o.idx.length o.ic, .slice o.sA o.skt.length o.sc, .slice o.cA o.cch.length o.cc, .slice o.rA o.rel.length o.rc, .slice o.tA o.str.length o.tc, .slice o.bA o.bak.length o.bc], .string s, .int .i64 k] w fun e w'=>e = .returned (.int .i64 r)∧Below w.heap.size w w':=by
 subst hn hr
 have HT:=qh ht
 have HO:=qh ho
 have HSO:=qh hso
 clear ht ho hso
 go_enter Tryz.func140,Tryz.ntmps140
 go_wp2_with fail
 (with_reducible refine (ref04_findO A c ts.length ts s _ o _ (HT.out.next belA) (HO.out.next belA) HSO.out rfl hl rfl).mono ?_)
 rintro e W ⟨rfl,hb1⟩
 go_wp2_with fail
 go_ret
 exact ⟨rfl,below_nextN belA hb1 leA⟩
open Go.RowKit Go
theorem ref04_columnAO (A:Option Addr) (c:Nat) (ts:List Tab) (n i:Nat) (nm:ByteArray) (TA:Option Addr) (tc:Nat) (cols:List Col) (er rt:Int) (x:Col) (o:Oth) (w:World) (ht:TabsIn w w.heap.size A ts) (ho:OthIn w w.heap.size o) (hso:SaneO o) (hs:SaneCat ts) (hn:n<ts.length) (htn:ts[n]=⟨nm,TA,tc,cols,er,rt⟩) (hi:i<cols.length) (hx:cols[i]=x) (hne : ∀ k (h:k<ts.length),k<n → 0<ts[k].cols.length) (hf:x.refs.toList.isEmpty=false) {r:Int} (hr:colErr ts cols er rt n i x=r) :
 Calls Tryz.prog 128 #[.agg #[.slice A ts.length c, .slice o.vA 0 o.vc, .slice o.iA o.idx.length o.ic, .slice o.sA o.skt.length o.sc, .slice o.cA o.cch.length o.cc, .slice o.rA o.rel.length o.rc, .slice o.tA o.str.length o.tc, .slice o.bA o.bak.length o.bc], .int .i64 n, .int .i64 i] w fun e w'=>e = .returned (.int .i64 r)∧Below w.heap.size w w':=by
 subst hr
 obtain ⟨b5,o5,rfl,hb5,hc5⟩:=ht.1.get hn
 have hcn:ColsIn w w.heap.size TA cols:=by have:=ht.2 ts[n] (lgm hn);rw [htn] at this;exact this
 obtain ⟨t0,t1,t2,t3⟩:=Tab.cells4 hc5
 rw [htn] at t0 t1 t2 t3
 simp only at t0 t1 t2 t3
 obtain ⟨b6,o6,rfl,hb6,hc6⟩:=hcn.1.get hi
 obtain ⟨c0,c1,c2,c3,c4,c5,c6⟩:=Col.cells7 hc6
 rw [hx] at c0 c1 c2 c3 c4 c5 c6
 have hio:SliceIs w w.heap.size intCells 1 x.A x.own:=by have:=hcn.2 cols[i] (lgm hi);rw [hx] at this;exact this
 have hst:=(hs.tabs ts[n] (lgm hn))
 rw [htn] at hst
 have hcl:cols.length ≤ 1000000:=hst.len
 have hsx:SaneCol x:=by have:=hst.cols cols[i] (lgm hi);rw [hx] at this;exact this
 obtain ⟨z1,z2,z3,z4⟩:=hsx
 have hlen:=hs.len
 have HT:=qh ht
 have HO:=qh ho
 have HSO:=qh hso
 have HT1:=qh ht.1
 have HC:=qh hcn
 have HC1:=qh hcn.1
 have HIO:=qh hio
 have HNE:=qh hne
 have HX:=qh hx
 have HTN:=qh htn
 clear ht ho hso hcn hio hne hx htn hst hs hc5 hc6
 go_enter Tryz.func128,Tryz.ntmps128
 go_upto_region 3 with (fail)
 refine abs_world (P:=fun u=>Code.wp _ _ _ _ u) (R:=fun u=>Blk u w.heap.size 34 #[.slice (some ⟨b5,o5,none⟩) ts.length c, .slice o.vA 0 o.vc, .slice o.iA o.idx.length o.ic, .slice o.sA o.skt.length o.sc, .slice o.cA o.cch.length o.cc, .slice o.rA o.rel.length o.rc, .slice o.tA o.str.length o.tc, .slice o.bA o.bak.length o.bc]∧Blk u (w.heap.size + 1) 71 #[.string nm, .slice (some ⟨b6,o6,none⟩) cols.length tc, .int .i64 er, .int .i64 rt]∧Blk u (w.heap.size + 1 + 1) 73 #[.string x.name, .int .i64 x.ty, .string x.ns, .string x.refs, .slice x.A x.own.length x.cap, .int .i64 x.joint, .int .i64 x.duty]∧Below w.heap.size w u) ⟨?_,?_,?_,?_⟩ ?_
 ·exact ((Blk.new _ _ _).alloc _).alloc _
 ·exact (Blk.new' spA).alloc _
 ·exact Blk.new' spA
 ·exact belA
 clear t0 t1 t2 t3 c0 c1 c2 c3 c4 c5 c6
 rintro W ⟨hBC,hBT,hBX,hbW⟩
 have hz1:=hBC.lt
 have hz2:=hBT.lt
 have hz3:=hBX.lt
 have HBC:=qh hBC
 have HBT:=qh hBT
 have HBX:=qh hBX
 obtain ⟨p0,p1,p2,p3,p4,p5,p6,p7⟩:=Cat.blkO hBC
 obtain ⟨q0,q1,q2,q3⟩:=Tab.blk hBT
 obtain ⟨r0,r1,r2,r3,r4,r5,r6⟩:=Col.blk hBX
 clear hBC hBT hBX
 go_cut [35] (fun v wc=>v = .bool (cE1 x)∧W=wc)
 case first =>
  obtain ⟨n1,hn1⟩ : ∃ r,nameB x.name=r:=⟨_,rfl⟩
  obtain ⟨n2,hn2⟩ : ∃ r,nameB x.ns=r:=⟨_,rfl⟩
  obtain ⟨n3,hn3⟩ : ∃ r,x.ns.toList.isEmpty=r:=⟨_,rfl⟩
  have hb:cE1 x=(!n1||(!n3 && !n2)):=by rw [cE1,hn1,hn2,hn3]
  have HB:=qh hb
  have H1:=qh hn1
  have H2:=qh hn2
  clear hb hn1 hn2
  cases n1
  ·go_wp2_with (go_at_call 93;(first|(with_reducible refine (ref02_IsNameB x.name _ z1 H1.out).mono ?_)|(with_reducible refine (ref02_IsNameB x.ns _ z2 H2.out).mono ?_));rintro e w1 ⟨rfl,rfl⟩)
   go_meet
   exact ⟨by rw [HB.out];first|rfl|simp,rfl⟩
  ·cases n3
   ·cases n2
    ·go_wp2_with (go_at_call 93;(first|(with_reducible refine (ref02_IsNameB x.name _ z1 H1.out).mono ?_)|(with_reducible refine (ref02_IsNameB x.ns _ z2 H2.out).mono ?_));rintro e w1 ⟨rfl,rfl⟩)
     go_meet
     exact ⟨by rw [HB.out];first|rfl|simp,rfl⟩
    ·go_wp2_with (go_at_call 93;(first|(with_reducible refine (ref02_IsNameB x.name _ z1 H1.out).mono ?_)|(with_reducible refine (ref02_IsNameB x.ns _ z2 H2.out).mono ?_));rintro e w1 ⟨rfl,rfl⟩)
     go_meet
     exact ⟨by rw [HB.out];first|rfl|simp,rfl⟩
   ·go_wp2_with (go_at_call 93;(first|(with_reducible refine (ref02_IsNameB x.name _ z1 H1.out).mono ?_)|(with_reducible refine (ref02_IsNameB x.ns _ z2 H2.out).mono ?_));rintro e w1 ⟨rfl,rfl⟩)
    go_meet
    exact ⟨by rw [HB.out];first|rfl|simp,rfl⟩
 case rest =>
  obtain ⟨rfl,rfl⟩:=hcut
  cases h1:cE1 x
  ·have H1:=qh h1
   clear h1
   go_wp2_with fail
   go_loopw [9] (fun vk wr => ∃ k:Nat,k≤i∧vk = .int .i64 k∧Below W.heap.size W wr∧(∀ j (h:j<cols.length),j<k→cols[j].name≠x.name)) (fun vk _=>i - (intOf vk).toNat)
   case atStart=>exact ⟨0,Nat.zero_le _,rfl,Below.refl _ _,fun j _ h=>by omega⟩
   case round =>
    obtain ⟨k,hk,rfl,hbr,hno⟩:=hrel
    have HNO:=qh hno
    have hwz:=hbr.size
    have hxr:=below_nextN hbW hbr hbW.size
    clear hno p0 p1 p2 p3 p4 p5 p6 p7 q0 q1 q2 q3 r0 r1 r2 r3 r4 r5 r6
    obtain ⟨p0,p1,p2,p3,p4,p5,p6,p7⟩:=Cat.blkO (HBC.out.below hbr hz1)
    obtain ⟨q0,q1,q2,q3⟩:=Tab.blk (HBT.out.below hbr hz2)
    obtain ⟨r0,r1,r2,r3,r4,r5,r6⟩:=Col.blk (HBX.out.below hbr hz3)
    by_cases hlt:k<i
    ·obtain ⟨b7,o7,hbe,hb7,hc7⟩:=(HC.out.1.below hxr).get (show k<cols.length by omega)
     injection hbe with hbe
     injection hbe with hbe1 hbe2
     subst hbe1 hbe2
     obtain ⟨c0,_,_,_,_,_,_⟩:=Col.cells7 hc7
     have hk0:=keepQ (w:=wr) b6 omA
     have hk1:=keepQ (w:=wr) (w.heap.size + 1) omA
     have hk2:=keepQ (w:=wr) (w.heap.size + 1 + 1) omA
     clear hc7
     by_cases he:cols[k].name=x.name
     ·have he':=strT he
      have H2:Hid (cE2 cols i x=true):=qh (pb_true ⟨k,by omega,hlt,he⟩)
      clear he
      go_upto_region 8 with (fail)
      refine wp_region_bel krA krA ?_;(repeat (go_big_quiet_step (fail)));refine wpQuiet_nil ?_;intro wq hq
      go_wp2_with fail
      go_ret
      exact ⟨ret_int (by rw [colErr,if_neg (by rw [H1.out];decide),if_pos H2.out]),below_nextN hxr hq hxr.size⟩
     ·have he':=strF he
      have HNE1:=qh he
      clear he
      go_upto_region 8 with (fail)
      refine wp_region_bel krA krA ?_;(repeat (go_big_quiet_step (fail)));refine wpQuiet_nil ?_;intro wq hq
      clear he' hk0 hk1 hk2 c0
      go_wp2_with fail
      go_roundw
      case rel=>exact ⟨k + 1,by omega,by go_num,below_nextN hbr hq hwz,fun j h hj=>by
       rcases Nat.lt_or_ge j k with h1|h1
       ·exact HNO.out j h h1
       ·obtain rfl:j=k:=by omega
        exact HNE1.out⟩
      case measure=>exact meA
    ·have hlt':decide (k<i)=false:=by simpa using hlt
     have H2:Hid (cE2 cols i x=false):=qh (pb_false fun ⟨j,hj,hji,he⟩=>HNO.out j hj omA he)
     obtain ⟨tg,htg⟩ : ∃ tg,findT ts x.refs n=tg:=⟨_,rfl⟩
     have HTG:=qh htg
     go_wp2_with fail
     (with_reducible refine (ref04_tableO (some ⟨b5,o5,none⟩) c ts.length ts x.refs n o _ (HT1.out.next hxr) (HO.out.next hxr) HSO.out rfl hlen htg).mono ?_)
     rintro e W2 ⟨rfl,hb2⟩
     have hy2:Below W.heap.size W W2:=below_nextN hbr hb2 hwz
     have hx2:Below w.heap.size w W2:=below_nextN hxr hb2 hxr.size
     clear htg hlt' p0 p1 p2 p3 p4 p5 p6 p7 q0 q1 q2 q3 r0 r1 r2 r3 r4 r5 r6
     obtain ⟨p0,p1,p2,p3,p4,p5,p6,p7⟩:=Cat.blkO (HBC.out.below hy2 hz1)
     obtain ⟨q0,q1,q2,q3⟩:=Tab.blk (HBT.out.below hy2 hz2)
     obtain ⟨r0,r1,r2,r3,r4,r5,r6⟩:=Col.blk (HBX.out.below hy2 hz3)
     cases hd:decide (tg < 0)
     ·obtain ⟨k,hkt,hke,hkn,hkr⟩:=findI_get (l:=ts.map Tab.name) (s:=x.refs) (n:=min (n:Int) ts.length) (by have:=of_decide_eq_false hd;have:=HTG.out;unfold findT at this;omega)
      have hkl:k<ts.length:=by simpa using hkt
      have hkn':k<n:=by omega
      have hcp:=HNE.out k hkl hkn'
      have htk:tg=(k:Int):=by rw [← HTG.out];exact hke
      obtain ⟨b7,o7,hbe,hb7,hc7⟩:=(HT1.out.below hx2).get hkl
      injection hbe with hbe
      injection hbe with hbe1 hbe2
      subst hbe1 hbe2
      obtain ⟨_,u1,_,_⟩:=Tab.cells4 hc7
      obtain ⟨b8,o8,hA8,hb8,hc8⟩:=((HT.out.2 ts[k] (lgm hkl)).1.below hx2).get hcp
      rw [hA8] at u1
      obtain ⟨_,s1,_,_,s4,_,_⟩:=Col.cells7 hc8
      simp only [Nat.zero_mul,Nat.add_zero] at s1 s4
      have HTY:=qh (headTy_at hkl hcp)
      have HHO:=qh (headOwn_at hkl hcp)
      have HTK:=qh htk
      have H3:Hid (cE3 x tg=false):=qh (by rw [cE3,hf,hd];rfl)
      have hd0:decide (0≤tg)=true:=by simp;have:=of_decide_eq_false hd;omega
      have HD0:=qh hd0
      have HF:=qh hf
      have HB8:=qh hb8
      have hz5:b5<W2.heap.size:=by have:=hx2.size;omega
      have hz8:b8<W2.heap.size:=by have:=hx2.size;omega
      clear hkt hke hkr hkn hc7 hc8 hA8 hd hd0
      obtain ⟨tg',htt⟩ : ∃ tg':Nat,tg'=k:=⟨k,rfl⟩
      subst htk
      have hd1:decide ((k:Int) < 0)=false:=by simp
      have hd2:decide ((0:Int)≤(k:Int))=true:=by simp
      go_upto_region 13 with (fail)
      clear hd1
      go_cut [63] (fun v wc=>v = .bool (cE4 ts x (k:Int))∧Below W2.heap.size W2 wc)
      case first =>
       have hk0:=keepQ (w:=W2) b5 hz5
       have hk1:=keepQ (w:=W2) b8 hz8
       have hk2:=keepQ (w:=W2) w.heap.size (by have:=hy2.size;omega)
       have hk3:=keepQ (w:=W2) (w.heap.size + 1 + 1) (by have:=hy2.size;omega)
       obtain ⟨a,ha⟩ : ∃ r,(x.ty != 1)=r:=⟨_,rfl⟩
       obtain ⟨b,hb⟩ : ∃ r,(x.ty != 2)=r:=⟨_,rfl⟩
       obtain ⟨g,hg⟩ : ∃ r,(ts[k].cols[0].ty != x.ty)=r:=⟨_,rfl⟩
       have hB:cE4 ts x (k:Int)=((a&&b)||g):=by rw [cE4,HTY.out,ha,hb,hg,HD0.out,HF.out];simp
       have HB:=qh hB
       clear hB
       cases a
       ·cases g
        ·refine wp_region_bel krA krA ?_;(repeat (go_big_quiet_step (fail)));refine wpQuiet_nil ?_;intro wq hq
         go_wp2_with fail
         go_meet
         exact ⟨by rw [HB.out];first|rfl|simp,hq⟩
        ·refine wp_region_bel krA krA ?_;(repeat (go_big_quiet_step (fail)));refine wpQuiet_nil ?_;intro wq hq
         go_wp2_with fail
         go_meet
         exact ⟨by rw [HB.out];first|rfl|simp,hq⟩
       ·cases b
        ·cases g
         ·refine wp_region_bel krA krA ?_;(repeat (go_big_quiet_step (fail)));refine wpQuiet_nil ?_;intro wq hq
          go_wp2_with fail
          go_meet
          exact ⟨by rw [HB.out];first|rfl|simp,hq⟩
         ·refine wp_region_bel krA krA ?_;(repeat (go_big_quiet_step (fail)));refine wpQuiet_nil ?_;intro wq hq
          go_wp2_with fail
          go_meet
          exact ⟨by rw [HB.out];first|rfl|simp,hq⟩
        ·refine wp_region_bel krA krA ?_;(repeat (go_big_quiet_step (fail)));refine wpQuiet_nil ?_;intro wq hq
         go_wp2_with fail
         go_meet
         exact ⟨by rw [HB.out];first|rfl|simp,hq⟩
      case rest =>
       obtain ⟨rfl,hb3⟩:=hcut
       obtain ⟨W3,rfl⟩ : ∃ W3:World,W3=wc:=⟨_,rfl⟩
       have hy3:Below W.heap.size W W3:=below_nextN hy2 hb3 hy2.size
       have hx3:Below w.heap.size w W3:=below_nextN hx2 hb3 hx2.size
       clear p0 p1 p2 p3 p4 p5 p6 p7 q0 q1 q2 q3 r0 r1 r2 r3 r4 r5 r6
       obtain ⟨p0,p1,p2,p3,p4,p5,p6,p7⟩:=Cat.blkO (HBC.out.below hy3 hz1)
       obtain ⟨q0,q1,q2,q3⟩:=Tab.blk (HBT.out.below hy3 hz2)
       obtain ⟨r0,r1,r2,r3,r4,r5,r6⟩:=Col.blk (HBX.out.below hy3 hz3)
       have mz1:w.heap.size<W3.heap.size:=by have:=hy3.size;omega
       have mz2:w.heap.size + 1<W3.heap.size:=by have:=hy3.size;omega
       have mz3:w.heap.size + 1 + 1<W3.heap.size:=by have:=hy3.size;omega
       cases h4:cE4 ts x k
       ·have H4:=qh h4
        clear h4
        go_upto_region 15 with (fail)
        ·refine reg15A _ _ _ _ _ _ _ _ _ _ _ _ _ _ _ _ _ _ _ _ _ _ _ _ _ _ _ _ _ _ _ _ _ _ _ _ _ _ _ _ _ _ _ _ _ _ _ _ _ _ _ _ _ _ _ _ _ _ _ _ _ _ _ _ _ _ _ _ _ _ _ _ _ _ _ _ _ _ _ _ _ _ _ _ _ _ _ _ _ _ _ _ _ _ _ _ _ _ _ _ _ _ _ _ _ _ _ _ _ _ _ _ _ _ _ _ _ _ _ _ _ _ _ _ _ _ _ _ _ _ _ _ _ _ _ _ _ _ _ _ _ _ _ _ _ _ _ _ _ _ _ _ _ _ _ _ _ _ _ _ _ _ _ _ _ _ _ _ _ _ _ _ _ _ _ _ _ _ _ _ _ _ _ _ _ _ _ w.heap.size nm (some ⟨b6,o6,none⟩) tc cols er rt x W3 q0 q1 q2 q3 r0 r1 r2 r3 r4 r5 r6 mz3 (HC1.out.next hx3) (HIO.out.next hx3) z4 hcl HF.out _ ?_
         intro v95 u96 u97 u98 u99 u100 u101 u102 u103 u104 u105 u106 u107 u108 u109 u110 u111 u112 u113 u114 u115 u116 u117 u118 u119 u120 u121 u122 u123 u124 u125 u126 u127 u128 u129 u130 u131 u132 wc hcut
         obtain ⟨rfl,hb4⟩:=hcut
         obtain ⟨W4,rfl⟩ : ∃ W4:World,W4=wc:=⟨_,rfl⟩
         have hy4:Below W.heap.size W W4:=below_nextN hy3 hb4 hy3.size
         have hx4:Below w.heap.size w W4:=below_nextN hx3 hb4 hx3.size
         clear p0 p1 p2 p3 p4 p5 p6 p7 q0 q1 q2 q3 r0 r1 r2 r3 r4 r5 r6
         obtain ⟨p0,p1,p2,p3,p4,p5,p6,p7⟩:=Cat.blkO (HBC.out.below hy4 hz1)
         obtain ⟨q0,q1,q2,q3⟩:=Tab.blk (HBT.out.below hy4 hz2)
         obtain ⟨r0,r1,r2,r3,r4,r5,r6⟩:=Col.blk (HBX.out.below hy4 hz3)
         cases h5:cE5 cols x
         ·have H5:=qh h5
          clear h5
          go_upto_region 17 with (fail)
          ·refine reg17 _ _ _ _ _ _ _ _ _ _ _ _ _ _ _ _ _ _ _ _ _ _ _ _ _ _ _ _ _ _ _ _ _ _ _ _ _ _ _ _ _ _ _ _ _ _ _ _ _ _ _ _ _ _ _ _ _ _ _ _ _ _ _ _ _ _ _ _ _ _ _ _ _ _ _ _ _ _ _ _ _ _ _ _ _ _ _ _ _ _ _ _ _ _ _ _ _ _ _ _ _ _ _ _ _ _ _ _ _ _ _ _ _ _ _ _ _ _ _ _ _ _ _ _ _ _ _ _ _ _ _ _ _ _ _ _ _ _ _ _ _ _ _ _ _ _ _ _ _ _ _ _ _ _ _ _ _ _ _ _ _ _ _ _ _ _ _ _ _ _ _ _ _ _ _ _ _ _ _ _ _ _ _ _ _ _ w.heap.size nm (some ⟨b6,o6,none⟩) tc cols er rt i x W4 q0 q1 q2 q3 r0 r1 r2 r3 r4 r5 r6 (by have:=hy4.size;omega) _ ?_
           intro v133 u134 u135 u136 u137 u138 u139 u140 u141 u142 u143 u144 u145 u146 u147 u148 u149 u150 u151 u152 u153 u154 u155 u156 u157 u158 u159 u160 u161 u162 u163 u164 wc hcut
           obtain ⟨rfl,rfl⟩:=hcut
           cases h6:cE6 er rt i x
           ·have H6:=qh h6
            clear h6
            have hx4k:=hx4.size
            have hy4k:=hy4.size
            obtain ⟨ho,hho⟩ : ∃ r,decide (0<ts[k].cols[0].own.length)=r:=⟨_,rfl⟩
            obtain ⟨hm,hhm⟩ : ∃ r,decide ((i:Int)∈x.own)=r:=⟨_,rfl⟩
            have hB:cE7 ts i x (k:Int)=(ho && !hm):=by rw [cE7,HHO.out,HF.out,hho,hhm];simp
            have HB:=qh hB
            have HM:=qh hhm
            have u1':=((keepB (below_nextN hb3 hb4 hb3.size) b5 hz5).1 _).trans u1
            have s4':=((keepB (below_nextN hb3 hb4 hb3.size) b8 hz8).1 _).trans s4
            clear hB hhm u1 s1 s4
            cases ho
            ·go_wp2_with fail
             go_ret
             exact ⟨ret_int (by rw [colErr,if_neg (by rw [H1.out];decide),if_neg (by rw [H2.out];decide),HTG.out,if_neg (by rw [H3.out];decide),if_neg (by rw [H4.out];decide),if_neg (by rw [H5.out];decide),if_neg (by rw [H6.out];decide)];rw [if_neg (by rw [HB.out];simp)]),hx4⟩
            ·cases hm
             ·go_wp2_with (go_at_call 174;(with_reducible refine (ref04_has x.A x.cap x.own.length x.own i _ (HIO.out.next hx4) rfl z4 HM.out).mono ?_);rintro e w1 ⟨rfl,rfl⟩)
              go_ret
              exact ⟨ret_int (by rw [colErr,if_neg (by rw [H1.out];decide),if_neg (by rw [H2.out];decide),HTG.out,if_neg (by rw [H3.out];decide),if_neg (by rw [H4.out];decide),if_neg (by rw [H5.out];decide),if_neg (by rw [H6.out];decide)];rw [if_pos (by rw [HB.out];rfl)]),hx4⟩
             ·go_wp2_with (go_at_call 174;(with_reducible refine (ref04_has x.A x.cap x.own.length x.own i _ (HIO.out.next hx4) rfl z4 HM.out).mono ?_);rintro e w1 ⟨rfl,rfl⟩)
              go_ret
              exact ⟨ret_int (by rw [colErr,if_neg (by rw [H1.out];decide),if_neg (by rw [H2.out];decide),HTG.out,if_neg (by rw [H3.out];decide),if_neg (by rw [H4.out];decide),if_neg (by rw [H5.out];decide),if_neg (by rw [H6.out];decide)];rw [if_neg (by rw [HB.out];simp)]),hx4⟩
           ·have H6:=qh h6
            clear h6
            go_wp2_with fail
            go_ret
            exact ⟨ret_int (by rw [colErr,if_neg (by rw [H1.out];decide),if_neg (by rw [H2.out];decide),HTG.out,if_neg (by rw [H3.out];decide),if_neg (by rw [H4.out];decide),if_neg (by rw [H5.out];decide),if_pos H6.out]),hx4⟩
         ·have H5:=qh h5
          clear h5
          go_wp2_with fail
          go_ret
          exact ⟨ret_int (by rw [colErr,if_neg (by rw [H1.out];decide),if_neg (by rw [H2.out];decide),HTG.out,if_neg (by rw [H3.out];decide),if_neg (by rw [H4.out];decide),if_pos H5.out]),hx4⟩
       ·have H4:=qh h4
        clear h4
        go_wp2_with fail
        go_ret
        exact ⟨ret_int (by rw [colErr,if_neg (by rw [H1.out];decide),if_neg (by rw [H2.out];decide),HTG.out,if_neg (by rw [H3.out];decide),if_pos H4.out]),hx3⟩
     ·have H3:Hid (cE3 x tg=true):=qh (by rw [cE3,hf,hd];rfl)
      go_wp2_with fail
      go_ret
      exact ⟨ret_int (by rw [colErr,if_neg (by rw [H1.out];decide),if_neg (by rw [H2.out];decide),HTG.out,if_pos H3.out]),hx2⟩
  ·have H1:=qh h1
   clear h1
   go_wp2_with fail
   go_ret
   exact ⟨ret_int (by rw [colErr,if_pos H1.out]),hbW⟩
open Go.RowKit Go
theorem ref04_columnBO (A:Option Addr) (c:Nat) (ts:List Tab) (n i:Nat) (nm:ByteArray) (TA:Option Addr) (tc:Nat) (cols:List Col) (er rt:Int) (x:Col) (o:Oth) (w:World) (ht:TabsIn w w.heap.size A ts) (ho:OthIn w w.heap.size o) (hso:SaneO o) (hs:SaneCat ts) (hn:n<ts.length) (htn:ts[n]=⟨nm,TA,tc,cols,er,rt⟩) (hi:i<cols.length) (hx:cols[i]=x) (hne : ∀ k (h:k<ts.length),k<n → 0<ts[k].cols.length) (hf:x.refs.toList.isEmpty=true) {r:Int} (hr:colErr ts cols er rt n i x=r) :
 Calls Tryz.prog 128 #[.agg #[.slice A ts.length c, .slice o.vA 0 o.vc, .slice o.iA o.idx.length o.ic, .slice o.sA o.skt.length o.sc, .slice o.cA o.cch.length o.cc, .slice o.rA o.rel.length o.rc, .slice o.tA o.str.length o.tc, .slice o.bA o.bak.length o.bc], .int .i64 n, .int .i64 i] w fun e w'=>e = .returned (.int .i64 r)∧Below w.heap.size w w':=by
 subst hr
 obtain ⟨b5,o5,rfl,hb5,hc5⟩:=ht.1.get hn
 have hcn:ColsIn w w.heap.size TA cols:=by have:=ht.2 ts[n] (lgm hn);rw [htn] at this;exact this
 obtain ⟨t0,t1,t2,t3⟩:=Tab.cells4 hc5
 rw [htn] at t0 t1 t2 t3
 simp only at t0 t1 t2 t3
 obtain ⟨b6,o6,rfl,hb6,hc6⟩:=hcn.1.get hi
 obtain ⟨c0,c1,c2,c3,c4,c5,c6⟩:=Col.cells7 hc6
 rw [hx] at c0 c1 c2 c3 c4 c5 c6
 have hio:SliceIs w w.heap.size intCells 1 x.A x.own:=by have:=hcn.2 cols[i] (lgm hi);rw [hx] at this;exact this
 have hst:=(hs.tabs ts[n] (lgm hn))
 rw [htn] at hst
 have hcl:cols.length ≤ 1000000:=hst.len
 have hsx:SaneCol x:=by have:=hst.cols cols[i] (lgm hi);rw [hx] at this;exact this
 obtain ⟨z1,z2,z3,z4⟩:=hsx
 have hlen:=hs.len
 have HT:=qh ht
 have HO:=qh ho
 have HSO:=qh hso
 have HT1:=qh ht.1
 have HC:=qh hcn
 have HC1:=qh hcn.1
 have HIO:=qh hio
 have HNE:=qh hne
 have HX:=qh hx
 have HTN:=qh htn
 clear ht ho hso hcn hio hne hx htn hst hs hc5 hc6
 go_enter Tryz.func128,Tryz.ntmps128
 go_upto_region 3 with (fail)
 refine abs_world (P:=fun u=>Code.wp _ _ _ _ u) (R:=fun u=>Blk u w.heap.size 34 #[.slice (some ⟨b5,o5,none⟩) ts.length c, .slice o.vA 0 o.vc, .slice o.iA o.idx.length o.ic, .slice o.sA o.skt.length o.sc, .slice o.cA o.cch.length o.cc, .slice o.rA o.rel.length o.rc, .slice o.tA o.str.length o.tc, .slice o.bA o.bak.length o.bc]∧Blk u (w.heap.size + 1) 71 #[.string nm, .slice (some ⟨b6,o6,none⟩) cols.length tc, .int .i64 er, .int .i64 rt]∧Blk u (w.heap.size + 1 + 1) 73 #[.string x.name, .int .i64 x.ty, .string x.ns, .string x.refs, .slice x.A x.own.length x.cap, .int .i64 x.joint, .int .i64 x.duty]∧Below w.heap.size w u) ⟨?_,?_,?_,?_⟩ ?_
 ·exact ((Blk.new _ _ _).alloc _).alloc _
 ·exact (Blk.new' spA).alloc _
 ·exact Blk.new' spA
 ·exact belA
 clear t0 t1 t2 t3 c0 c1 c2 c3 c4 c5 c6
 rintro W ⟨hBC,hBT,hBX,hbW⟩
 have hz1:=hBC.lt
 have hz2:=hBT.lt
 have hz3:=hBX.lt
 have HBC:=qh hBC
 have HBT:=qh hBT
 have HBX:=qh hBX
 obtain ⟨p0,p1,p2,p3,p4,p5,p6,p7⟩:=Cat.blkO hBC
 obtain ⟨q0,q1,q2,q3⟩:=Tab.blk hBT
 obtain ⟨r0,r1,r2,r3,r4,r5,r6⟩:=Col.blk hBX
 clear hBC hBT hBX
 go_cut [35] (fun v wc=>v = .bool (cE1 x)∧W=wc)
 case first =>
  obtain ⟨n1,hn1⟩ : ∃ r,nameB x.name=r:=⟨_,rfl⟩
  obtain ⟨n2,hn2⟩ : ∃ r,nameB x.ns=r:=⟨_,rfl⟩
  obtain ⟨n3,hn3⟩ : ∃ r,x.ns.toList.isEmpty=r:=⟨_,rfl⟩
  have hb:cE1 x=(!n1||(!n3 && !n2)):=by rw [cE1,hn1,hn2,hn3]
  have HB:=qh hb
  have H1:=qh hn1
  have H2:=qh hn2
  clear hb hn1 hn2
  cases n1
  ·go_wp2_with (go_at_call 93;(first|(with_reducible refine (ref02_IsNameB x.name _ z1 H1.out).mono ?_)|(with_reducible refine (ref02_IsNameB x.ns _ z2 H2.out).mono ?_));rintro e w1 ⟨rfl,rfl⟩)
   go_meet
   exact ⟨by rw [HB.out];first|rfl|simp,rfl⟩
  ·cases n3
   ·cases n2
    ·go_wp2_with (go_at_call 93;(first|(with_reducible refine (ref02_IsNameB x.name _ z1 H1.out).mono ?_)|(with_reducible refine (ref02_IsNameB x.ns _ z2 H2.out).mono ?_));rintro e w1 ⟨rfl,rfl⟩)
     go_meet
     exact ⟨by rw [HB.out];first|rfl|simp,rfl⟩
    ·go_wp2_with (go_at_call 93;(first|(with_reducible refine (ref02_IsNameB x.name _ z1 H1.out).mono ?_)|(with_reducible refine (ref02_IsNameB x.ns _ z2 H2.out).mono ?_));rintro e w1 ⟨rfl,rfl⟩)
     go_meet
     exact ⟨by rw [HB.out];first|rfl|simp,rfl⟩
   ·go_wp2_with (go_at_call 93;(first|(with_reducible refine (ref02_IsNameB x.name _ z1 H1.out).mono ?_)|(with_reducible refine (ref02_IsNameB x.ns _ z2 H2.out).mono ?_));rintro e w1 ⟨rfl,rfl⟩)
    go_meet
    exact ⟨by rw [HB.out];first|rfl|simp,rfl⟩
 case rest =>
  obtain ⟨rfl,rfl⟩:=hcut
  cases h1:cE1 x
  ·have H1:=qh h1
   clear h1
   go_wp2_with fail
   go_loopw [9] (fun vk wr => ∃ k:Nat,k≤i∧vk = .int .i64 k∧Below W.heap.size W wr∧(∀ j (h:j<cols.length),j<k→cols[j].name≠x.name)) (fun vk _=>i - (intOf vk).toNat)
   case atStart=>exact ⟨0,Nat.zero_le _,rfl,Below.refl _ _,fun j _ h=>by omega⟩
   case round =>
    obtain ⟨k,hk,rfl,hbr,hno⟩:=hrel
    have HNO:=qh hno
    have hwz:=hbr.size
    have hxr:=below_nextN hbW hbr hbW.size
    clear hno p0 p1 p2 p3 p4 p5 p6 p7 q0 q1 q2 q3 r0 r1 r2 r3 r4 r5 r6
    obtain ⟨p0,p1,p2,p3,p4,p5,p6,p7⟩:=Cat.blkO (HBC.out.below hbr hz1)
    obtain ⟨q0,q1,q2,q3⟩:=Tab.blk (HBT.out.below hbr hz2)
    obtain ⟨r0,r1,r2,r3,r4,r5,r6⟩:=Col.blk (HBX.out.below hbr hz3)
    by_cases hlt:k<i
    ·obtain ⟨b7,o7,hbe,hb7,hc7⟩:=(HC.out.1.below hxr).get (show k<cols.length by omega)
     injection hbe with hbe
     injection hbe with hbe1 hbe2
     subst hbe1 hbe2
     obtain ⟨c0,_,_,_,_,_,_⟩:=Col.cells7 hc7
     have hk0:=keepQ (w:=wr) b6 omA
     have hk1:=keepQ (w:=wr) (w.heap.size + 1) omA
     have hk2:=keepQ (w:=wr) (w.heap.size + 1 + 1) omA
     clear hc7
     by_cases he:cols[k].name=x.name
     ·have he':=strT he
      have H2:Hid (cE2 cols i x=true):=qh (pb_true ⟨k,by omega,hlt,he⟩)
      clear he
      go_upto_region 8 with (fail)
      refine wp_region_bel krA krA ?_;(repeat (go_big_quiet_step (fail)));refine wpQuiet_nil ?_;intro wq hq
      go_wp2_with fail
      go_ret
      exact ⟨ret_int (by rw [colErr,if_neg (by rw [H1.out];decide),if_pos H2.out]),below_nextN hxr hq hxr.size⟩
     ·have he':=strF he
      have HNE1:=qh he
      clear he
      go_upto_region 8 with (fail)
      refine wp_region_bel krA krA ?_;(repeat (go_big_quiet_step (fail)));refine wpQuiet_nil ?_;intro wq hq
      clear he' hk0 hk1 hk2 c0
      go_wp2_with fail
      go_roundw
      case rel=>exact ⟨k + 1,by omega,by go_num,below_nextN hbr hq hwz,fun j h hj=>by
       rcases Nat.lt_or_ge j k with h1|h1
       ·exact HNO.out j h h1
       ·obtain rfl:j=k:=by omega
        exact HNE1.out⟩
      case measure=>exact meA
    ·have hlt':decide (k<i)=false:=by simpa using hlt
     have H2:Hid (cE2 cols i x=false):=qh (pb_false fun ⟨j,hj,hji,he⟩=>HNO.out j hj omA he)
     obtain ⟨tg,htg⟩ : ∃ tg,findT ts x.refs n=tg:=⟨_,rfl⟩
     have HTG:=qh htg
     go_wp2_with fail
     (with_reducible refine (ref04_tableO (some ⟨b5,o5,none⟩) c ts.length ts x.refs n o _ (HT1.out.next hxr) (HO.out.next hxr) HSO.out rfl hlen htg).mono ?_)
     rintro e W2 ⟨rfl,hb2⟩
     have hy2:Below W.heap.size W W2:=below_nextN hbr hb2 hwz
     have hx2:Below w.heap.size w W2:=below_nextN hxr hb2 hxr.size
     clear htg hlt' p0 p1 p2 p3 p4 p5 p6 p7 q0 q1 q2 q3 r0 r1 r2 r3 r4 r5 r6
     obtain ⟨p0,p1,p2,p3,p4,p5,p6,p7⟩:=Cat.blkO (HBC.out.below hy2 hz1)
     obtain ⟨q0,q1,q2,q3⟩:=Tab.blk (HBT.out.below hy2 hz2)
     obtain ⟨r0,r1,r2,r3,r4,r5,r6⟩:=Col.blk (HBX.out.below hy2 hz3)
     have H3:Hid (cE3 x tg=false):=qh (by rw [cE3,hf];rfl)
     have HF:=qh hf
     go_upto_region 13 with (fail)
     go_cut [63] (fun v wc=>v = .bool (cE4 ts x tg)∧Below W2.heap.size W2 wc)
     case first =>
      have hk0:=keepQ (w:=W2) w.heap.size (by have:=hy2.size;omega)
      have hk3:=keepQ (w:=W2) (w.heap.size + 1 + 1) (by have:=hy2.size;omega)
      obtain ⟨a,ha⟩ : ∃ r,(x.ty != 1)=r:=⟨_,rfl⟩
      obtain ⟨b,hb⟩ : ∃ r,(x.ty != 2)=r:=⟨_,rfl⟩
      obtain ⟨d,hd⟩ : ∃ r,decide (0≤tg)=r:=⟨_,rfl⟩
      have hB:cE4 ts x tg=(a&&b):=by rw [cE4,ha,hb,HF.out];simp
      have HB:=qh hB
      clear hB
      cases a
      ·cases d
       ·refine wp_region_bel krA krA ?_;(repeat (go_big_quiet_step (fail)));refine wpQuiet_nil ?_;intro wq hq
        go_wp2_with fail
        go_meet
        exact ⟨by rw [HB.out];first|rfl|simp,hq⟩
       ·refine wp_region_bel krA krA ?_;(repeat (go_big_quiet_step (fail)));refine wpQuiet_nil ?_;intro wq hq
        go_wp2_with fail
        go_meet
        exact ⟨by rw [HB.out];first|rfl|simp,hq⟩
      ·cases b
       ·cases d
        ·refine wp_region_bel krA krA ?_;(repeat (go_big_quiet_step (fail)));refine wpQuiet_nil ?_;intro wq hq
         go_wp2_with fail
         go_meet
         exact ⟨by rw [HB.out];first|rfl|simp,hq⟩
        ·refine wp_region_bel krA krA ?_;(repeat (go_big_quiet_step (fail)));refine wpQuiet_nil ?_;intro wq hq
         go_wp2_with fail
         go_meet
         exact ⟨by rw [HB.out];first|rfl|simp,hq⟩
       ·refine wp_region_bel krA krA ?_;(repeat (go_big_quiet_step (fail)));refine wpQuiet_nil ?_;intro wq hq
        go_wp2_with fail
        go_meet
        exact ⟨by rw [HB.out];first|rfl|simp,hq⟩
     case rest =>
      obtain ⟨rfl,hb3⟩:=hcut
      obtain ⟨W3,rfl⟩ : ∃ W3:World,W3=wc:=⟨_,rfl⟩
      have hy3:Below W.heap.size W W3:=below_nextN hy2 hb3 hy2.size
      have hx3:Below w.heap.size w W3:=below_nextN hx2 hb3 hx2.size
      clear p0 p1 p2 p3 p4 p5 p6 p7 q0 q1 q2 q3 r0 r1 r2 r3 r4 r5 r6
      obtain ⟨p0,p1,p2,p3,p4,p5,p6,p7⟩:=Cat.blkO (HBC.out.below hy3 hz1)
      obtain ⟨q0,q1,q2,q3⟩:=Tab.blk (HBT.out.below hy3 hz2)
      obtain ⟨r0,r1,r2,r3,r4,r5,r6⟩:=Col.blk (HBX.out.below hy3 hz3)
      have mz1:w.heap.size<W3.heap.size:=by have:=hy3.size;omega
      have mz2:w.heap.size + 1<W3.heap.size:=by have:=hy3.size;omega
      have mz3:w.heap.size + 1 + 1<W3.heap.size:=by have:=hy3.size;omega
      cases h4:cE4 ts x tg
      ·have H4:=qh h4
       clear h4
       go_upto_region 15 with (fail)
       ·refine reg15B _ _ _ _ _ _ _ _ _ _ _ _ _ _ _ _ _ _ _ _ _ _ _ _ _ _ _ _ _ _ _ _ _ _ _ _ _ _ _ _ _ _ _ _ _ _ _ _ _ _ _ _ _ _ _ _ _ _ _ _ _ _ _ _ _ _ _ _ _ _ _ _ _ _ _ _ _ _ _ _ _ _ _ _ _ _ _ _ _ _ _ _ _ _ _ _ _ _ _ _ _ _ _ _ _ _ _ _ _ _ _ _ _ _ _ _ _ _ _ _ _ _ _ _ _ _ _ _ _ _ _ _ _ _ _ _ _ _ _ _ _ _ _ _ _ _ _ _ _ _ _ _ _ _ _ _ _ _ _ _ _ _ _ _ _ _ _ _ _ _ _ _ _ _ _ _ _ _ _ _ _ _ _ _ _ _ _ w.heap.size nm (some ⟨b6,o6,none⟩) tc cols er rt x W3 q0 q1 q2 q3 r0 r1 r2 r3 r4 r5 r6 mz3 (HC1.out.next hx3) (HIO.out.next hx3) z4 hcl HF.out _ ?_
        intro v95 u96 u97 u98 u99 u100 u101 u102 u103 u104 u105 u106 u107 u108 u109 u110 u111 u112 u113 u114 u115 u116 u117 u118 u119 u120 u121 u122 u123 u124 u125 u126 u127 u128 u129 u130 u131 u132 wc hcut
        obtain ⟨rfl,hb4⟩:=hcut
        obtain ⟨W4,rfl⟩ : ∃ W4:World,W4=wc:=⟨_,rfl⟩
        have hy4:Below W.heap.size W W4:=below_nextN hy3 hb4 hy3.size
        have hx4:Below w.heap.size w W4:=below_nextN hx3 hb4 hx3.size
        clear p0 p1 p2 p3 p4 p5 p6 p7 q0 q1 q2 q3 r0 r1 r2 r3 r4 r5 r6
        obtain ⟨p0,p1,p2,p3,p4,p5,p6,p7⟩:=Cat.blkO (HBC.out.below hy4 hz1)
        obtain ⟨q0,q1,q2,q3⟩:=Tab.blk (HBT.out.below hy4 hz2)
        obtain ⟨r0,r1,r2,r3,r4,r5,r6⟩:=Col.blk (HBX.out.below hy4 hz3)
        cases h5:cE5 cols x
        ·have H5:=qh h5
         clear h5
         go_upto_region 17 with (fail)
         ·refine reg17 _ _ _ _ _ _ _ _ _ _ _ _ _ _ _ _ _ _ _ _ _ _ _ _ _ _ _ _ _ _ _ _ _ _ _ _ _ _ _ _ _ _ _ _ _ _ _ _ _ _ _ _ _ _ _ _ _ _ _ _ _ _ _ _ _ _ _ _ _ _ _ _ _ _ _ _ _ _ _ _ _ _ _ _ _ _ _ _ _ _ _ _ _ _ _ _ _ _ _ _ _ _ _ _ _ _ _ _ _ _ _ _ _ _ _ _ _ _ _ _ _ _ _ _ _ _ _ _ _ _ _ _ _ _ _ _ _ _ _ _ _ _ _ _ _ _ _ _ _ _ _ _ _ _ _ _ _ _ _ _ _ _ _ _ _ _ _ _ _ _ _ _ _ _ _ _ _ _ _ _ _ _ _ _ _ _ w.heap.size nm (some ⟨b6,o6,none⟩) tc cols er rt i x W4 q0 q1 q2 q3 r0 r1 r2 r3 r4 r5 r6 (by have:=hy4.size;omega) _ ?_
          intro v133 u134 u135 u136 u137 u138 u139 u140 u141 u142 u143 u144 u145 u146 u147 u148 u149 u150 u151 u152 u153 u154 u155 u156 u157 u158 u159 u160 u161 u162 u163 u164 wc hcut
          obtain ⟨rfl,rfl⟩:=hcut
          cases h6:cE6 er rt i x
          ·have H6:=qh h6
           clear h6
           go_wp2_with fail
           go_ret
           exact ⟨ret_int (by rw [colErr,if_neg (by rw [H1.out];decide),if_neg (by rw [H2.out];decide),HTG.out,if_neg (by rw [H3.out];decide),if_neg (by rw [H4.out];decide),if_neg (by rw [H5.out];decide),if_neg (by rw [H6.out];decide)];rw [if_neg (by rw [cE7,HF.out];simp)]),hx4⟩
          ·have H6:=qh h6
           clear h6
           go_wp2_with fail
           go_ret
           exact ⟨ret_int (by rw [colErr,if_neg (by rw [H1.out];decide),if_neg (by rw [H2.out];decide),HTG.out,if_neg (by rw [H3.out];decide),if_neg (by rw [H4.out];decide),if_neg (by rw [H5.out];decide),if_pos H6.out]),hx4⟩
        ·have H5:=qh h5
         clear h5
         go_wp2_with fail
         go_ret
         exact ⟨ret_int (by rw [colErr,if_neg (by rw [H1.out];decide),if_neg (by rw [H2.out];decide),HTG.out,if_neg (by rw [H3.out];decide),if_neg (by rw [H4.out];decide),if_pos H5.out]),hx4⟩
      ·have H4:=qh h4
       clear h4
       go_wp2_with fail
       go_ret
       exact ⟨ret_int (by rw [colErr,if_neg (by rw [H1.out];decide),if_neg (by rw [H2.out];decide),HTG.out,if_neg (by rw [H3.out];decide),if_pos H4.out]),hx3⟩
  ·have H1:=qh h1
   clear h1
   go_wp2_with fail
   go_ret
   exact ⟨ret_int (by rw [colErr,if_pos H1.out]),hbW⟩
theorem ref04_columnO (A:Option Addr) (c:Nat) (ts:List Tab) (n i:Nat) (nm:ByteArray) (TA:Option Addr) (tc:Nat) (cols:List Col) (er rt:Int) (x:Col) (o:Oth) (w:World) (ht:TabsIn w w.heap.size A ts) (ho:OthIn w w.heap.size o) (hso:SaneO o) (hs:SaneCat ts) (hn:n<ts.length) (htn:ts[n]=⟨nm,TA,tc,cols,er,rt⟩) (hi:i<cols.length) (hx:cols[i]=x) (hne : ∀ k (h:k<ts.length),k<n → 0<ts[k].cols.length) {r:Int} (hr:colErr ts cols er rt n i x=r) :
 Calls Tryz.prog 128 #[.agg #[.slice A ts.length c, .slice o.vA 0 o.vc, .slice o.iA o.idx.length o.ic, .slice o.sA o.skt.length o.sc, .slice o.cA o.cch.length o.cc, .slice o.rA o.rel.length o.rc, .slice o.tA o.str.length o.tc, .slice o.bA o.bak.length o.bc], .int .i64 n, .int .i64 i] w fun e w'=>e = .returned (.int .i64 r)∧Below w.heap.size w w':=by
 cases hf:x.refs.toList.isEmpty
 ·exact ref04_columnAO A c ts n i nm TA tc cols er rt x o w ht ho hso hs hn htn hi hx hne hf hr
 ·exact ref04_columnBO A c ts n i nm TA tc cols er rt x o w ht ho hso hs hn htn hi hx hne hf hr
open Go.RowKit Go
theorem ref04_checkTableO (A:Option Addr) (c m:Nat) (ts:List Tab) (n:Nat) (t:Tab) (o:Oth) (w:World) (ht:TabsIn w w.heap.size A ts) (ho:OthIn w w.heap.size o) (hso:SaneO o) (hm:ts.length=m) (hs:SaneCat ts) (hn:n<ts.length) (htn:ts[n]=t) (hne : ∀ k (h:k<ts.length),k<n → 0<ts[k].cols.length) {r:Int} (hr:tabErr ts n t=r) :
 Calls Tryz.prog 94 #[.agg #[.slice A m c, .slice o.vA 0 o.vc, .slice o.iA o.idx.length o.ic, .slice o.sA o.skt.length o.sc, .slice o.cA o.cch.length o.cc, .slice o.rA o.rel.length o.rc, .slice o.tA o.str.length o.tc, .slice o.bA o.bak.length o.bc], .int .i64 n] w fun e w'=>e = .returned (.int .i64 r)∧Below w.heap.size w w':=by
 subst hr hm
 obtain ⟨nm,TA,tc,cols,er,rt⟩:=t
 obtain ⟨b5,o5,rfl,hb5,hc5⟩:=ht.1.get hn
 obtain ⟨t0,t1,t2,t3⟩:=Tab.cells4 hc5
 rw [htn] at t0 t1 t2 t3
 simp only at t0 t1 t2 t3
 have hst:=(hs.tabs ts[n] (lgm hn))
 rw [htn] at hst
 have hcl:cols.length ≤ 1000000:=hst.len
 have HT:=qh ht
 have HO:=qh ho
 have HSO:=qh hso
 have HNE:=qh hne
 have HTN:=qh htn
 have HS:=qh hs
 clear ht ho hso hne htn hs hc5 hst
 go_enter Tryz.func94,Tryz.ntmps94
 go_upto_region 2 with (fail)
 refine abs_world (P:=fun u=>Code.wp _ _ _ _ u) (R:=fun u=>Blk u w.heap.size 34 #[.slice (some ⟨b5,o5,none⟩) ts.length c, .slice o.vA 0 o.vc, .slice o.iA o.idx.length o.ic, .slice o.sA o.skt.length o.sc, .slice o.cA o.cch.length o.cc, .slice o.rA o.rel.length o.rc, .slice o.tA o.str.length o.tc, .slice o.bA o.bak.length o.bc]∧Blk u (w.heap.size + 1) 71 #[.string nm, .slice TA cols.length tc, .int .i64 er, .int .i64 rt]∧Below w.heap.size w u) ⟨?_,?_,?_⟩ ?_
 ·exact (Blk.new _ _ _).alloc _
 ·exact Blk.new' spA
 ·exact belA
 clear t0 t1 t2 t3
 rintro W ⟨hBC,hBT,hbW⟩
 have hz1:=hBC.lt
 have hz2:=hBT.lt
 have HBC:=qh hBC
 have HBT:=qh hBT
 obtain ⟨p0,p1,p2,p3,p4,p5,p6,p7⟩:=Cat.blkO hBC
 obtain ⟨q0,q1,q2,q3⟩:=Tab.blk hBT
 clear hBC hBT
 go_cut [29] (fun v wc=>v = .bool (!shapeB ⟨nm,TA,tc,cols,er,rt⟩)∧W=wc)
 case first =>
  obtain ⟨n1,hn1⟩ : ∃ r,withinB cols.length 1 8=r:=⟨_,rfl⟩
  obtain ⟨n2,hn2⟩ : ∃ r,withinB er 0 1=r:=⟨_,rfl⟩
  obtain ⟨n3,hn3⟩ : ∃ r,withinB rt 0 1048576=r:=⟨_,rfl⟩
  have hb:shapeB ⟨nm,TA,tc,cols,er,rt⟩=((n1&&n2)&&n3):=by rw [shapeB,hn1,hn2,hn3]
  have HB:=qh hb
  have H1:=qh hn1
  have H2:=qh hn2
  have H3:=qh hn3
  clear hb hn1 hn2 hn3
  cases n1
  ·go_wp2_with (go_at_call 127;(first|(with_reducible refine (ref04_within _ 1 8 _ H1.out).mono ?_)|(with_reducible refine (ref04_within er 0 1 _ H2.out).mono ?_)|(with_reducible refine (ref04_within rt 0 1048576 _ H3.out).mono ?_));rintro e w1 ⟨rfl,rfl⟩)
   go_meet
   exact ⟨by rw [HB.out];first|rfl|simp,rfl⟩
  ·cases n2
   ·go_wp2_with (go_at_call 127;(first|(with_reducible refine (ref04_within _ 1 8 _ H1.out).mono ?_)|(with_reducible refine (ref04_within er 0 1 _ H2.out).mono ?_)|(with_reducible refine (ref04_within rt 0 1048576 _ H3.out).mono ?_));rintro e w1 ⟨rfl,rfl⟩)
    go_meet
    exact ⟨by rw [HB.out];first|rfl|simp,rfl⟩
   ·cases n3
    ·go_wp2_with (go_at_call 127;(first|(with_reducible refine (ref04_within _ 1 8 _ H1.out).mono ?_)|(with_reducible refine (ref04_within er 0 1 _ H2.out).mono ?_)|(with_reducible refine (ref04_within rt 0 1048576 _ H3.out).mono ?_));rintro e w1 ⟨rfl,rfl⟩)
     go_meet
     exact ⟨by rw [HB.out];first|rfl|simp,rfl⟩
    ·go_wp2_with (go_at_call 127;(first|(with_reducible refine (ref04_within _ 1 8 _ H1.out).mono ?_)|(with_reducible refine (ref04_within er 0 1 _ H2.out).mono ?_)|(with_reducible refine (ref04_within rt 0 1048576 _ H3.out).mono ?_));rintro e w1 ⟨rfl,rfl⟩)
     go_meet
     exact ⟨by rw [HB.out];first|rfl|simp,rfl⟩
 case rest =>
  obtain ⟨rfl,rfl⟩:=hcut
  cases hsh:shapeB ⟨nm,TA,tc,cols,er,rt⟩
  ·have HSH:=qh hsh
   clear hsh
   go_wp2_with fail
   go_ret
   exact ⟨ret_int (by rw [tabErr,if_neg (by rw [HSH.out];decide)]),hbW⟩
  ·have HSH:=qh hsh
   clear hsh
   go_wp2_with fail
   go_loopw [6] (fun vi wr => ∃ k:Nat,k≤cols.length∧vi = .int .i64 k∧Below W.heap.size W wr∧(∀ i,i<k→colErrAt ts n ⟨nm,TA,tc,cols,er,rt⟩ i = 0)) (fun vi _=>cols.length - (intOf vi).toNat)
   case atStart=>exact ⟨0,Nat.zero_le _,rfl,Below.refl _ _,fun i h=>by omega⟩
   case round =>
    obtain ⟨k,hk,rfl,hbr,hno⟩:=hrel
    have HNO:=qh hno
    have hwz:=hbr.size
    have hxr:=below_nextN hbW hbr hbW.size
    clear hno p0 p1 p2 p3 p4 p5 p6 p7 q0 q1 q2 q3
    obtain ⟨p0,p1,p2,p3,p4,p5,p6,p7⟩:=Cat.blkO (HBC.out.below hbr hz1)
    obtain ⟨q0,q1,q2,q3⟩:=Tab.blk (HBT.out.below hbr hz2)
    by_cases hlt:k<cols.length
    ·have hce:colErrAt ts n ⟨nm,TA,tc,cols,er,rt⟩ k=colErr ts cols er rt n k cols[k]:=by unfold colErrAt;simp only [List.getElem?_eq_getElem hlt]
     by_cases he:colErr ts cols er rt n k cols[k] = 0
     ·have HE:=qh he
      have HCE:=qh hce
      clear he hce
      go_wp2_with (go_at_call 128;(with_reducible refine (ref04_columnO (some ⟨b5,o5,none⟩) c ts n k nm TA tc cols er rt cols[k] o _ (HT.out.next hxr) (HO.out.next hxr) HSO.out HS.out hn HTN.out hlt (by rfl) HNE.out HE.out).mono ?_);rintro e w1 ⟨rfl,hb1⟩)
      go_roundw
      case rel =>
       (repeat apply Exists.intro)
       refine ⟨?_,rfl⟩
       exact ⟨k + 1,by omega,by go_num,below_nextN hbr hb1 hwz,fun i hi=>by
        rcases Nat.lt_or_ge i k with h1|h1
        ·exact HNO.out i h1
        ·obtain rfl:i=k:=by omega
         rw [HCE.out,HE.out]⟩
      case measure=>exact meA
     ·have he':(colErr ts cols er rt n k cols[k] != 0)=true:=by simpa using he
      obtain ⟨ce,hcee⟩ : ∃ ce,colErr ts cols er rt n k cols[k]=ce:=⟨_,rfl⟩
      rw [hcee] at he he' hce
      have HCEE:=qh hcee
      have HCE:=qh hce
      have HE:=qh he
      clear hcee hce he
      go_wp2_with (go_at_call 128;(with_reducible refine (ref04_columnO (some ⟨b5,o5,none⟩) c ts n k nm TA tc cols er rt cols[k] o _ (HT.out.next hxr) (HO.out.next hxr) HSO.out HS.out hn HTN.out hlt (by rfl) HNE.out HCEE.out).mono ?_);rintro e w1 ⟨rfl,hb1⟩)
      go_ret
      refine ⟨ret_int ?_,below_nextN hxr hb1 hxr.size⟩
      rw [tabErr,if_pos HSH.out,firstErr_at HNO.out (by rw [HCE.out];exact HE.out) hlt,HCE.out]
    ·have hlt':decide (k<cols.length)=false:=by simpa using hlt
     go_wp2_with fail
     go_ret
     refine ⟨ret_int ?_,hxr⟩
     rw [tabErr,if_pos HSH.out,firstErr_none fun i hi=>HNO.out i (by simp only at hi;omega)]
def colsAt (ts:List Tab) (k:Int):List Col:=match ts[k.toNat]? with
 | some t=>t.cols
 | none => []
def tyAt (cols:List Col) (k:Int):Int:=match cols[k.toNat]? with
 | some x=>x.ty
 | none => 0
open Go.RowKit Go
theorem ref04_typesO (A:Option Addr) (c m:Nat) (ts:List Tab) (o:Oth) (n:Nat) (w:World) (ht:TabsIn w w.heap.size A ts) (hm:ts.length=m) (hn:n<ts.length) (hl:ts[n].cols.length ≤ 1000000) :
 Calls Tryz.prog 131 #[.agg #[.slice A m c, .slice o.vA 0 o.vc, .slice o.iA o.idx.length o.ic, .slice o.sA o.skt.length o.sc, .slice o.cA o.cch.length o.cc, .slice o.rA o.rel.length o.rc, .slice o.tA o.str.length o.tc, .slice o.bA o.bak.length o.bc], .int .i64 n] w fun e w' =>
  (∃ A' c',e = .returned (.slice A' ts[n].cols.length c')∧SliceIs w' w'.heap.size intCells 1 A' (ts[n].cols.map Col.ty))∧Below w.heap.size w w':=by
 subst hm
 obtain ⟨i0,hi0,hz0,hz1,hz2⟩:=info_parts infoInt
 have HC:=qh (ht.2 ts[n] (lgm hn)).1
 obtain ⟨b5,o5,rfl,hb5,hc5⟩:=ht.1.get hn
 obtain ⟨t0,t1,t2,t3⟩:=Tab.cells4 hc5
 obtain ⟨cols,hcs⟩ : ∃ cols,ts[n].cols=cols:=⟨_,rfl⟩
 obtain ⟨TA,hTA⟩ : ∃ TA,ts[n].A=TA:=⟨_,rfl⟩
 obtain ⟨tc,htc⟩ : ∃ tc,ts[n].cap=tc:=⟨_,rfl⟩
 rw [hcs,hTA] at HC
 rw [hcs,hTA,htc] at t1
 rw [hcs] at hl
 simp only [hcs]
 clear ht hc5 hcs hTA htc t0 t2 t3
 go_enter Tryz.func131,Tryz.ntmps131
 go_upto_region 1 with (fail)
 refine abs_world (P:=fun u=>Code.wp _ _ _ _ u) (R:=fun u=>Blk u w.heap.size 34 #[.slice (some ⟨b5,o5,none⟩) ts.length c, .slice o.vA 0 o.vc, .slice o.iA o.idx.length o.ic, .slice o.sA o.skt.length o.sc, .slice o.cA o.cch.length o.cc, .slice o.rA o.rel.length o.rc, .slice o.tA o.str.length o.tc, .slice o.bA o.bak.length o.bc]∧Below w.heap.size w u) ⟨?_,?_⟩ ?_
 ·exact Blk.new _ _ _
 ·exact belA
 rintro W ⟨hB,hbW⟩
 have hzW:=hB.lt
 have HB:=qh hB
 obtain ⟨q0,_⟩:=Cat.blkO hB
 have HT1:=qh t1
 have hb5':b5<w.heap.size:=hb5
 clear hB t1
 go_upto_region 4 with (fail)
 clear q0
 go_loopw [5,6] (fun vo vi wr => ∃ k:Nat,k≤cols.length∧vi = .int .i64 k∧Owns wr W.heap.size 3 intCells 1 vo ((cols.take k).map Col.ty)∧Below W.heap.size W wr) (fun _ vi _=>cols.length - (intOf vi).toNat)
 case atStart=>exact ⟨0,Nat.zero_le _,rfl,Owns.nil,Below.refl _ _⟩
 case round =>
  obtain ⟨k,hk,rfl,hown,hbr⟩:=hrel
  have hwz:=hbr.size
  have hxr:=below_nextN hbW hbr hbW.size
  obtain ⟨q0,_⟩:=Cat.blkO (HB.out.below hbr hzW)
  have t1:=(hxr.cell (p:=⟨b5,o5+n * 4 + 1,none⟩) hb5').trans HT1.out
  by_cases hlt:k<cols.length
  ·obtain ⟨b6,o6,rfl,hb6,hc6⟩:=(HC.out.below hxr).get hlt
   obtain ⟨c0,c1,c2,c3,c4,c5,c6⟩:=Col.cells7 hc6
   have HOWN:=qh hown
   have hrow:=hown.row
   obtain ⟨LL,hLL⟩ : ∃ LL,(cols.take k).map Col.ty=LL:=⟨_,rfl⟩
   have HML:Hid (LL.length=k):=qh (by rw [← hLL];simp;omega)
   have HNX:Hid ((cols.take (k + 1)).map Col.ty=LL ++ [cols[k].ty]):=qh (by rw [← hLL,List.take_succ_eq_append_getElem hlt,List.map_append];simp)
   rw [hLL] at HOWN
   clear hc6 hown hLL c0 c2 c3 c4 c5 c6
   go_upto_region 6 with (fail)
   have hO2:=qh (HOWN.out.alloc (.cells (intCells cols[k].ty).toArray 3))
   go_wp2_with (at_builtin;go_must ((refine wpList_append_list _ rfl (.tmp 31) (.tmp 42) 22 rfl 3 i0 _ intCells 1 8 Tryz.underlying22 hi0 hz0 hz1 hz2 rfl omA int_len int_one W.heap.size u5 LL rfl hO2.out _ _ _ [cols[k].ty] rfl rfl (Blk.one (enc:=intCells) (x:=cols[k].ty) (Blk.new' rfl) spA) (by have:=HML.out;simp;omega) (by have:=HML.out;simp [maxLen];omega) smA ?_);intro v' w3 hown' hg' hat';have HOWN':=qh hown';clear hown';have hbel:Below W.heap.size W w3:=Below.grown (hbr.alloc omA _) hg' smA hrow))
   go_roundw
   case rel=>exact ⟨k + 1,by omega,by go_num,by rw [HNX.out];exact HOWN'.out,hbel⟩
   case measure=>exact meA
  ·have hlt':decide (k<cols.length)=false:=by simpa using hlt
   obtain rfl:k=cols.length:=by omega
   rw [List.take_length] at hown
   obtain ⟨A8,c8,rfl,hc8,hs8,hA8⟩:=hown.slice int_len
   have HS8:=qh hs8
   rw [List.length_map]
   clear hs8 hown
   go_wp2_with fail
   go_ret
   exact ⟨⟨A8,c8,rfl,HS8.out⟩,hxr⟩
def srcE (ts:List Tab) (s:ByteArray) (col:Int):Int × Int :=
 if findI (ts.map Tab.name) s ts.length < 0 then (0,7) else if withinB col 0 (((colsAt ts (findI (ts.map Tab.name) s ts.length)).length:Int) - 1)=true then (tyAt (colsAt ts (findI (ts.map Tab.name) s ts.length)) col,0) else (0,3)
theorem ref04_sourceO (A:Option Addr) (c m:Nat) (ts:List Tab) (o:Oth) (s:ByteArray) (col:Int) (w:World) (ht:TabsIn w w.heap.size A ts) (ho:OthIn w w.heap.size o) (hso:SaneO o) (hm:ts.length=m) (hs:SaneCat ts) {r1 r2:Int} (hr:srcE ts s col=(r1,r2)) :
 Calls Tryz.prog 137 #[.agg #[.slice A m c, .slice o.vA 0 o.vc, .slice o.iA o.idx.length o.ic, .slice o.sA o.skt.length o.sc, .slice o.cA o.cch.length o.cc, .slice o.rA o.rel.length o.rc, .slice o.tA o.str.length o.tc, .slice o.bA o.bak.length o.bc], .string s, .int .i64 col] w fun e w'=>e = .returned (.tuple #[.int .i64 r1, .int .i64 r2])∧Below w.heap.size w w':=by
 subst hm
 have hlen:=hs.len
 have HT:=qh ht
 have HT1:=qh ht.1
 have HO:=qh ho
 have HSO:=qh hso
 have HS:=qh hs
 obtain ⟨k,hk⟩ : ∃ k,findI (ts.map Tab.name) s ts.length=k:=⟨_,rfl⟩
 unfold srcE at hr
 rw [hk] at hr
 have HK:=qh hk
 have HR:=qh hr
 clear ht ho hso hs hk hr
 go_enter Tryz.func137,Tryz.ntmps137
 go_upto_region 1 with (fail)
 refine abs_world (P:=fun u=>Code.wp _ _ _ _ u) (R:=fun u=>Blk u w.heap.size 34 #[.slice A ts.length c, .slice o.vA 0 o.vc, .slice o.iA o.idx.length o.ic, .slice o.sA o.skt.length o.sc, .slice o.cA o.cch.length o.cc, .slice o.rA o.rel.length o.rc, .slice o.tA o.str.length o.tc, .slice o.bA o.bak.length o.bc]∧Below w.heap.size w u) ⟨?_,?_⟩ ?_
 ·exact Blk.new _ _ _
 ·exact belA
 rintro W ⟨hB,hbW⟩
 have hzW:=hB.lt
 have HB:=qh hB
 obtain ⟨q0,q1,q2,q3,q4,q5,q6,q7⟩:=Cat.blkO hB
 clear hB
 go_upto_region 2 with (go_at_call 129;(with_reducible refine (ref04_findO A c ts.length ts s _ o _ (HT1.out.next hbW) (HO.out.next hbW) HSO.out rfl hlen HK.out).mono ?_);rintro e w1 ⟨rfl,hb1⟩)
 have hx1:=below_nextN hbW hb1 hbW.size
 clear q0 q1 q2 q3 q4 q5 q6 q7
 by_cases h0:k < 0
 ·have h0':decide (k < 0)=true:=by simpa using h0
  have HR0:Hid (r1 = 0∧r2 = 7):=qh (by
   have h:=HR.out
   rw [if_pos h0] at h
   injection h with h1 h2
   exact ⟨h1.symm,h2.symm⟩)
  clear h0
  go_wp2_with fail
  go_ret2
  obtain ⟨e1,e2⟩:=HR0.out
  subst e1 e2
  exact ⟨rfl,hx1⟩
 have h0':decide (k < 0)=false:=by simpa using h0
 obtain ⟨n,hn⟩ : ∃ n:Nat,k=(n:Int):=⟨k.toNat,by omega⟩
 have hnt:n<ts.length:=by
  have h:=HK.out
  obtain ⟨j,hj,e1,e2,_⟩:=findI_get (l:=ts.map Tab.name) (s:=s) (n:=(ts.length:Int)) omA
  omega
 have hcl:ts[n].cols.length ≤ 1000000:=(HS.out.tabs ts[n] (lgm hnt)).len
 subst hn
 have HCA:Hid (colsAt ts (n:Int)=ts[n].cols):=qh (by unfold colsAt;rw [Int.toNat_natCast,List.getElem?_eq_getElem hnt])
 obtain ⟨q0,q1,q2,q3,q4,q5,q6,q7⟩:=Cat.blkO (HB.out.below hb1 hzW)
 clear h0
 go_upto_region 5 with (go_at_call 131;(with_reducible refine (ref04_typesO A c ts.length ts o n _ (HT.out.next hx1) rfl hnt hcl).mono ?_);rintro e w2 ⟨⟨A2,c2,rfl,hs2⟩,hb2⟩)
 have hx2:=below_nextN hx1 hb2 hx1.size
 have HS2:=qh hs2
 obtain ⟨cols,hcs⟩ : ∃ cols,ts[n].cols=cols:=⟨_,rfl⟩
 rw [hcs] at hcl HS2 HCA ⊢
 have hwr:IntKind.i64.wrap ((cols.length:Int) - 1)=(cols.length:Int) - 1:=IntWalk.i64_in _ omA
 obtain ⟨bw,hbw⟩ : ∃ b,withinB col 0 ((cols.length:Int) - 1)=b:=⟨_,rfl⟩
 have HBW:=qh hbw
 have hr2:=HR.out
 rw [if_neg omA,HCA.out,hbw] at hr2
 have HR2:=qh hr2
 clear q0 q1 q2 q3 q4 q5 q6 q7 hs2 hr2 hbw HR
 cases bw
 ·have HR0:Hid (r1 = 0∧r2 = 3):=qh (by
   have h:=HR2.out
   injection h with h1 h2
   exact ⟨h1.symm,h2.symm⟩)
  go_wp2_with (go_at_call 127;(with_reducible refine (ref04_within _ _ _ _ HBW.out).mono ?_);rintro e w3 ⟨rfl,rfl⟩)
  go_ret2
  obtain ⟨e1,e2⟩:=HR0.out
  subst e1 e2
  exact ⟨rfl,hx2⟩
 ·obtain ⟨j,hj⟩ : ∃ j:Nat,col=(j:Int)∧j<cols.length:=by
   have h:=HBW.out
   unfold withinB at h
   rw [Bool.and_eq_true,decide_eq_true_eq,decide_eq_true_eq] at h
   exact ⟨col.toNat,by omega,by omega⟩
  obtain ⟨rfl,hjl⟩:=hj
  have hjm:j<(cols.map Col.ty).length:=by simpa using hjl
  obtain ⟨b7,o7,rfl,hb7,hc7⟩:=HS2.out.get hjm
  have x0:=hc7 0 _ rfl
  simp only [Nat.mul_one,Nat.add_zero,List.getElem_map] at x0
  have HR0:Hid (r1=cols[j].ty∧r2 = 0):=qh (by
   have h:=HR2.out
   rw [if_pos rfl] at h
   unfold tyAt at h
   rw [Int.toNat_natCast,List.getElem?_eq_getElem hjl] at h
   injection h with h1 h2
   exact ⟨h1.symm,h2.symm⟩)
  clear hc7
  go_wp2_with (go_at_call 127;(with_reducible refine (ref04_within _ _ _ _ HBW.out).mono ?_);rintro e w3 ⟨rfl,rfl⟩)
  go_ret2
  obtain ⟨e1,e2⟩:=HR0.out
  subst e1 e2
  exact ⟨rfl,hx2⟩
end Go.Proofs.YtjhnpnhpmdkpcaaGreat
