/-
  Contracts and plain laws of this seat, part 6.
-/
import Derived.Test.YtjidligipoldeaaGreatT4
import Derived.Test.YtjidligipoldeaaGreatT5
set_option linter.unusedVariables false
set_option linter.unusedSimpArgs false
set_option maxRecDepth 100000
set_option maxHeartbeats 16000000
namespace Go.Proofs.YtjidligipoldeaaGreat
open Go.RowKit
theorem de{P:Prop}(h:P:=by first|exact Blk.one (enc:=intCells) (x:=x) (Blk.new' spA) spA|exact Blk.one (enc:=intCells) (x:=x) h40 h40.lt):P:=h
theorem dg{P:Prop}(h:P:=by rw[Gn.out,List.getElem?_eq_getElem hkl];simpa using hxe):P:=h
theorem dj{P:Prop}(h:P:=by rw[Gn.out,List.getElem?_eq_getElem hkl,hxe]):P:=h
theorem dk{P:Prop}(h:P:=by first|(simp;omega)|rfl|omega|(simp;done)):P:=h
theorem dp{P:Prop}(h:P:=by rw[hpos,List.getElem?_eq_none omA];simp):P:=h
section
variable {α:Type}(lt:α→α→Prop) [DecidableRel lt]
theorem LK{P:Prop}(h:P:=by
 (
 go_region_law (first
 | (refine av _ rfl (.tmp 33) (.tmp 36) 22 rfl 3 i0 _ intCells 1 8 Tryz.underlying22 hi0 hz0 hz1 hz2 rfl omA bE dZ w.heap.size (.slice (some ⟨w.heap.size,0,none⟩) 0 0) [] rfl (aj.empty ncA leA) _ _ _ (l.take k) rfl smA ((HL.out.take k).next ai) smA mxA leA ?_;intro v1 w1 hown1 hg1 vG;have hb1:Below w.heap.size w w1:=Below.grown ai hg1 leA (bX leA);have hsz1:=hb1.size;have h40:Blk w1 (w.heap.size+1) 3 #[.int .i64 x]:=Blk.grown ndA hg1 (jF omA))
 | (refine av _ rfl (.tmp 33) (.tmp 36) 22 rfl 3 i0 _ intCells 1 8 Tryz.underlying22 hi0 hz0 hz1 hz2 rfl omA bE dZ w.heap.size (.slice (some ⟨(w.heap.size+1),0,none⟩) 0 0) [] rfl (aj.empty ndA leA) _ _ _ (l.take k) rfl smA ((HL.out.take k).next ai) smA mxA leA ?_;intro v1 w1 hown1 hg1 vG;have hb1:Below w.heap.size w w1:=Below.grown ai hg1 leA (bX leA);have hsz1:=hb1.size;have h40:Blk w1 w.heap.size 3 #[.int .i64 x]:=Blk.grown ncA hg1 (jF omA))
 | (refine av _ rfl (.tmp 33) (.tmp 36) 22 rfl 3 i0 _ intCells 1 8 Tryz.underlying22 hi0 hz0 hz1 hz2 rfl omA bE dZ w.heap.size (.slice (some ⟨w.heap.size,0,none⟩) 0 0) [] rfl (aj.empty neA leA) _ _ _ (l.take k) rfl smA ((HL.out.take k).next ai) smA mxA leA ?_;intro v1 w1 hown1 hg1 vG;have hb1:Below w.heap.size w w1:=Below.grown ai hg1 leA (bX leA);have hsz1:=hb1.size)
 | (refine av _ rfl (.tmp 37) (.tmp 39) 22 rfl 3 i0 _ intCells 1 8 Tryz.underlying22 hi0 hz0 hz1 hz2 rfl omA bE dZ w.heap.size v1 ([]++l.take k) rfl nfA _ _ _ [x] rfl rfl de smA mxA ngA ?_;intro v2 w2 hown2 hg2 Du;have hb2:Below w.heap.size w w2:=Below.grown ai hg2 ngA hown1.row;have hsz2:=hb2.size)
 | (refine av _ rfl (.tmp 40) (.tmp 43) 22 rfl 3 i0 _ intCells 1 8 Tryz.underlying22 hi0 hz0 hz1 hz2 rfl omA bE dZ w.heap.size v2 ([]++l.take k ++ [x]) rfl hown2 _ _ _ (l.drop k) rfl spA (hcut.next hb2) smA mxA hb2.size ?_;intro v3 w3 hown3 hg3 qR;have hb3:Below w.heap.size w w3:=Below.grown hb2 hg3 hb2.size hown2.row;obtain⟨A3,c3,rfl,hc3,hs3,hA3⟩:=hown3.slice bE))
 all_goals go_wp2_with fail
 all_goals go_ret
 all_goals(rw[HE.out];refine⟨⟨A3,c3,?_,?_,?_,.inr fun a h=>(hA3 a h).1⟩,hb3⟩)
 all_goals first
  | (simpa using hs3)
  | (simpa using hc3)
  | exact congrArg (fun n=>Ending.returned (Value.slice A3 n c3)) dk)):P:=h
theorem LJ{P:Prop}(h:P:=by
 (
 go_region_law (first
 | (refine av _ rfl (.tmp 33) (.tmp 36) 22 rfl 3 i0 _ intCells 1 8 Tryz.underlying22 hi0 hz0 hz1 hz2 rfl omA bE dZ w.heap.size (.slice (some ⟨w.heap.size,0,none⟩) 0 0) [] rfl (aj.empty ncA leA) _ _ _ (l.take k) rfl smA ((HL.out.take k).next ai) smA mxA leA ?_;intro v1 w1 hown1 hg1 vG;have hb1:Below w.heap.size w w1:=Below.grown ai hg1 leA (bX leA);have hsz1:=hb1.size;have h40:Blk w1 (w.heap.size+1) 3 #[.int .i64 x]:=Blk.grown ndA hg1 (jF omA))
 | (refine av _ rfl (.tmp 33) (.tmp 36) 22 rfl 3 i0 _ intCells 1 8 Tryz.underlying22 hi0 hz0 hz1 hz2 rfl omA bE dZ w.heap.size (.slice (some ⟨(w.heap.size+1),0,none⟩) 0 0) [] rfl (aj.empty ndA leA) _ _ _ (l.take k) rfl smA ((HL.out.take k).next ai) smA mxA leA ?_;intro v1 w1 hown1 hg1 vG;have hb1:Below w.heap.size w w1:=Below.grown ai hg1 leA (bX leA);have hsz1:=hb1.size;have h40:Blk w1 w.heap.size 3 #[.int .i64 x]:=Blk.grown ncA hg1 (jF omA))
 | (refine av _ rfl (.tmp 33) (.tmp 36) 22 rfl 3 i0 _ intCells 1 8 Tryz.underlying22 hi0 hz0 hz1 hz2 rfl omA bE dZ w.heap.size (.slice (some ⟨w.heap.size,0,none⟩) 0 0) [] rfl (aj.empty neA leA) _ _ _ (l.take k) rfl smA ((HL.out.take k).next ai) smA mxA leA ?_;intro v1 w1 hown1 hg1 vG;have hb1:Below w.heap.size w w1:=Below.grown ai hg1 leA (bX leA);have hsz1:=hb1.size)
 | (refine av _ rfl (.tmp 37) (.tmp 39) 22 rfl 3 i0 _ intCells 1 8 Tryz.underlying22 hi0 hz0 hz1 hz2 rfl omA bE dZ w.heap.size v1 ([]++l.take k) rfl nfA _ _ _ [x] rfl rfl de smA mxA ngA ?_;intro v2 w2 hown2 hg2 Du;have hb2:Below w.heap.size w w2:=Below.grown ai hg2 ngA hown1.row;have hsz2:=hb2.size)
 | (refine av _ rfl (.tmp 40) (.tmp 43) 22 rfl 3 i0 _ intCells 1 8 Tryz.underlying22 hi0 hz0 hz1 hz2 rfl omA bE dZ w.heap.size v2 ([]++l.take k ++ [x]) rfl hown2 _ _ _ (l.drop k) rfl spA ((hcut _).next hb2) smA mxA hb2.size ?_;intro v3 w3 hown3 hg3 qR;have hb3:Below w.heap.size w w3:=Below.grown hb2 hg3 hb2.size hown2.row;obtain⟨A3,c3,rfl,hc3,hs3,hA3⟩:=hown3.slice bE))
 all_goals go_wp2_with fail
 all_goals go_ret
 all_goals(rw[HE.out];refine⟨⟨A3,c3,?_,?_,?_,.inr fun a h=>(hA3 a h).1⟩,hb3⟩)
 all_goals first
  | (simpa using hs3)
  | (simpa using hc3)
  | exact congrArg (fun n=>Ending.returned (Value.slice A3 n c3)) dk)):P:=h
def nW(l:List α)(x:α):Nat:=(l.takeWhile (fun y=>decide (lt y x))).length
theorem wQ{l:List α}{x:α}{m:Nat}(hm:m≤l.length)(hlo:∀j (h:j<l.length),j<m→decide (lt l[j] x)=true)(hhi:∀h:m<l.length,decide (lt l[m] x)=false):nW lt l x=m:=mE _ l m hm hlo hhi
theorem N7(l:List α)(x:α):nW lt l x≤l.length:=List.Sublist.length_le (List.takeWhile_sublist _)
variable [DecidableEq α]
def vB(l:List α)(x:α):List α:= if l[nW lt l x]?=some x then l else l.take (nW lt l x)++(x::l.drop (nW lt l x))
theorem Da(l:List α)(x y:α):y∈vB lt l x↔y∈l∨y=x:=by
 unfold vB
 split
 ·rename_i h
  have:x∈l:=List.mem_of_getElem? h
  exact⟨.inl,fun k=>k.elim id (fun e=>by rw[e];exact this)⟩
 ·have h1:y∈l↔y∈l.take (nW lt l x)∨y∈l.drop (nW lt l x):=by
   rw[←List.mem_append,List.take_append_drop]
  rw[h1,List.mem_append,List.mem_cons]
  constructor
  ·rintro(h|h|h)
   ·exact .inl (.inl h)
   ·exact .inr h
   ·exact .inl (.inr h)
  ·rintro((h|h)|h)
   ·exact .inl h
   ·exact .inr (.inr h)
   ·exact .inr (.inl h)
theorem Db(l:List α)(x:α):(vB lt l x).length≤l.length+1:=by
 unfold vB
 split
 ·omega
 ·simp
  omega
theorem LU(htr:∀ {a b c},lt a b→lt b c→lt a c)(WS:∀a b,lt a b∨a=b∨lt b a){l:List α}(h:l.Pairwise lt)(x:α):(vB lt l x).Pairwise lt:=by
 unfold vB
 split
 ·exact h
 ·rename_i hx
  have hlo:∀a∈l.take (nW lt l x),lt a x:=by
   intro a ha
   have e:l.take (nW lt l x)=l.takeWhile (fun y=>decide (lt y x)):=Gv _ l
   rw[e]at ha
   have:=List.all_takeWhile (p:=fun y=>decide (lt y x)) (l:=l)
   rw[List.all_eq_true]at this
   simpa using this a ha
  have hhi:∀b∈l.drop (nW lt l x),lt x b:=by
   have hle:=N7 lt l x
   intro b hb
   obtain⟨i,hi,rfl⟩:=List.getElem_of_mem hb
   have hi':nW lt l x+i<l.length:=by simp at hi;omega
   have hp:nW lt l x<l.length:=by omega
   have h0:¬ lt l[nW lt l x] x:=by
    have e:=PT (fun y=>decide (lt y x)) l hp
    exact of_decide_eq_false e
   have h1:lt x l[nW lt l x]:=by
    rcases WS l[nW lt l x] x with k|k|k
    ·exact absurd k h0
    ·exact absurd (by rw[List.getElem?_eq_getElem hp,k]) hx
    ·exact k
   rw[List.getElem_drop]
   rcases Nat.eq_zero_or_pos i with rfl|hi0
   ·simpa using h1
   ·exact htr h1 (List.pairwise_iff_getElem.1 h _ _ hp hi' omA)
  refine List.pairwise_append.2 ⟨h.sublist (List.take_sublist _ _),List.pairwise_cons.2 ⟨hhi,h.sublist (List.drop_sublist _ _)⟩,fun a ha b hb =>?_⟩
  rcases List.mem_cons.1 hb with rfl|hb
  ·exact hlo a ha
  ·exact htr (hlo a ha) (hhi b hb)
end
abbrev jG(l:List Int)(x:Int):List Int:=vB (fun a b:Int=>a<b) l x
theorem Ia(A:Option Addr)(c n:Nat)(l:List Int)(x:Int)(w:World)(hl:ag w w.heap.size intCells 1 A l)(hln:l.length=n)(hn:n≤1000000)(hcap:l.length≤c):
 Calls Tryz.prog 165 #[.slice A n c,.int .i64 x] w fun e w' =>
  (∃A' c',e=.returned (.slice A' (jG l x).length c')∧(jG l x).length≤c'∧ag w' w'.heap.size intCells 1 A' (jG l x)∧(A'=A ∨ ∀a,A'=some a→w.heap.size≤a.block))∧Below w.heap.size w w':=by
 subst hln
 obtain⟨i0,hi0,hz0,hz1,hz2⟩:=info_parts kY
 have HL:=qh hl
 clear hl
 go_enter Tryz.func165,Tryz.ntmps165
 go_wp2_with fail
 go_loopw [5] (fun vi wr =>∃m:Nat,m≤l.length∧vi=.int .i64 m∧w=wr∧(∀j (h:j<l.length),j<m→decide (l[j]<x)=true)) (fun vi _=>l.length-(intOf vi).toNat)
 case atStart=>exact⟨0,Nat.zero_le _,rfl,rfl,fun j _ h=>by omega⟩
 case round =>
  obtain⟨k,hk,rfl,rfl,hlo⟩:=hrel
  have HLO:=qh hlo
  clear hlo
  by_cases hkl:k<l.length
  ·obtain⟨b6,o6,rfl,hb6,hc6⟩:=HL.out.get hkl
   have y0:=hc6 0 _ rfl
   simp only[Nat.mul_one,Nat.add_zero]at y0
   clear hc6
   cases hls:decide (l[k]<x)
   ·have hpos:nW (fun a b:Int=>a<b) l x=k:=wQ _ hk HLO.out (fun _=>hls)
    have Gn:=qh hpos
    clear hpos
    by_cases hxe:l[k]=x
    ·have heq:(l[k]==x)=true:=by simpa using hxe
     have e:jG l x=l:=by unfold jG;rw[vB,if_pos dj]
     have HE:=qh e
     clear hxe e
     go_wp2_with fail
     go_ret
     rw[HE.out]
     exact⟨⟨_,c,rfl,hcap,HL.out,.inl rfl⟩,Below.refl _ _⟩
    ·have heq:(l[k]==x)=false:=by simpa using hxe
     have e:jG l x=l.take k++(x::l.drop k):=by unfold jG;rw[vB,if_neg dg,Gn.out]
     have HE:=qh e
     have hkc:k≤c:=by omega
     have hck:¬ c=k:=by omega
     have hcut:ag w w.heap.size intCells 1 (some ⟨b6,o6+k,none⟩) (l.drop k):=by have h:=HL.out.cut (c:=c) k hcap;rwa [if_neg hck,Nat.mul_one]at h
     clear hxe e
     go_upto_region 6 with (fail)
     clear heq hls y0
     exact LK
   ·have HLS:=qh hls
    go_wp2_with fail
    clear hls
    go_roundw
    case rel=>exact⟨k+1,by omega,by go_num,trivial,fun j h hj=>by
     rcases Nat.lt_or_ge j k with h1|h1
     ·exact HLO.out j h h1
     ·obtain rfl:j=k:=by omega
      exact HLS.out⟩
    case measure=>exact meA
  ·have hkl':decide (k<l.length)=false:=by simpa using hkl
   have hke:k=l.length:=by omega
   have hpos:nW (fun a b:Int=>a<b) l x=k:=wQ _ hk HLO.out (fun h=>absurd h omA)
   have e:jG l x=l.take k++(x::l.drop k):=by unfold jG;rw[vB,if_neg dp,hpos]
   have HE:=qh e
   have hdr:l.drop k=[]:=List.drop_eq_nil_of_le omA
   have HDR:=qh hdr
   have HKE:=qh hke
   have hkc:k≤c:=by omega
   have hcut:∀A',ag w w.heap.size intCells 1 A' (l.drop k):=fun A'=>by rw[HDR.out];exact ag.nil
   clear hdr e hpos hke hkl
   go_upto_region 6 with (fail)
   clear hkl'
   exact LJ
theorem Ff(A:Option Addr)(c n:Nat)(l:List Int)(x:Int)(w:World)(hl:ag w w.heap.size intCells 1 A l)(hln:l.length=n)(hn:n≤1000000)(hcap:l.length≤c):
 Calls Tryz.prog 109 #[.slice A n c,.int .i64 x] w fun e w' =>
  (∃A' c',e=.returned (.slice A' (jG l x).length c')∧(jG l x).length≤c'∧ag w' w'.heap.size intCells 1 A' (jG l x)∧(A'=A ∨ ∀a,A'=some a→w.heap.size≤a.block))∧Below w.heap.size w w':=by
 subst hln
 obtain⟨i0,hi0,hz0,hz1,hz2⟩:=info_parts kY
 have HL:=qh hl
 clear hl
 go_enter Tryz.func109,Tryz.ntmps109
 go_wp2_with fail
 go_loopw [5] (fun vi wr =>∃m:Nat,m≤l.length∧vi=.int .i64 m∧w=wr∧(∀j (h:j<l.length),j<m→decide (l[j]<x)=true)) (fun vi _=>l.length-(intOf vi).toNat)
 case atStart=>exact⟨0,Nat.zero_le _,rfl,rfl,fun j _ h=>by omega⟩
 case round =>
  obtain⟨k,hk,rfl,rfl,hlo⟩:=hrel
  have HLO:=qh hlo
  clear hlo
  by_cases hkl:k<l.length
  ·obtain⟨b6,o6,rfl,hb6,hc6⟩:=HL.out.get hkl
   have y0:=hc6 0 _ rfl
   simp only[Nat.mul_one,Nat.add_zero]at y0
   clear hc6
   cases hls:decide (l[k]<x)
   ·have hpos:nW (fun a b:Int=>a<b) l x=k:=wQ _ hk HLO.out (fun _=>hls)
    have Gn:=qh hpos
    clear hpos
    by_cases hxe:l[k]=x
    ·have heq:(l[k]==x)=true:=by simpa using hxe
     have e:jG l x=l:=by unfold jG;rw[vB,if_pos dj]
     have HE:=qh e
     clear hxe e
     go_wp2_with fail
     go_ret
     rw[HE.out]
     exact⟨⟨_,c,rfl,hcap,HL.out,.inl rfl⟩,Below.refl _ _⟩
    ·have heq:(l[k]==x)=false:=by simpa using hxe
     have e:jG l x=l.take k++(x::l.drop k):=by unfold jG;rw[vB,if_neg dg,Gn.out]
     have HE:=qh e
     have hkc:k≤c:=by omega
     have hck:¬ c=k:=by omega
     have hcut:ag w w.heap.size intCells 1 (some ⟨b6,o6+k,none⟩) (l.drop k):=by have h:=HL.out.cut (c:=c) k hcap;rwa [if_neg hck,Nat.mul_one]at h
     clear hxe e
     go_upto_region 6 with (fail)
     clear heq hls y0
     exact LK
   ·have HLS:=qh hls
    go_wp2_with fail
    clear hls
    go_roundw
    case rel=>exact⟨k+1,by omega,by go_num,trivial,fun j h hj=>by
     rcases Nat.lt_or_ge j k with h1|h1
     ·exact HLO.out j h h1
     ·obtain rfl:j=k:=by omega
      exact HLS.out⟩
    case measure=>exact meA
  ·have hkl':decide (k<l.length)=false:=by simpa using hkl
   have hke:k=l.length:=by omega
   have hpos:nW (fun a b:Int=>a<b) l x=k:=wQ _ hk HLO.out (fun h=>absurd h omA)
   have e:jG l x=l.take k++(x::l.drop k):=by unfold jG;rw[vB,if_neg dp,hpos]
   have HE:=qh e
   have hdr:l.drop k=[]:=List.drop_eq_nil_of_le omA
   have HDR:=qh hdr
   have HKE:=qh hke
   have hkc:k≤c:=by omega
   have hcut:∀A',ag w w.heap.size intCells 1 A' (l.drop k):=fun A'=>by rw[HDR.out];exact ag.nil
   clear hdr e hpos hke hkl
   go_upto_region 6 with (fail)
   clear hkl'
   exact LJ
theorem EL(A:Option Addr)(c m:Nat)(ts:List Tab)(s:ByteArray)(w:World)(ht:aF w w.heap.size A ts)(hm:ts.length=m)(hs:aM ts)(hok:aN ts){r:Int}(hr:kK (ts.map Tab.name) s ts.length=r):
 Calls Tryz.prog 141 #[.agg #[.slice A m c,.slice none 0 0,.slice none 0 0,.slice none 0 0,.slice none 0 0,.slice none 0 0,.slice none 0 0,.slice none 0 0],.string s] w fun e w'=>e=.returned (.int .i64 r)∧Below w.heap.size w w':=by
 subst hm hr
 have hlen:=hs.len
 have HT:=qh ht
 have HT1:=qh ht.1
 have HS:=qh hs
 have HOK:=qh (bV hok)
 clear ht hs hok
 go_enter Tryz.func141,Tryz.ntmps141
 go_wp2_with fail
 (with_reducible refine(jX A c ts.length ts _ (HT.out.next ai) rfl HS.out HOK.out).mono ?_)
 rintro e w1 ⟨rfl,hb1⟩
 have hx1:Below w.heap.size w w1:=aa ai hb1 leA
 obtain⟨k1,_,_⟩:=bN hb1 w.heap.size ltA
 go_wp2_with fail
 (with_reducible refine(si A c ts.length ts s _ _ (HT1.out.next hx1) rfl hlen rfl).mono ?_)
 rintro e w2 ⟨rfl,hb2⟩
 go_wp2_with fail
 go_ret
 exact⟨rfl,aa hx1 hb2 hx1.size⟩
def jB(s0:List Int)(cs:List Col)(os out:List Int):Prop:=out.Pairwise (fun a b:Int=>a<b) ∧ ∀x,x∈out↔x∈s0∨(∃q∈cs,x∈q.own)∨x∈os
theorem jB.step{s0:List Int}{cs:List Col}{os out:List Int}{k:Nat}(h:jB s0 cs (os.take k) out)(hk:k<os.length):jB s0 cs (os.take (k+1)) (jG out os[k]):=by
 refine⟨LU (fun a b:Int=>a<b) (fun {a b c} h k=>by omega) (fun a b=>by omega) h.1 _,fun x =>?_⟩
 rw[Da,h.2,List.take_succ_eq_append_getElem hk,List.mem_append,List.mem_singleton]
 constructor
 ·rintro((h|h|h)|h)
  ·exact .inl h
  ·exact .inr (.inl h)
  ·exact .inr (.inr (.inl h))
  ·exact .inr (.inr (.inr h))
 ·rintro(h|h|h|h)
  ·exact .inl (.inl h)
  ·exact .inl (.inr (.inl h))
  ·exact .inl (.inr (.inr h))
  ·exact .inr h
theorem jB.close{s0:List Int}{ae:List Col}{out:List Int}{m:Nat}(hm:m<ae.length)(h:jB s0 (ae.take m) ae[m].own out):jB s0 (ae.take (m+1)) [] out:=by
 refine⟨h.1,fun x =>?_⟩
 rw[h.2,List.take_succ_eq_append_getElem hm]
 constructor
 ·rintro(h|⟨q,hq,h⟩|h)
  ·exact .inl h
  ·exact .inr (.inl ⟨q,List.mem_append_left _ hq,h⟩)
  ·exact .inr (.inl ⟨ae[m],List.mem_append_right _ spA,h⟩)
 ·rintro(h|⟨q,hq,h⟩|h)
  ·exact .inl h
  ·rcases List.mem_append.1 hq with k|k
   ·exact .inr (.inl ⟨q,k,h⟩)
   ·rw[List.mem_singleton.1 k]at h
    exact .inr (.inr h)
  ·cases h
theorem LQ(l:List Int)(x:Int):(jG l x).length≤l.length+1:=Db _ l x
theorem qf{ts:List Tab}{ae:List Col}{er rt:Int}{n i:Nat}{x:Col}(h:df ts ae er rt n i x=0):
 cE1 x=false∧cE2 ae i x=false∧cE3 x (bY ts x.refs n)=false∧cE4 ts x (bY ts x.refs n)=false∧cE5 ae x=false∧cE6 er rt i x=false∧cE7 ts i x (bY ts x.refs n)=false:=by
 unfold df at h
 cases h1:cE1 x
 ·rw[if_neg (by rw[h1];decide)]at h
  cases h2:cE2 ae i x
  ·rw[if_neg (by rw[h2];decide)]at h
   cases h3:cE3 x (bY ts x.refs n)
   ·rw[if_neg (by rw[h3];decide)]at h
    cases h4:cE4 ts x (bY ts x.refs n)
    ·rw[if_neg (by rw[h4];decide)]at h
     cases h5:cE5 ae x
     ·rw[if_neg (by rw[h5];decide)]at h
      cases h6:cE6 er rt i x
      ·rw[if_neg (by rw[h6];decide)]at h
       cases h7:cE7 ts i x (bY ts x.refs n)
       ·exact⟨rfl,rfl,rfl,rfl,rfl,rfl,rfl⟩
       ·rw[if_pos h7]at h;omega
      ·rw[if_pos h6]at h;omega
     ·rw[if_pos h5]at h;omega
    ·rw[if_pos h4]at h;omega
   ·rw[if_pos h3]at h;omega
  ·rw[if_pos h2]at h;omega
 ·rw[if_pos h1]at h;omega
theorem aN.shape{ts:List Tab}(h:aN ts){n:Nat}(hn:n<ts.length):kC ts[n]=true:=nP (h.tab n hn).form
theorem aN.ae{ts:List Tab}(h:aN ts){n:Nat}(hn:n<ts.length):0<ts[n].ae.length∧ts[n].ae.length≤8:=xH (h.shape hn)
theorem aN.col{ts:List Tab}(h:aN ts){n:Nat}(hn:n<ts.length){i:Nat}(hi:i<ts[n].ae.length):df ts ts[n].ae ts[n].erase ts[n].mG n i ts[n].ae[i]=0:=by
 have hf:=(h.tab n hn).form
 have hs:=nP hf
 rw[jC,if_pos hs]at hf
 have h0:=rO hf i hi
 unfold qg at h0
 rw[List.getElem?_eq_getElem hi]at h0
 exact h0
theorem zZ{ae:List Col}{l:List Int}(h:gB ae l):∀i (hi:i<l.length),(i:Int)≤l[i]
 | 0,hi=>(h 0 hi).lo
 | i + 1,hi=>by
   have h1:=zZ h i omA
   have h2:=(h (i+1) hi).asc omA
   simp only[Nat.add_sub_cancel]at h2
   omega
theorem ER{ae:List Col}{l:List Int}(h:gB ae l):l.length≤ae.length:=by
 rcases Nat.eq_zero_or_pos l.length with h0|h0
 ·omega
 ·have h1:=zZ h (l.length-1) omA
  have h2:=(h (l.length-1) omA).hi
  omega
theorem aN.K8{ts:List Tab}(h:aN ts){n:Nat}(hn:n<ts.length){x:Col}(hx:x∈ts[n].ae):gB ts[n].ae x.own:=by
 obtain⟨i,hi,rfl⟩:=List.getElem_of_mem hx
 have h5:=(qf (h.col hn hi)).2.2.2.2.1
 unfold cE5 at h5
 simp only[Bool.or_eq_false_iff,Bool.not_eq_false']at h5
 exact nY.1 h5.1.1.2
theorem aN.GA{ts:List Tab}(h:aN ts){n:Nat}(hn:n<ts.length){x:Col}(hx:x∈ts[n].ae):x.own.length≤8:=Nat.le_trans (ER (h.K8 hn hx)) (h.ae hn).2
theorem aN.ref{ts:List Tab}(h:aN ts){n:Nat}(hn:n<ts.length){x:Col}(hx:x∈ts[n].ae)(hr:x.refs≠⟨#[]⟩):∃k:Nat,∃hk:k<ts.length,k<n∧ts[k].name=x.refs∧bY ts x.refs n=(k:Int):=by
 obtain⟨i,hi,rfl⟩:=List.getElem_of_mem hx
 have h3:=(qf (h.col hn hi)).2.2.1
 unfold cE3 at h3
 rw[oD hr]at h3
 have h0:0≤bY ts ts[n].ae[i].refs n:=by simpa using h3
 obtain⟨k,hk,he,hkn,hs⟩:=qF (l:=ts.map Tab.name) (s:=ts[n].ae[i].refs) (n:=min (n:Int) ts.length) h0
 have hk':k<ts.length:=by simpa using hk
 exact⟨k,hk',by omega,by simpa using hs,he⟩
theorem aN.find{ts:List Tab}(h:aN ts){k:Nat}(hk:k<ts.length):kK (ts.map Tab.name) ts[k].name ts.length=(k:Int):=by
 refine yL (m:=k) (by simpa using hk) omA spA fun i hi hik e =>?_
 have hi':i<ts.length:=by simpa using hi
 exact(h.tab k hk).fresh i hik (by simpa using e)
end Go.Proofs.YtjidligipoldeaaGreat
