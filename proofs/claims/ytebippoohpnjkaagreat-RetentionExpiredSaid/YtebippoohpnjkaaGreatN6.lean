/-
  Contracts and plain laws of this seat, part 6.
-/
import Derived.Test.YtebippoohpnjkaaGreatN4
import Derived.Test.YtebippoohpnjkaaGreatN5
set_option linter.unusedVariables false
set_option linter.unusedSimpArgs false
set_option maxRecDepth 100000
set_option maxHeartbeats 16000000
namespace Go.Proofs.YtebippoohpnjkaaGreat
open Go.RowKit
section
variable {α:Type}(lt:α→α→Prop) [DecidableRel lt]
theorem JY{P:Prop}(h:P:=by
 (
 go_region_law (first
 | (refine ak _ rfl (.tmp 33) (.tmp 36) 22 rfl 3 i0 _ intCells 1 8 Tryz.underlying22 hi0 hz0 hz1 hz2 rfl omA bn dL w.heap.size (.slice (some ⟨w.heap.size,0,none⟩) 0 0) [] rfl (aB.empty ncA leA) _ _ _ (l.take k) rfl smA ((HL.out.take k).next av) smA mxA leA ?_;intro v1 w1 hown1 hg1 gz;have hb1:Below w.heap.size w w1:=Below.grown av hg1 leA (aV leA);have hsz1:=hb1.size;have h40:Blk w1 (w.heap.size+1) 3 #[.int .i64 x]:=Blk.grown ndA hg1 (dx omA))
 | (refine ak _ rfl (.tmp 33) (.tmp 36) 22 rfl 3 i0 _ intCells 1 8 Tryz.underlying22 hi0 hz0 hz1 hz2 rfl omA bn dL w.heap.size (.slice (some ⟨(w.heap.size+1),0,none⟩) 0 0) [] rfl (aB.empty ndA leA) _ _ _ (l.take k) rfl smA ((HL.out.take k).next av) smA mxA leA ?_;intro v1 w1 hown1 hg1 gz;have hb1:Below w.heap.size w w1:=Below.grown av hg1 leA (aV leA);have hsz1:=hb1.size;have h40:Blk w1 w.heap.size 3 #[.int .i64 x]:=Blk.grown ncA hg1 (dx omA))
 | (refine ak _ rfl (.tmp 33) (.tmp 36) 22 rfl 3 i0 _ intCells 1 8 Tryz.underlying22 hi0 hz0 hz1 hz2 rfl omA bn dL w.heap.size (.slice (some ⟨w.heap.size,0,none⟩) 0 0) [] rfl (aB.empty neA leA) _ _ _ (l.take k) rfl smA ((HL.out.take k).next av) smA mxA leA ?_;intro v1 w1 hown1 hg1 gz;have hb1:Below w.heap.size w w1:=Below.grown av hg1 leA (aV leA);have hsz1:=hb1.size)
 | (refine ak _ rfl (.tmp 37) (.tmp 39) 22 rfl 3 i0 _ intCells 1 8 Tryz.underlying22 hi0 hz0 hz1 hz2 rfl omA bn dL w.heap.size v1 ([]++l.take k) rfl nfA _ _ _ [x] rfl rfl (by first|exact Blk.one (enc:=intCells) (x:=x) (Blk.new' spA) spA|exact Blk.one (enc:=intCells) (x:=x) h40 h40.lt) smA mxA ngA ?_;intro v2 w2 hown2 hg2 oW;have hb2:Below w.heap.size w w2:=Below.grown av hg2 ngA hown1.row;have hsz2:=hb2.size)
 | (refine ak _ rfl (.tmp 40) (.tmp 43) 22 rfl 3 i0 _ intCells 1 8 Tryz.underlying22 hi0 hz0 hz1 hz2 rfl omA bn dL w.heap.size v2 ([]++l.take k ++ [x]) rfl hown2 _ _ _ (l.drop k) rfl spA (hcut.next hb2) smA mxA hb2.size ?_;intro v3 w3 hown3 hg3 u7;have hb3:Below w.heap.size w w3:=Below.grown hb2 hg3 hb2.size hown2.row;obtain⟨A3,c3,rfl,hc3,hs3,hA3⟩:=hown3.slice bn))
 all_goals go_wp2_with fail
 all_goals go_ret
 all_goals(rw[HE.out];refine⟨⟨A3,c3,?_,?_,?_,.inr fun a h=>(hA3 a h).1⟩,hb3⟩)
 all_goals first
  | (simpa using hs3)
  | (simpa using hc3)
  | exact congrArg (fun n=>Ending.returned (Value.slice A3 n c3)) (by first|(simp;omega)|rfl|omega|(simp;done)))):P:=h
theorem JX{P:Prop}(h:P:=by
 (
 go_region_law (first
 | (refine ak _ rfl (.tmp 33) (.tmp 36) 22 rfl 3 i0 _ intCells 1 8 Tryz.underlying22 hi0 hz0 hz1 hz2 rfl omA bn dL w.heap.size (.slice (some ⟨w.heap.size,0,none⟩) 0 0) [] rfl (aB.empty ncA leA) _ _ _ (l.take k) rfl smA ((HL.out.take k).next av) smA mxA leA ?_;intro v1 w1 hown1 hg1 gz;have hb1:Below w.heap.size w w1:=Below.grown av hg1 leA (aV leA);have hsz1:=hb1.size;have h40:Blk w1 (w.heap.size+1) 3 #[.int .i64 x]:=Blk.grown ndA hg1 (dx omA))
 | (refine ak _ rfl (.tmp 33) (.tmp 36) 22 rfl 3 i0 _ intCells 1 8 Tryz.underlying22 hi0 hz0 hz1 hz2 rfl omA bn dL w.heap.size (.slice (some ⟨(w.heap.size+1),0,none⟩) 0 0) [] rfl (aB.empty ndA leA) _ _ _ (l.take k) rfl smA ((HL.out.take k).next av) smA mxA leA ?_;intro v1 w1 hown1 hg1 gz;have hb1:Below w.heap.size w w1:=Below.grown av hg1 leA (aV leA);have hsz1:=hb1.size;have h40:Blk w1 w.heap.size 3 #[.int .i64 x]:=Blk.grown ncA hg1 (dx omA))
 | (refine ak _ rfl (.tmp 33) (.tmp 36) 22 rfl 3 i0 _ intCells 1 8 Tryz.underlying22 hi0 hz0 hz1 hz2 rfl omA bn dL w.heap.size (.slice (some ⟨w.heap.size,0,none⟩) 0 0) [] rfl (aB.empty neA leA) _ _ _ (l.take k) rfl smA ((HL.out.take k).next av) smA mxA leA ?_;intro v1 w1 hown1 hg1 gz;have hb1:Below w.heap.size w w1:=Below.grown av hg1 leA (aV leA);have hsz1:=hb1.size)
 | (refine ak _ rfl (.tmp 37) (.tmp 39) 22 rfl 3 i0 _ intCells 1 8 Tryz.underlying22 hi0 hz0 hz1 hz2 rfl omA bn dL w.heap.size v1 ([]++l.take k) rfl nfA _ _ _ [x] rfl rfl (by first|exact Blk.one (enc:=intCells) (x:=x) (Blk.new' spA) spA|exact Blk.one (enc:=intCells) (x:=x) h40 h40.lt) smA mxA ngA ?_;intro v2 w2 hown2 hg2 oW;have hb2:Below w.heap.size w w2:=Below.grown av hg2 ngA hown1.row;have hsz2:=hb2.size)
 | (refine ak _ rfl (.tmp 40) (.tmp 43) 22 rfl 3 i0 _ intCells 1 8 Tryz.underlying22 hi0 hz0 hz1 hz2 rfl omA bn dL w.heap.size v2 ([]++l.take k ++ [x]) rfl hown2 _ _ _ (l.drop k) rfl spA ((hcut _).next hb2) smA mxA hb2.size ?_;intro v3 w3 hown3 hg3 u7;have hb3:Below w.heap.size w w3:=Below.grown hb2 hg3 hb2.size hown2.row;obtain⟨A3,c3,rfl,hc3,hs3,hA3⟩:=hown3.slice bn))
 all_goals go_wp2_with fail
 all_goals go_ret
 all_goals(rw[HE.out];refine⟨⟨A3,c3,?_,?_,?_,.inr fun a h=>(hA3 a h).1⟩,hb3⟩)
 all_goals first
  | (simpa using hs3)
  | (simpa using hc3)
  | exact congrArg (fun n=>Ending.returned (Value.slice A3 n c3)) (by first|(simp;omega)|rfl|omega|(simp;done)))):P:=h
def om(l:List α)(x:α):Nat:=(l.takeWhile (fun y=>decide (lt y x))).length
theorem wO{l:List α}{x:α}{m:Nat}(hm:m≤l.length)(hlo:∀j (h:j<l.length),j<m→decide (lt l[j] x)=true)(hhi:∀h:m<l.length,decide (lt l[m] x)=false):om lt l x=m:=fo _ l m hm hlo hhi
theorem L9(l:List α)(x:α):om lt l x≤l.length:=List.Sublist.length_le (List.takeWhile_sublist _)
variable [DecidableEq α]
def uW(l:List α)(x:α):List α:= if l[om lt l x]?=some x then l else l.take (om lt l x)++(x::l.drop (om lt l x))
theorem DF(l:List α)(x y:α):y∈uW lt l x↔y∈l∨y=x:=by
 unfold uW
 split
 ·rename_i h
  have:x∈l:=List.mem_of_getElem? h
  exact⟨.inl,fun k=>k.elim id (fun e=>by rw[e];exact this)⟩
 ·have h1:y∈l↔y∈l.take (om lt l x)∨y∈l.drop (om lt l x):=by
   rw[←List.mem_append,List.take_append_drop]
  rw[h1,List.mem_append,List.mem_cons]
  constructor
  ·rintro(h|h|h)
   ·exact .inl (.inl h)
   ·exact .inr h
   ·exact .inl (.inr h)
  ·rintro((h|h)|h)
   ·exact .inl h
   ·exact .inr (.inr h)
   ·exact .inr (.inl h)
theorem DI(l:List α)(x:α):(uW lt l x).length≤l.length+1:=by
 unfold uW
 split
 ·omega
 ·simp
  omega
theorem J6(htr:∀ {a b c},lt a b→lt b c→lt a c)(TK:∀a b,lt a b∨a=b∨lt b a){l:List α}(h:l.Pairwise lt)(x:α):(uW lt l x).Pairwise lt:=by
 unfold uW
 split
 ·exact h
 ·rename_i hx
  have hlo:∀a∈l.take (om lt l x),lt a x:=by
   intro a ha
   have e:l.take (om lt l x)=l.takeWhile (fun y=>decide (lt y x)):=FY _ l
   rw[e]at ha
   have:=List.all_takeWhile (p:=fun y=>decide (lt y x)) (l:=l)
   rw[List.all_eq_true]at this
   simpa using this a ha
  have hhi:∀b∈l.drop (om lt l x),lt x b:=by
   have hle:=L9 lt l x
   intro b hb
   obtain⟨i,hi,rfl⟩:=List.getElem_of_mem hb
   have hi':om lt l x+i<l.length:=by simp at hi;omega
   have hp:om lt l x<l.length:=by omega
   have h0:¬ lt l[om lt l x] x:=by
    have e:=Nf (fun y=>decide (lt y x)) l hp
    exact of_decide_eq_false e
   have h1:lt x l[om lt l x]:=by
    rcases TK l[om lt l x] x with k|k|k
    ·exact absurd k h0
    ·exact absurd (by rw[List.getElem?_eq_getElem hp,k]) hx
    ·exact k
   rw[List.getElem_drop]
   rcases Nat.eq_zero_or_pos i with rfl|hi0
   ·simpa using h1
   ·exact htr h1 (List.pairwise_iff_getElem.1 h _ _ hp hi' omA)
  refine List.pairwise_append.2 ⟨h.sublist (List.take_sublist _ _),List.pairwise_cons.2 ⟨hhi,h.sublist (List.drop_sublist _ _)⟩,fun a ha b hb =>?_⟩
  rcases List.mem_cons.1 hb with rfl|hb
  ·exact hlo a ha
  ·exact htr (hlo a ha) (hhi b hb)
end
abbrev jf(l:List Int)(x:Int):List Int:=uW (fun a b:Int=>a<b) l x
theorem zX(A:Option Addr)(c n:Nat)(l:List Int)(x:Int)(w:World)(hl:ah w w.heap.size intCells 1 A l)(hln:l.length=n)(hn:n≤1000000)(hcap:l.length≤c):
 Calls Tryz.prog 131 #[.slice A n c,.int .i64 x] w fun e w' =>
  (∃A' c',e=.returned (.slice A' (jf l x).length c')∧(jf l x).length≤c'∧ah w' w'.heap.size intCells 1 A' (jf l x)∧(A'=A ∨ ∀a,A'=some a→w.heap.size≤a.block))∧Below w.heap.size w w':=by
 subst hln
 obtain⟨i0,hi0,hz0,hz1,hz2⟩:=info_parts jv
 have HL:=qh hl
 clear hl
 go_enter Tryz.func131,Tryz.ntmps131
 go_wp2_with fail
 go_loopw [5] (fun vi wr =>∃m:Nat,m≤l.length∧vi=.int .i64 m∧w=wr∧(∀j (h:j<l.length),j<m→decide (l[j]<x)=true)) (fun vi _=>l.length-(intOf vi).toNat)
 case atStart=>exact⟨0,Nat.zero_le _,rfl,rfl,fun j _ h=>by omega⟩
 case round =>
  obtain⟨k,hk,rfl,rfl,hlo⟩:=hrel
  have HLO:=qh hlo
  clear hlo
  by_cases hkl:k<l.length
  ·obtain⟨b6,o6,rfl,hb6,hc6⟩:=HL.out.get hkl
   have y0:=hc6 0 _ rfl
   simp only[Nat.mul_one,Nat.add_zero]at y0
   clear hc6
   cases hls:decide (l[k]<x)
   ·have hpos:om (fun a b:Int=>a<b) l x=k:=wO _ hk HLO.out (fun _=>hls)
    have FQ:=qh hpos
    clear hpos
    by_cases hxe:l[k]=x
    ·have heq:(l[k]==x)=true:=by simpa using hxe
     have e:jf l x=l:=by unfold jf;rw[uW,if_pos (by rw[FQ.out,List.getElem?_eq_getElem hkl,hxe])]
     have HE:=qh e
     clear hxe e
     go_wp2_with fail
     go_ret
     rw[HE.out]
     exact⟨⟨_,c,rfl,hcap,HL.out,.inl rfl⟩,Below.refl _ _⟩
    ·have heq:(l[k]==x)=false:=by simpa using hxe
     have e:jf l x=l.take k++(x::l.drop k):=by unfold jf;rw[uW,if_neg (by rw[FQ.out,List.getElem?_eq_getElem hkl];simpa using hxe),FQ.out]
     have HE:=qh e
     have hkc:k≤c:=by omega
     have hck:¬ c=k:=by omega
     have hcut:ah w w.heap.size intCells 1 (some ⟨b6,o6+k,none⟩) (l.drop k):=by have h:=HL.out.cut (c:=c) k hcap;rwa [if_neg hck,Nat.mul_one]at h
     clear hxe e
     go_upto_region 6 with (fail)
     clear heq hls y0
     exact JY
   ·have HLS:=qh hls
    go_wp2_with fail
    clear hls
    go_roundw
    case rel=>exact⟨k+1,by omega,by go_num,trivial,fun j h hj=>by
     rcases Nat.lt_or_ge j k with h1|h1
     ·exact HLO.out j h h1
     ·obtain rfl:j=k:=by omega
      exact HLS.out⟩
    case measure=>exact meA
  ·have hkl':decide (k<l.length)=false:=by simpa using hkl
   have hke:k=l.length:=by omega
   have hpos:om (fun a b:Int=>a<b) l x=k:=wO _ hk HLO.out (fun h=>absurd h omA)
   have e:jf l x=l.take k++(x::l.drop k):=by unfold jf;rw[uW,if_neg (by rw[hpos,List.getElem?_eq_none omA];simp),hpos]
   have HE:=qh e
   have hdr:l.drop k=[]:=List.drop_eq_nil_of_le omA
   have HDR:=qh hdr
   have HKE:=qh hke
   have hkc:k≤c:=by omega
   have hcut:∀A',ah w w.heap.size intCells 1 A' (l.drop k):=fun A'=>by rw[HDR.out];exact ah.nil
   clear hdr e hpos hke hkl
   go_upto_region 6 with (fail)
   clear hkl'
   exact JX
theorem Ff(A:Option Addr)(c n:Nat)(l:List Int)(x:Int)(w:World)(hl:ah w w.heap.size intCells 1 A l)(hln:l.length=n)(hn:n≤1000000)(hcap:l.length≤c):
 Calls Tryz.prog 79 #[.slice A n c,.int .i64 x] w fun e w' =>
  (∃A' c',e=.returned (.slice A' (jf l x).length c')∧(jf l x).length≤c'∧ah w' w'.heap.size intCells 1 A' (jf l x)∧(A'=A ∨ ∀a,A'=some a→w.heap.size≤a.block))∧Below w.heap.size w w':=by
 subst hln
 obtain⟨i0,hi0,hz0,hz1,hz2⟩:=info_parts jv
 have HL:=qh hl
 clear hl
 go_enter Tryz.func79,Tryz.ntmps79
 go_wp2_with fail
 go_loopw [5] (fun vi wr =>∃m:Nat,m≤l.length∧vi=.int .i64 m∧w=wr∧(∀j (h:j<l.length),j<m→decide (l[j]<x)=true)) (fun vi _=>l.length-(intOf vi).toNat)
 case atStart=>exact⟨0,Nat.zero_le _,rfl,rfl,fun j _ h=>by omega⟩
 case round =>
  obtain⟨k,hk,rfl,rfl,hlo⟩:=hrel
  have HLO:=qh hlo
  clear hlo
  by_cases hkl:k<l.length
  ·obtain⟨b6,o6,rfl,hb6,hc6⟩:=HL.out.get hkl
   have y0:=hc6 0 _ rfl
   simp only[Nat.mul_one,Nat.add_zero]at y0
   clear hc6
   cases hls:decide (l[k]<x)
   ·have hpos:om (fun a b:Int=>a<b) l x=k:=wO _ hk HLO.out (fun _=>hls)
    have FQ:=qh hpos
    clear hpos
    by_cases hxe:l[k]=x
    ·have heq:(l[k]==x)=true:=by simpa using hxe
     have e:jf l x=l:=by unfold jf;rw[uW,if_pos (by rw[FQ.out,List.getElem?_eq_getElem hkl,hxe])]
     have HE:=qh e
     clear hxe e
     go_wp2_with fail
     go_ret
     rw[HE.out]
     exact⟨⟨_,c,rfl,hcap,HL.out,.inl rfl⟩,Below.refl _ _⟩
    ·have heq:(l[k]==x)=false:=by simpa using hxe
     have e:jf l x=l.take k++(x::l.drop k):=by unfold jf;rw[uW,if_neg (by rw[FQ.out,List.getElem?_eq_getElem hkl];simpa using hxe),FQ.out]
     have HE:=qh e
     have hkc:k≤c:=by omega
     have hck:¬ c=k:=by omega
     have hcut:ah w w.heap.size intCells 1 (some ⟨b6,o6+k,none⟩) (l.drop k):=by have h:=HL.out.cut (c:=c) k hcap;rwa [if_neg hck,Nat.mul_one]at h
     clear hxe e
     go_upto_region 6 with (fail)
     clear heq hls y0
     exact JY
   ·have HLS:=qh hls
    go_wp2_with fail
    clear hls
    go_roundw
    case rel=>exact⟨k+1,by omega,by go_num,trivial,fun j h hj=>by
     rcases Nat.lt_or_ge j k with h1|h1
     ·exact HLO.out j h h1
     ·obtain rfl:j=k:=by omega
      exact HLS.out⟩
    case measure=>exact meA
  ·have hkl':decide (k<l.length)=false:=by simpa using hkl
   have hke:k=l.length:=by omega
   have hpos:om (fun a b:Int=>a<b) l x=k:=wO _ hk HLO.out (fun h=>absurd h omA)
   have e:jf l x=l.take k++(x::l.drop k):=by unfold jf;rw[uW,if_neg (by rw[hpos,List.getElem?_eq_none omA];simp),hpos]
   have HE:=qh e
   have hdr:l.drop k=[]:=List.drop_eq_nil_of_le omA
   have HDR:=qh hdr
   have HKE:=qh hke
   have hkc:k≤c:=by omega
   have hcut:∀A',ah w w.heap.size intCells 1 A' (l.drop k):=fun A'=>by rw[HDR.out];exact ah.nil
   clear hdr e hpos hke hkl
   go_upto_region 6 with (fail)
   clear hkl'
   exact JX
def gZ(s0:List Int)(cs:List Col)(os out:List Int):Prop:=out.Pairwise (fun a b:Int=>a<b) ∧ ∀x,x∈out↔x∈s0∨(∃q∈cs,x∈q.own)∨x∈os
theorem gZ.step{s0:List Int}{cs:List Col}{os out:List Int}{k:Nat}(h:gZ s0 cs (os.take k) out)(hk:k<os.length):gZ s0 cs (os.take (k+1)) (jf out os[k]):=by
 refine⟨J6 (fun a b:Int=>a<b) (fun {a b c} h k=>by omega) (fun a b=>by omega) h.1 _,fun x =>?_⟩
 rw[DF,h.2,List.take_succ_eq_append_getElem hk,List.mem_append,List.mem_singleton]
 constructor
 ·rintro((h|h|h)|h)
  ·exact .inl h
  ·exact .inr (.inl h)
  ·exact .inr (.inr (.inl h))
  ·exact .inr (.inr (.inr h))
 ·rintro(h|h|h|h)
  ·exact .inl (.inl h)
  ·exact .inl (.inr (.inl h))
  ·exact .inl (.inr (.inr h))
  ·exact .inr h
theorem gZ.close{s0:List Int}{af:List Col}{out:List Int}{m:Nat}(hm:m<af.length)(h:gZ s0 (af.take m) af[m].own out):gZ s0 (af.take (m+1)) [] out:=by
 refine⟨h.1,fun x =>?_⟩
 rw[h.2,List.take_succ_eq_append_getElem hm]
 constructor
 ·rintro(h|⟨q,hq,h⟩|h)
  ·exact .inl h
  ·exact .inr (.inl ⟨q,List.mem_append_left _ hq,h⟩)
  ·exact .inr (.inl ⟨af[m],List.mem_append_right _ spA,h⟩)
 ·rintro(h|⟨q,hq,h⟩|h)
  ·exact .inl h
  ·rcases List.mem_append.1 hq with k|k
   ·exact .inr (.inl ⟨q,k,h⟩)
   ·rw[List.mem_singleton.1 k]at h
    exact .inr (.inr h)
  ·cases h
theorem DD(l:List Int)(x:Int):(jf l x).length≤l.length+1:=DI _ l x
theorem sj(A:Option Addr)(c m:Nat)(ts:List Tab)(n:Nat)(af:List Col)(w:World)(ht:aM w w.heap.size A ts)(hm:ts.length=m)(hn:n<ts.length)(hcs:ts[n].af=af)(h8:af.length≤100)(uk:∀x∈af,x.own.length≤100):
 Calls Tryz.prog 81 #[.agg #[.slice A m c,.slice none 0 0,.slice none 0 0,.slice none 0 0,.slice none 0 0,.slice none 0 0,.slice none 0 0,.slice none 0 0],.int .i64 n] w fun e w'=>(∃A' c' out,e=.returned (.slice A' out.length c')∧out.length≤c'∧ah w' w'.heap.size intCells 1 A' out∧gZ [] af [] out)∧Below w.heap.size w w':=by
 subst hm
 obtain⟨b5,o5,rfl,hb5,hc5⟩:=ht.1.get hn
 obtain⟨t0,t1,t2,t3⟩:=Tab.df hc5
 have hcn:=ht.2 ts[n] (lgm hn)
 rw[hcs]at t1 hcn
 obtain⟨TA,hTA⟩:∃a,ts[n].A=a:=⟨_,rfl⟩
 obtain⟨tc,htc⟩:∃a,ts[n].cap=a:=⟨_,rfl⟩
 rw[hTA]at hcn t1
 rw[htc]at t1
 have HC:=qh hcn
 have HL:=qh uk
 clear ht hc5 t0 t2 t3 hcn hcs uk hTA htc
 go_enter Tryz.func81,Tryz.ntmps81
 go_upto_region 1 with (fail)
 refine au (P:=fun u=>Code.wp _ _ _ _ u) (R:=fun u=>Blk u w.heap.size 39 #[.slice (some ⟨b5,o5,none⟩) ts.length c,.slice none 0 0,.slice none 0 0,.slice none 0 0,.slice none 0 0,.slice none 0 0,.slice none 0 0,.slice none 0 0]∧Below w.heap.size w u) ⟨?_,?_⟩ ?_
 ·exact Blk.new _ _ _
 ·exact av
 rintro W ⟨hB,hbW⟩
 have t1:=((bg hbW b5 hb5).1 _).trans t1
 have hzW:=hB.lt
 have HB:=qh hB
 clear hB
 go_wp2_with fail
 have hstart:∃(m:Nat) (A2:Option Addr) (c2:Nat) (out:List Int),m≤af.length∧Value.int .i64 0=.int .i64 m∧Value.slice none 0 0=.slice A2 out.length c2∧out.length≤c2∧ah W W.heap.size intCells 1 A2 out∧gZ [] (af.take m) [] out∧out.length≤100*m+1∧Below W.heap.size W W:=⟨0,none,0,[],Nat.zero_le _,rfl,rfl,by simp,ah.nil,⟨List.Pairwise.nil,by simp⟩,by simp,Below.refl _ _⟩
 go_loopw [5,6] (fun vl vi wr =>∃(m:Nat) (A2:Option Addr) (c2:Nat) (out:List Int),m≤af.length∧vi=.int .i64 m∧vl=.slice A2 out.length c2∧out.length≤c2∧ah wr wr.heap.size intCells 1 A2 out∧gZ [] (af.take m) [] out∧out.length≤100*m+1∧Below W.heap.size W wr) (fun _ vi _=>af.length-(intOf vi).toNat)
 case atStart=>exact hstart
 case round =>
  obtain⟨m,A2,c2,out,hm,rfl,rfl,hcap,hso,hot,hol,hbr⟩:=hrel
  have hwz:=hbr.size
  have hxr:=ae hbW hbr hbW.size
  obtain⟨p0,p1,p2,p3,p4,p5,p6,p7⟩:=Cat.blk (HB.out.below hbr hzW)
  have t1':=((bg hbr b5 omA).1 _).trans t1
  have HSO:=qh hso
  have HOT:=qh hot
  clear hso hot
  by_cases hlt:m<af.length
  ·obtain⟨b6,o6,rfl,hb6,hc6⟩:=(HC.out.1.below hxr).get hlt
   obtain⟨_,_,_,_,c4,_,_⟩:=Col.dz hc6
   have hio:=HC.out.2 af[m] (lgm hlt)
   have uk:=HL.out af[m] (lgm hlt)
   obtain⟨⟨nm2,ty2,ns2,rf2,A3,c3,own,jo2,du2⟩,hx⟩:∃x:Col,af[m]=x:=⟨_,rfl⟩
   rw[hx]at c4 hio uk
   simp only at c4 hio uk
   have HX:=qh hx
   have HIO:=qh hio
   clear hc6 hio hx
   go_wp2_with fail
   obtain⟨wo,rfl⟩:∃wo:World,wo=wr:=⟨_,rfl⟩
   clear p0 p1 p2 p3 p4 p5 p6 p7 t1' c4
   go_loopw [5,8] (fun vl vk wi =>∃(k:Nat) (A4:Option Addr) (c4:Nat) (lK:List Int),k≤own.length∧vk=.int .i64 k∧vl=.slice A4 lK.length c4∧lK.length≤c4∧ah wi wi.heap.size intCells 1 A4 lK∧gZ [] (af.take m) (own.take k) lK∧lK.length≤100*m+k+1∧Below wo.heap.size wo wi) (fun _ vk _=>own.length-(intOf vk).toNat)
   case atStart=>exact⟨0,A2,c2,out,Nat.zero_le _,rfl,rfl,hcap,HSO.out,HOT.out,by omega,Below.refl _ _⟩
   case round =>
    obtain⟨k,A4,c4,lK,hk,rfl,rfl,hcap2,Kk,Ku,Mv,hbi⟩:=hrel
    have hyi:=ae hbr hbi hwz
    have hxi:=ae hxr hbi hxr.size
    have Lp:=qh Kk
    have Eh:=qh Ku
    clear Kk Ku
    by_cases hkl:k<own.length
    ·obtain⟨b7,o7,rfl,hb7,hc7⟩:=(HIO.out.below hxi).get hkl
     have x0:=hc7 0 _ rfl
     simp only[Nat.mul_one,Nat.add_zero]at x0
     have yU:=qh (Eh.out.step hkl)
     have hil:=DD lK own[k]
     clear hc7
     go_wp2_with (go_at_call 131;(with_reducible refine(zX A4 c4 lK.length lK own[k] _ Lp.out rfl omA hcap2).mono ?_);rintro e w1 ⟨⟨A5,c5,rfl,hc5,hs5,_⟩,hb1⟩;have HS5:=qh hs5;clear hs5)
     go_roundw
     case rel=>exact⟨k+1,A5,c5,_,by omega,by go_num,rfl,hc5,HS5.out,yU.out,by omega,ae hbi hb1 hbi.size⟩
     case measure=>exact meA
    ·have hkl':decide (k<own.length)=false:=by simpa using hkl
     have hke:k=own.length:=by omega
     have hcl:gZ [] (af.take (m+1)) [] lK:=by
      refine gZ.close hlt ?_
      rw[HX.out]
      have h:=Eh.out
      rwa [hke,List.take_length]at h
     have HCL:=qh hcl
     clear hcl hke
     go_wp2_with fail
     go_roundw
     case rel=>exact⟨m+1,A4,c4,lK,by omega,by go_num,rfl,hcap2,Lp.out,HCL.out,by omega,hyi⟩
     case measure=>exact meA
  ·have hlt':decide (m<af.length)=false:=by simpa using hlt
   obtain rfl:m=af.length:=by omega
   have h:=HOT.out
   rw[List.take_length]at h
   have HH:=qh h
   clear h
   go_wp2_with fail
   go_ret
   exact⟨⟨A2,c2,out,rfl,hcap,HSO.out,HH.out⟩,hxr⟩
theorem qj{ts:List Tab}{af:List Col}{er rt:Int}{n i:Nat}{x:Col}(h:bU ts af er rt n i x=0):
 cE1 x=false∧cE2 af i x=false∧cE3 x (bD ts x.refs n)=false∧cE4 ts x (bD ts x.refs n)=false∧cE5 af x=false∧cE6 er rt i x=false∧cE7 ts i x (bD ts x.refs n)=false:=by
 unfold bU at h
 cases h1:cE1 x
 ·rw[if_neg (by rw[h1];decide)]at h
  cases h2:cE2 af i x
  ·rw[if_neg (by rw[h2];decide)]at h
   cases h3:cE3 x (bD ts x.refs n)
   ·rw[if_neg (by rw[h3];decide)]at h
    cases h4:cE4 ts x (bD ts x.refs n)
    ·rw[if_neg (by rw[h4];decide)]at h
     cases h5:cE5 af x
     ·rw[if_neg (by rw[h5];decide)]at h
      cases h6:cE6 er rt i x
      ·rw[if_neg (by rw[h6];decide)]at h
       cases h7:cE7 ts i x (bD ts x.refs n)
       ·exact⟨rfl,rfl,rfl,rfl,rfl,rfl,rfl⟩
       ·rw[if_pos h7]at h;omega
      ·rw[if_pos h6]at h;omega
     ·rw[if_pos h5]at h;omega
    ·rw[if_pos h4]at h;omega
   ·rw[if_pos h3]at h;omega
  ·rw[if_pos h2]at h;omega
 ·rw[if_pos h1]at h;omega
theorem aY.shape{ts:List Tab}(h:aY ts){n:Nat}(hn:n<ts.length):eD ts[n]=true:=j4 (h.tab n hn).form
theorem aY.af{ts:List Tab}(h:aY ts){n:Nat}(hn:n<ts.length):0<ts[n].af.length∧ts[n].af.length≤8:=nY (h.shape hn)
theorem aY.col{ts:List Tab}(h:aY ts){n:Nat}(hn:n<ts.length){i:Nat}(hi:i<ts[n].af.length):bU ts ts[n].af ts[n].erase ts[n].cK n i ts[n].af[i]=0:=by
 have hf:=(h.tab n hn).form
 have hs:=j4 hf
 rw[gm,if_pos hs]at hf
 have h0:=rT hf i hi
 unfold gX at h0
 rw[List.getElem?_eq_getElem hi]at h0
 exact h0
theorem zZ{af:List Col}{l:List Int}(h:dV af l):∀i (hi:i<l.length),(i:Int)≤l[i]
 | 0,hi=>(h 0 hi).lo
 | i + 1,hi=>by
   have h1:=zZ h i omA
   have h2:=(h (i+1) hi).asc omA
   simp only[Nat.add_sub_cancel]at h2
   omega
theorem EM{af:List Col}{l:List Int}(h:dV af l):l.length≤af.length:=by
 rcases Nat.eq_zero_or_pos l.length with h0|h0
 ·omega
 ·have h1:=zZ h (l.length-1) omA
  have h2:=(h (l.length-1) omA).hi
  omega
theorem aY.EN{ts:List Tab}(h:aY ts){n:Nat}(hn:n<ts.length){x:Col}(hx:x∈ts[n].af):dV ts[n].af x.own:=by
 obtain⟨i,hi,rfl⟩:=List.getElem_of_mem hx
 have h5:=(qj (h.col hn hi)).2.2.2.2.1
 unfold cE5 at h5
 simp only[Bool.or_eq_false_iff,Bool.not_eq_false']at h5
 exact eF.1 h5.1.1.2
theorem aY.wP{ts:List Tab}(h:aY ts){n:Nat}(hn:n<ts.length){x:Col}(hx:x∈ts[n].af):x.own.length≤8:=Nat.le_trans (EM (h.EN hn hx)) (h.af hn).2
theorem aY.ref{ts:List Tab}(h:aY ts){n:Nat}(hn:n<ts.length){x:Col}(hx:x∈ts[n].af)(hr:x.refs≠⟨#[]⟩):∃k:Nat,∃hk:k<ts.length,k<n∧ts[k].name=x.refs∧bD ts x.refs n=(k:Int):=by
 obtain⟨i,hi,rfl⟩:=List.getElem_of_mem hx
 have h3:=(qj (h.col hn hi)).2.2.1
 unfold cE3 at h3
 rw[kE hr]at h3
 have h0:0≤bD ts ts[n].af[i].refs n:=by simpa using h3
 obtain⟨k,hk,he,hkn,hs⟩:=iG (l:=ts.map Tab.name) (s:=ts[n].af[i].refs) (n:=min (n:Int) ts.length) h0
 have hk':k<ts.length:=by simpa using hk
 exact⟨k,hk',by omega,by simpa using hs,he⟩
theorem aY.find{ts:List Tab}(h:aY ts){k:Nat}(hk:k<ts.length):eX (ts.map Tab.name) ts[k].name ts.length=(k:Int):=by
 refine yE (m:=k) (by simpa using hk) omA spA fun i hi hik e =>?_
 have hi':i<ts.length:=by simpa using hi
 exact(h.tab k hk).fresh i hik (by simpa using e)
end Go.Proofs.YtebippoohpnjkaaGreat
