/-
  Contracts and plain laws of this seat, part 6.
-/
import Derived.Test.YtebippoohpnjkaaGreatF4
import Derived.Test.YtebippoohpnjkaaGreatF5
set_option linter.unusedVariables false
set_option linter.unusedSimpArgs false
set_option maxRecDepth 100000
set_option maxHeartbeats 16000000
namespace Go.Proofs.YtebippoohpnjkaaGreat
open Go.RowKit
theorem fm{P:Prop}(h:P:=by first|exact Blk.one (enc:=intCells) (x:=x) (Blk.new' spA) spA|exact Blk.one (enc:=intCells) (x:=x) h40 h40.lt):P:=h
theorem fp{P:Prop}(h:P:=by rw[F9.out,List.getElem?_eq_getElem hkl];simpa using hxe):P:=h
theorem fr{P:Prop}(h:P:=by rw[F9.out,List.getElem?_eq_getElem hkl,hxe]):P:=h
theorem fs{P:Prop}(h:P:=by first|(simp;omega)|rfl|omega|(simp;done)):P:=h
theorem ft{P:Prop}(h:P:=by rw[hpos,List.getElem?_eq_none omA];simp):P:=h
section
variable {α:Type}(lt:α→α→Prop) [DecidableRel lt]
theorem KJ{P:Prop}(h:P:=by
 (
 go_region_law (first
 | (refine aC _ rfl (.tmp 33) (.tmp 36) 22 rfl 3 i0 _ intCells 1 8 Tryz.underlying22 hi0 hz0 hz1 hz2 rfl omA bn eu w.heap.size (.slice (some ⟨w.heap.size,0,none⟩) 0 0) [] rfl (ax.empty ncA leA) _ _ _ (l.take k) rfl smA ((HL.out.take k).next ak) smA mxA leA ?_;intro v1 w1 hown1 hg1 uK;have hb1:Below w.heap.size w w1:=Below.grown ak hg1 leA (bR leA);have hsz1:=hb1.size;have h40:Blk w1 (w.heap.size+1) 3 #[.int .i64 x]:=Blk.grown ndA hg1 (gL omA))
 | (refine aC _ rfl (.tmp 33) (.tmp 36) 22 rfl 3 i0 _ intCells 1 8 Tryz.underlying22 hi0 hz0 hz1 hz2 rfl omA bn eu w.heap.size (.slice (some ⟨(w.heap.size+1),0,none⟩) 0 0) [] rfl (ax.empty ndA leA) _ _ _ (l.take k) rfl smA ((HL.out.take k).next ak) smA mxA leA ?_;intro v1 w1 hown1 hg1 uK;have hb1:Below w.heap.size w w1:=Below.grown ak hg1 leA (bR leA);have hsz1:=hb1.size;have h40:Blk w1 w.heap.size 3 #[.int .i64 x]:=Blk.grown ncA hg1 (gL omA))
 | (refine aC _ rfl (.tmp 33) (.tmp 36) 22 rfl 3 i0 _ intCells 1 8 Tryz.underlying22 hi0 hz0 hz1 hz2 rfl omA bn eu w.heap.size (.slice (some ⟨w.heap.size,0,none⟩) 0 0) [] rfl (ax.empty neA leA) _ _ _ (l.take k) rfl smA ((HL.out.take k).next ak) smA mxA leA ?_;intro v1 w1 hown1 hg1 uK;have hb1:Below w.heap.size w w1:=Below.grown ak hg1 leA (bR leA);have hsz1:=hb1.size)
 | (refine aC _ rfl (.tmp 37) (.tmp 39) 22 rfl 3 i0 _ intCells 1 8 Tryz.underlying22 hi0 hz0 hz1 hz2 rfl omA bn eu w.heap.size v1 ([]++l.take k) rfl nfA _ _ _ [x] rfl rfl fm smA mxA ngA ?_;intro v2 w2 hown2 hg2 zu;have hb2:Below w.heap.size w w2:=Below.grown ak hg2 ngA hown1.row;have hsz2:=hb2.size)
 | (refine aC _ rfl (.tmp 40) (.tmp 43) 22 rfl 3 i0 _ intCells 1 8 Tryz.underlying22 hi0 hz0 hz1 hz2 rfl omA bn eu w.heap.size v2 ([]++l.take k ++ [x]) rfl hown2 _ _ _ (l.drop k) rfl spA (hcut.next hb2) smA mxA hb2.size ?_;intro v3 w3 hown3 hg3 zt;have hb3:Below w.heap.size w w3:=Below.grown hb2 hg3 hb2.size hown2.row;obtain⟨A3,c3,rfl,hc3,hs3,hA3⟩:=hown3.slice bn))
 all_goals go_wp2_with fail
 all_goals go_ret
 all_goals(rw[HE.out];refine⟨⟨A3,c3,?_,?_,?_,.inr fun a h=>(hA3 a h).1⟩,hb3⟩)
 all_goals first
  | (simpa using hs3)
  | (simpa using hc3)
  | exact congrArg (fun n=>Ending.returned (Value.slice A3 n c3)) fs)):P:=h
theorem KI{P:Prop}(h:P:=by
 (
 go_region_law (first
 | (refine aC _ rfl (.tmp 33) (.tmp 36) 22 rfl 3 i0 _ intCells 1 8 Tryz.underlying22 hi0 hz0 hz1 hz2 rfl omA bn eu w.heap.size (.slice (some ⟨w.heap.size,0,none⟩) 0 0) [] rfl (ax.empty ncA leA) _ _ _ (l.take k) rfl smA ((HL.out.take k).next ak) smA mxA leA ?_;intro v1 w1 hown1 hg1 uK;have hb1:Below w.heap.size w w1:=Below.grown ak hg1 leA (bR leA);have hsz1:=hb1.size;have h40:Blk w1 (w.heap.size+1) 3 #[.int .i64 x]:=Blk.grown ndA hg1 (gL omA))
 | (refine aC _ rfl (.tmp 33) (.tmp 36) 22 rfl 3 i0 _ intCells 1 8 Tryz.underlying22 hi0 hz0 hz1 hz2 rfl omA bn eu w.heap.size (.slice (some ⟨(w.heap.size+1),0,none⟩) 0 0) [] rfl (ax.empty ndA leA) _ _ _ (l.take k) rfl smA ((HL.out.take k).next ak) smA mxA leA ?_;intro v1 w1 hown1 hg1 uK;have hb1:Below w.heap.size w w1:=Below.grown ak hg1 leA (bR leA);have hsz1:=hb1.size;have h40:Blk w1 w.heap.size 3 #[.int .i64 x]:=Blk.grown ncA hg1 (gL omA))
 | (refine aC _ rfl (.tmp 33) (.tmp 36) 22 rfl 3 i0 _ intCells 1 8 Tryz.underlying22 hi0 hz0 hz1 hz2 rfl omA bn eu w.heap.size (.slice (some ⟨w.heap.size,0,none⟩) 0 0) [] rfl (ax.empty neA leA) _ _ _ (l.take k) rfl smA ((HL.out.take k).next ak) smA mxA leA ?_;intro v1 w1 hown1 hg1 uK;have hb1:Below w.heap.size w w1:=Below.grown ak hg1 leA (bR leA);have hsz1:=hb1.size)
 | (refine aC _ rfl (.tmp 37) (.tmp 39) 22 rfl 3 i0 _ intCells 1 8 Tryz.underlying22 hi0 hz0 hz1 hz2 rfl omA bn eu w.heap.size v1 ([]++l.take k) rfl nfA _ _ _ [x] rfl rfl fm smA mxA ngA ?_;intro v2 w2 hown2 hg2 zu;have hb2:Below w.heap.size w w2:=Below.grown ak hg2 ngA hown1.row;have hsz2:=hb2.size)
 | (refine aC _ rfl (.tmp 40) (.tmp 43) 22 rfl 3 i0 _ intCells 1 8 Tryz.underlying22 hi0 hz0 hz1 hz2 rfl omA bn eu w.heap.size v2 ([]++l.take k ++ [x]) rfl hown2 _ _ _ (l.drop k) rfl spA ((hcut _).next hb2) smA mxA hb2.size ?_;intro v3 w3 hown3 hg3 zt;have hb3:Below w.heap.size w w3:=Below.grown hb2 hg3 hb2.size hown2.row;obtain⟨A3,c3,rfl,hc3,hs3,hA3⟩:=hown3.slice bn))
 all_goals go_wp2_with fail
 all_goals go_ret
 all_goals(rw[HE.out];refine⟨⟨A3,c3,?_,?_,?_,.inr fun a h=>(hA3 a h).1⟩,hb3⟩)
 all_goals first
  | (simpa using hs3)
  | (simpa using hc3)
  | exact congrArg (fun n=>Ending.returned (Value.slice A3 n c3)) fs)):P:=h
def nI(l:List α)(x:α):Nat:=(l.takeWhile (fun y=>decide (lt y x))).length
theorem wD{l:List α}{x:α}{m:Nat}(hm:m≤l.length)(hlo:∀j (h:j<l.length),j<m→decide (lt l[j] x)=true)(hhi:∀h:m<l.length,decide (lt l[m] x)=false):nI lt l x=m:=ma _ l m hm hlo hhi
theorem Nc(l:List α)(x:α):nI lt l x≤l.length:=List.Sublist.length_le (List.takeWhile_sublist _)
variable [DecidableEq α]
def uH(l:List α)(x:α):List α:= if l[nI lt l x]?=some x then l else l.take (nI lt l x)++(x::l.drop (nI lt l x))
theorem CG(l:List α)(x y:α):y∈uH lt l x↔y∈l∨y=x:=by
 unfold uH
 split
 ·rename_i h
  have:x∈l:=List.mem_of_getElem? h
  exact⟨.inl,fun k=>k.elim id (fun e=>by rw[e];exact this)⟩
 ·have h1:y∈l↔y∈l.take (nI lt l x)∨y∈l.drop (nI lt l x):=by
   rw[←List.mem_append,List.take_append_drop]
  rw[h1,List.mem_append,List.mem_cons]
  constructor
  ·rintro(h|h|h)
   ·exact .inl (.inl h)
   ·exact .inr h
   ·exact .inl (.inr h)
  ·rintro((h|h)|h)
   ·exact .inl h
   ·exact .inr (.inr h)
   ·exact .inr (.inl h)
theorem CJ(l:List α)(x:α):(uH lt l x).length≤l.length+1:=by
 unfold uH
 split
 ·omega
 ·simp
  omega
theorem KO(htr:∀ {a b c},lt a b→lt b c→lt a c)(Ux:∀a b,lt a b∨a=b∨lt b a){l:List α}(h:l.Pairwise lt)(x:α):(uH lt l x).Pairwise lt:=by
 unfold uH
 split
 ·exact h
 ·rename_i hx
  have hlo:∀a∈l.take (nI lt l x),lt a x:=by
   intro a ha
   have e:l.take (nI lt l x)=l.takeWhile (fun y=>decide (lt y x)):=Gh _ l
   rw[e]at ha
   have:=List.all_takeWhile (p:=fun y=>decide (lt y x)) (l:=l)
   rw[List.all_eq_true]at this
   simpa using this a ha
  have hhi:∀b∈l.drop (nI lt l x),lt x b:=by
   have hle:=Nc lt l x
   intro b hb
   obtain⟨i,hi,rfl⟩:=List.getElem_of_mem hb
   have hi':nI lt l x+i<l.length:=by simp at hi;omega
   have hp:nI lt l x<l.length:=by omega
   have h0:¬ lt l[nI lt l x] x:=by
    have e:=OC (fun y=>decide (lt y x)) l hp
    exact of_decide_eq_false e
   have h1:lt x l[nI lt l x]:=by
    rcases Ux l[nI lt l x] x with k|k|k
    ·exact absurd k h0
    ·exact absurd (by rw[List.getElem?_eq_getElem hp,k]) hx
    ·exact k
   rw[List.getElem_drop]
   rcases Nat.eq_zero_or_pos i with rfl|hi0
   ·simpa using h1
   ·exact htr h1 (List.pairwise_iff_getElem.1 h _ _ hp hi' omA)
  refine List.pairwise_append.2 ⟨h.sublist (List.take_sublist _ _),List.pairwise_cons.2 ⟨hhi,h.sublist (List.drop_sublist _ _)⟩,fun a ha b hb =>?_⟩
  rcases List.mem_cons.1 hb with rfl|hb
  ·exact hlo a ha
  ·exact htr (hlo a ha) (hhi b hb)
end
abbrev jH(l:List Int)(x:Int):List Int:=uH (fun a b:Int=>a<b) l x
theorem Hw(A:Option Addr)(c n:Nat)(l:List Int)(x:Int)(w:World)(hl:ah w w.heap.size intCells 1 A l)(hln:l.length=n)(hn:n≤1000000)(hcap:l.length≤c):
 Calls Tryz.prog 131 #[.slice A n c,.int .i64 x] w fun e w' =>
  (∃A' c',e=.returned (.slice A' (jH l x).length c')∧(jH l x).length≤c'∧ah w' w'.heap.size intCells 1 A' (jH l x)∧(A'=A ∨ ∀a,A'=some a→w.heap.size≤a.block))∧Below w.heap.size w w':=by
 subst hln
 obtain⟨i0,hi0,hz0,hz1,hz2⟩:=info_parts lh
 have HL:=qh hl
 clear hl
 go_enter Tryz.func131,Tryz.ntmps131
 go_wp2_with fail
 go_loopw [5] (fun vi wr =>∃m:Nat,m≤l.length∧vi=.int .i64 m∧w=wr∧(∀j (h:j<l.length),j<m→decide (l[j]<x)=true)) (fun vi _=>l.length-(intOf vi).toNat)
 case atStart=>exact⟨0,Nat.zero_le _,rfl,rfl,fun j _ h=>by omega⟩
 case round =>
  obtain⟨k,hk,rfl,rfl,hlo⟩:=hrel
  have HLO:=qh hlo
  clear hlo
  by_cases hkl:k<l.length
  ·obtain⟨b6,o6,rfl,hb6,hc6⟩:=HL.out.get hkl
   have y0:=hc6 0 _ rfl
   simp only[Nat.mul_one,Nat.add_zero]at y0
   clear hc6
   cases hls:decide (l[k]<x)
   ·have hpos:nI (fun a b:Int=>a<b) l x=k:=wD _ hk HLO.out (fun _=>hls)
    have F9:=qh hpos
    clear hpos
    by_cases hxe:l[k]=x
    ·have heq:(l[k]==x)=true:=by simpa using hxe
     have e:jH l x=l:=by unfold jH;rw[uH,if_pos fr]
     have HE:=qh e
     clear hxe e
     go_wp2_with fail
     go_ret
     rw[HE.out]
     exact⟨⟨_,c,rfl,hcap,HL.out,.inl rfl⟩,Below.refl _ _⟩
    ·have heq:(l[k]==x)=false:=by simpa using hxe
     have e:jH l x=l.take k++(x::l.drop k):=by unfold jH;rw[uH,if_neg fp,F9.out]
     have HE:=qh e
     have hkc:k≤c:=by omega
     have hck:¬ c=k:=by omega
     have hcut:ah w w.heap.size intCells 1 (some ⟨b6,o6+k,none⟩) (l.drop k):=by have h:=HL.out.cut (c:=c) k hcap;rwa [if_neg hck,Nat.mul_one]at h
     clear hxe e
     go_upto_region 6 with (fail)
     clear heq hls y0
     exact KJ
   ·have HLS:=qh hls
    go_wp2_with fail
    clear hls
    go_roundw
    case rel=>exact⟨k+1,by omega,by go_num,trivial,fun j h hj=>by
     rcases Nat.lt_or_ge j k with h1|h1
     ·exact HLO.out j h h1
     ·obtain rfl:j=k:=by omega
      exact HLS.out⟩
    case measure=>exact meA
  ·have hkl':decide (k<l.length)=false:=by simpa using hkl
   have hke:k=l.length:=by omega
   have hpos:nI (fun a b:Int=>a<b) l x=k:=wD _ hk HLO.out (fun h=>absurd h omA)
   have e:jH l x=l.take k++(x::l.drop k):=by unfold jH;rw[uH,if_neg ft,hpos]
   have HE:=qh e
   have hdr:l.drop k=[]:=List.drop_eq_nil_of_le omA
   have HDR:=qh hdr
   have HKE:=qh hke
   have hkc:k≤c:=by omega
   have hcut:∀A',ah w w.heap.size intCells 1 A' (l.drop k):=fun A'=>by rw[HDR.out];exact ah.nil
   clear hdr e hpos hke hkl
   go_upto_region 6 with (fail)
   clear hkl'
   exact KI
theorem EO(A:Option Addr)(c n:Nat)(l:List Int)(x:Int)(w:World)(hl:ah w w.heap.size intCells 1 A l)(hln:l.length=n)(hn:n≤1000000)(hcap:l.length≤c):
 Calls Tryz.prog 79 #[.slice A n c,.int .i64 x] w fun e w' =>
  (∃A' c',e=.returned (.slice A' (jH l x).length c')∧(jH l x).length≤c'∧ah w' w'.heap.size intCells 1 A' (jH l x)∧(A'=A ∨ ∀a,A'=some a→w.heap.size≤a.block))∧Below w.heap.size w w':=by
 subst hln
 obtain⟨i0,hi0,hz0,hz1,hz2⟩:=info_parts lh
 have HL:=qh hl
 clear hl
 go_enter Tryz.func79,Tryz.ntmps79
 go_wp2_with fail
 go_loopw [5] (fun vi wr =>∃m:Nat,m≤l.length∧vi=.int .i64 m∧w=wr∧(∀j (h:j<l.length),j<m→decide (l[j]<x)=true)) (fun vi _=>l.length-(intOf vi).toNat)
 case atStart=>exact⟨0,Nat.zero_le _,rfl,rfl,fun j _ h=>by omega⟩
 case round =>
  obtain⟨k,hk,rfl,rfl,hlo⟩:=hrel
  have HLO:=qh hlo
  clear hlo
  by_cases hkl:k<l.length
  ·obtain⟨b6,o6,rfl,hb6,hc6⟩:=HL.out.get hkl
   have y0:=hc6 0 _ rfl
   simp only[Nat.mul_one,Nat.add_zero]at y0
   clear hc6
   cases hls:decide (l[k]<x)
   ·have hpos:nI (fun a b:Int=>a<b) l x=k:=wD _ hk HLO.out (fun _=>hls)
    have F9:=qh hpos
    clear hpos
    by_cases hxe:l[k]=x
    ·have heq:(l[k]==x)=true:=by simpa using hxe
     have e:jH l x=l:=by unfold jH;rw[uH,if_pos fr]
     have HE:=qh e
     clear hxe e
     go_wp2_with fail
     go_ret
     rw[HE.out]
     exact⟨⟨_,c,rfl,hcap,HL.out,.inl rfl⟩,Below.refl _ _⟩
    ·have heq:(l[k]==x)=false:=by simpa using hxe
     have e:jH l x=l.take k++(x::l.drop k):=by unfold jH;rw[uH,if_neg fp,F9.out]
     have HE:=qh e
     have hkc:k≤c:=by omega
     have hck:¬ c=k:=by omega
     have hcut:ah w w.heap.size intCells 1 (some ⟨b6,o6+k,none⟩) (l.drop k):=by have h:=HL.out.cut (c:=c) k hcap;rwa [if_neg hck,Nat.mul_one]at h
     clear hxe e
     go_upto_region 6 with (fail)
     clear heq hls y0
     exact KJ
   ·have HLS:=qh hls
    go_wp2_with fail
    clear hls
    go_roundw
    case rel=>exact⟨k+1,by omega,by go_num,trivial,fun j h hj=>by
     rcases Nat.lt_or_ge j k with h1|h1
     ·exact HLO.out j h h1
     ·obtain rfl:j=k:=by omega
      exact HLS.out⟩
    case measure=>exact meA
  ·have hkl':decide (k<l.length)=false:=by simpa using hkl
   have hke:k=l.length:=by omega
   have hpos:nI (fun a b:Int=>a<b) l x=k:=wD _ hk HLO.out (fun h=>absurd h omA)
   have e:jH l x=l.take k++(x::l.drop k):=by unfold jH;rw[uH,if_neg ft,hpos]
   have HE:=qh e
   have hdr:l.drop k=[]:=List.drop_eq_nil_of_le omA
   have HDR:=qh hdr
   have HKE:=qh hke
   have hkc:k≤c:=by omega
   have hcut:∀A',ah w w.heap.size intCells 1 A' (l.drop k):=fun A'=>by rw[HDR.out];exact ah.nil
   clear hdr e hpos hke hkl
   go_upto_region 6 with (fail)
   clear hkl'
   exact KI
def jD(s0:List Int)(cs:List Col)(os out:List Int):Prop:=out.Pairwise (fun a b:Int=>a<b) ∧ ∀x,x∈out↔x∈s0∨(∃q∈cs,x∈q.own)∨x∈os
theorem jD.step{s0:List Int}{cs:List Col}{os out:List Int}{k:Nat}(h:jD s0 cs (os.take k) out)(hk:k<os.length):jD s0 cs (os.take (k+1)) (jH out os[k]):=by
 refine⟨KO (fun a b:Int=>a<b) (fun {a b c} h k=>by omega) (fun a b=>by omega) h.1 _,fun x =>?_⟩
 rw[CG,h.2,List.take_succ_eq_append_getElem hk,List.mem_append,List.mem_singleton]
 constructor
 ·rintro((h|h|h)|h)
  ·exact .inl h
  ·exact .inr (.inl h)
  ·exact .inr (.inr (.inl h))
  ·exact .inr (.inr (.inr h))
 ·rintro(h|h|h|h)
  ·exact .inl (.inl h)
  ·exact .inl (.inr (.inl h))
  ·exact .inl (.inr (.inr h))
  ·exact .inr h
theorem jD.close{s0:List Int}{af:List Col}{out:List Int}{m:Nat}(hm:m<af.length)(h:jD s0 (af.take m) af[m].own out):jD s0 (af.take (m+1)) [] out:=by
 refine⟨h.1,fun x =>?_⟩
 rw[h.2,List.take_succ_eq_append_getElem hm]
 constructor
 ·rintro(h|⟨q,hq,h⟩|h)
  ·exact .inl h
  ·exact .inr (.inl ⟨q,List.mem_append_left _ hq,h⟩)
  ·exact .inr (.inl ⟨af[m],List.mem_append_right _ spA,h⟩)
 ·rintro(h|⟨q,hq,h⟩|h)
  ·exact .inl h
  ·rcases List.mem_append.1 hq with k|k
   ·exact .inr (.inl ⟨q,k,h⟩)
   ·rw[List.mem_singleton.1 k]at h
    exact .inr (.inr h)
  ·cases h
theorem KN(l:List Int)(x:Int):(jH l x).length≤l.length+1:=CJ _ l x
theorem vS{ts:List Tab}{af:List Col}{er rt:Int}{n i:Nat}{x:Col}(h:df ts af er rt n i x=0):
 cE1 x=false∧cE2 af i x=false∧cE3 x (bJ ts x.refs n)=false∧cE4 ts x (bJ ts x.refs n)=false∧cE5 af x=false∧cE6 er rt i x=false∧cE7 ts i x (bJ ts x.refs n)=false:=by
 unfold df at h
 cases h1:cE1 x
 ·rw[if_neg (by rw[h1];decide)]at h
  cases h2:cE2 af i x
  ·rw[if_neg (by rw[h2];decide)]at h
   cases h3:cE3 x (bJ ts x.refs n)
   ·rw[if_neg (by rw[h3];decide)]at h
    cases h4:cE4 ts x (bJ ts x.refs n)
    ·rw[if_neg (by rw[h4];decide)]at h
     cases h5:cE5 af x
     ·rw[if_neg (by rw[h5];decide)]at h
      cases h6:cE6 er rt i x
      ·rw[if_neg (by rw[h6];decide)]at h
       cases h7:cE7 ts i x (bJ ts x.refs n)
       ·exact⟨rfl,rfl,rfl,rfl,rfl,rfl,rfl⟩
       ·rw[if_pos h7]at h;omega
      ·rw[if_pos h6]at h;omega
     ·rw[if_pos h5]at h;omega
    ·rw[if_pos h4]at h;omega
   ·rw[if_pos h3]at h;omega
  ·rw[if_pos h2]at h;omega
 ·rw[if_pos h1]at h;omega
theorem aV.shape{ts:List Tab}(h:aV ts){n:Nat}(hn:n<ts.length):gK ts[n]=true:=kD (h.tab n hn).form
theorem aV.af{ts:List Tab}(h:aV ts){n:Nat}(hn:n<ts.length):0<ts[n].af.length∧ts[n].af.length≤8:=nA (h.shape hn)
theorem aV.col{ts:List Tab}(h:aV ts){n:Nat}(hn:n<ts.length){i:Nat}(hi:i<ts[n].af.length):df ts ts[n].af ts[n].erase ts[n].eD n i ts[n].af[i]=0:=by
 have hf:=(h.tab n hn).form
 have hs:=kD hf
 rw[il,if_pos hs]at hf
 have h0:=qM hf i hi
 unfold iO at h0
 rw[List.getElem?_eq_getElem hi]at h0
 exact h0
theorem zP{af:List Col}{l:List Int}(h:gm af l):∀i (hi:i<l.length),(i:Int)≤l[i]
 | 0,hi=>(h 0 hi).lo
 | i + 1,hi=>by
   have h1:=zP h i omA
   have h2:=(h (i+1) hi).asc omA
   simp only[Nat.add_sub_cancel]at h2
   omega
theorem Ew{af:List Col}{l:List Int}(h:gm af l):l.length≤af.length:=by
 rcases Nat.eq_zero_or_pos l.length with h0|h0
 ·omega
 ·have h1:=zP h (l.length-1) omA
  have h2:=(h (l.length-1) omA).hi
  omega
theorem aV.Km{ts:List Tab}(h:aV ts){n:Nat}(hn:n<ts.length){x:Col}(hx:x∈ts[n].af):gm ts[n].af x.own:=by
 obtain⟨i,hi,rfl⟩:=List.getElem_of_mem hx
 have h5:=(vS (h.col hn hi)).2.2.2.2.1
 unfold cE5 at h5
 simp only[Bool.or_eq_false_iff,Bool.not_eq_false']at h5
 exact iH.1 h5.1.1.2
theorem aV.Gn{ts:List Tab}(h:aV ts){n:Nat}(hn:n<ts.length){x:Col}(hx:x∈ts[n].af):x.own.length≤8:=Nat.le_trans (Ew (h.Km hn hx)) (h.af hn).2
theorem aV.ref{ts:List Tab}(h:aV ts){n:Nat}(hn:n<ts.length){x:Col}(hx:x∈ts[n].af)(hr:x.refs≠⟨#[]⟩):∃k:Nat,∃hk:k<ts.length,k<n∧ts[k].name=x.refs∧bJ ts x.refs n=(k:Int):=by
 obtain⟨i,hi,rfl⟩:=List.getElem_of_mem hx
 have h3:=(vS (h.col hn hi)).2.2.1
 unfold cE3 at h3
 rw[mq hr]at h3
 have h0:0≤bJ ts ts[n].af[i].refs n:=by simpa using h3
 obtain⟨k,hk,he,hkn,hs⟩:=iY (l:=ts.map Tab.name) (s:=ts[n].af[i].refs) (n:=min (n:Int) ts.length) h0
 have hk':k<ts.length:=by simpa using hk
 exact⟨k,hk',by omega,by simpa using hs,he⟩
theorem aV.find{ts:List Tab}(h:aV ts){k:Nat}(hk:k<ts.length):gU (ts.map Tab.name) ts[k].name ts.length=(k:Int):=by
 refine yu (m:=k) (by simpa using hk) omA spA fun i hi hik e =>?_
 have hi':i<ts.length:=by simpa using hi
 exact(h.tab k hk).fresh i hik (by simpa using e)
end Go.Proofs.YtebippoohpnjkaaGreat
