/-
  Contracts and plain laws of this seat, part 30.
-/
import Derived.Test.YtebippoohpnjkaaGreatN27
set_option linter.unusedVariables false
set_option linter.unusedSimpArgs false
set_option maxRecDepth 100000
set_option maxHeartbeats 16000000
namespace Go.Proofs.YtebippoohpnjkaaGreat
open Go.RowKit
abbrev UpS(l:List Src):Prop:=l.Pairwise (fun a b=>dK a b∨a=b)
theorem Iq(l:List Src)(x:Src)(k:Nat):(l.take k++(x::l.drop k)).Perm (x::l):=by
 have h:= @List.perm_middle _ x (l.take k) (l.drop k)
 rwa [List.take_append_drop]at h
theorem Gc{l:List Src}{x:Src}{k:Nat}(h:UpS l)(hk:k≤l.length)(hlo:∀j (h:j<l.length),j<k→dK l[j] x)(hhi:∀h:k<l.length,¬ dK l[k] x):UpS (l.take k++(x::l.drop k)):=by
 have hi:∀b∈l.drop k,dK x b∨x=b:=by
  intro b hb
  obtain⟨i,hi,rfl⟩:=List.getElem_of_mem hb
  have hi':k+i<l.length:=by simp at hi;omega
  have hkl:k<l.length:=by omega
  have h0:dK x l[k]∨x=l[k]:=by
   rcases uU l[k] x with c|c|c
   ·exact absurd c (hhi hkl)
   ·exact .inr c.symm
   ·exact .inl c
  rw[List.getElem_drop]
  rcases Nat.eq_zero_or_pos i with rfl|h1
  ·exact h0
  ·rcases List.pairwise_iff_getElem.1 h k (k+i) hkl hi' omA with h2|h2
   ·rcases h0 with h0|h0
    ·exact .inl (jo h0 h2)
    ·rw[h0];exact .inl h2
   ·rw[←h2];exact h0
 refine List.pairwise_append.2 ⟨h.sublist (List.take_sublist _ _),List.pairwise_cons.2 ⟨hi,h.sublist (List.drop_sublist _ _)⟩,fun a ha b hb =>?_⟩
 have hax:dK a x:=by
  obtain⟨j,hj,rfl⟩:=List.getElem_of_mem ha
  rw[List.length_take]at hj
  rw[List.getElem_take]
  exact hlo j omA omA
 rcases List.mem_cons.1 hb with rfl|hb
 ·exact .inl hax
 ·rcases hi b hb with h1|h1
  ·exact .inl (jo hax h1)
  ·rw[←h1];exact .inl hax
theorem yN{rt:List RTab}{s:Src}:∀ {n:Nat},s∈ji rt n→∃i r,i<n∧r∈nJ rt i∧s=nX i r
 | 0,h=>by cases h
 | n + 1,h=>by
   rw[ji]at h
   rcases List.mem_append.1 h with h|h
   ·obtain⟨i,r,h1,h2,h3⟩:=yN h
    exact⟨i,r,by omega,h2,h3⟩
   ·obtain⟨r,h1,h2⟩:=List.mem_map.1 h
    exact⟨n,r,by omega,h1,h2.symm⟩
theorem En{rt:List RTab}{n:Nat}{l p:List Src}(hl:UpS l)(hp:UpS p)(h1:l.Perm (ji rt n))(h2:p.Perm ((nJ rt n).map (nX n))):UpS (l++p)∧(l++p).Perm (ji rt (n+1)):=by
 refine⟨List.pairwise_append.2 ⟨hl,hp,fun a ha b hb =>?_⟩,h1.append h2⟩
 obtain⟨i,r,h3,_,rfl⟩:=yN (h1.mem_iff.1 ha)
 obtain⟨r',_,rfl⟩:=List.mem_map.1 (h2.mem_iff.1 hb)
 refine .inl (.inl ?_)
 show (i:Int)<(n:Int)
 omega
theorem sS{rt:List RTab}(h:∀i (h:i<rt.length),rt[i].recs.length≤64):∀n,(ji rt n).length≤64*n
 | 0=>by simp[ji]
 | n + 1=>by
   have h1:=sS h n
   have h2:(nJ rt n).length≤64:=by
    unfold nJ
    by_cases hn:n<rt.length
    ·rw[List.getElem?_eq_getElem hn];exact h n hn
    ·rw[List.getElem?_eq_none omA];simp
   rw[ji,List.length_append,List.length_map]
   omega
open Go.RowKit Go
theorem yZ(RA:Option Addr)(rc n:Nat)(ts:List Tab)(rt:List RTab)(w:World)(hR:aQ w w.heap.size RA rt)(hn:rt.length=n)(hok:bX ts rt):
 Calls Tryz.prog 103 #[.slice RA n rc] w fun e w' =>
  (∃A' c' L,e=.returned (.slice A' L.length c')∧ah w' w'.heap.size Src.cells 2 A' L∧L.Perm (ji rt rt.length)∧UpS L)∧Below w.heap.size w w':=by
 subst hn
 obtain⟨i0,hi0,hz0,hz1,hz2⟩:=info_parts Bw
 have h8:rt.length≤8:=by rw[hok.len];exact hok.cat.len
 have h64:∀i (h:i<rt.length),rt[i].recs.length≤64:=fun i h=>(hok.tab i h (by have:=hok.len;omega)).len
 have H64:=qh h64
 have HR1:=qh hR.1
 have HR2:=qh hR.2
 have HOK:=qh hok
 clear hR hok h64
 go_enter Tryz.func103,Tryz.ntmps103
 go_wp2_with fail
 go_loopw [3,4] (fun vo vi wr =>∃(i:Nat) (l:List Src),i≤rt.length∧vi=.int .i64 i∧aB wr w.heap.size 170 Src.cells 2 vo l∧l.Perm (ji rt i)∧UpS l∧Below w.heap.size w wr) (fun _ vi _=>rt.length-(intOf vi).toNat)
 case atStart=>exact⟨0,[],Nat.zero_le _,rfl,aB.nil,List.Perm.refl _,List.Pairwise.nil,Below.refl _ _⟩
 case round =>
  obtain⟨i,l,hi,rfl,hown,hp,hu,hbr⟩:=hrel
  have hwz:=hbr.size
  have hrow:=hown.row
  have hll:l.length≤64*i:=by rw[hp.length_eq];exact sS H64.out i
  have HOWN:=qh hown
  have HP:=qh hp
  have HU:=qh hu
  clear hown hp hu
  by_cases hlt:i<rt.length
  ·obtain⟨V,rfl⟩:∃V:World,V=wr:=⟨_,rfl⟩
   have hlts:i<ts.length:=by have:=HOK.out.len;omega
   have htab:=HOK.out.tab i hlt hlts
   have Ag:=(HOK.out.cat.af hlts).1
   have jg:gD w w.heap.size rt[i].A rt[i].recs:=HR2.out rt[i] (lgm hlt)
   obtain⟨b6,o6,rfl,hb6,hc6⟩:=HR1.out.get hlt
   have q0:=hc6 0 _ rfl
   simp only[Nat.mul_one,Nat.add_zero]at q0
   obtain⟨recs,bN⟩:∃l,rt[i].recs=l:=⟨_,rfl⟩
   obtain⟨RI,hRI⟩:∃a,rt[i].A=a:=⟨_,rfl⟩
   have oL:Hid (nJ rt i=recs):=qh (by rw[qF hlt,bN])
   rw[bN]at q0 jg htab
   rw[hRI]at q0 jg
   have HRI:=qh jg.1
   have Lr:=qh jg.2
   have Lh:=qh htab
   have TQ:=htab.len
   have HQ0:=qh q0
   clear hc6 jg bN htab hRI q0
   go_upto_region 4 with (fail)
   go_loopw [5,6] (fun vp vk wi =>∃(k:Nat) (A2:Option Addr) (c2:Nat) (part:List Src),k≤recs.length∧vk=.int .i64 k∧vp=.slice A2 part.length c2∧part.length≤c2∧ah wi wi.heap.size Src.cells 2 A2 part∧part.Perm ((recs.take k).map (nX i))∧UpS part∧Below V.heap.size V wi) (fun _ vk _=>recs.length-(intOf vk).toNat)
   case atStart=>exact⟨0,none,0,[],Nat.zero_le _,rfl,rfl,Nat.le_refl _,ah.nil,List.Perm.refl _,List.Pairwise.nil,Below.refl _ _⟩
   case round =>
    obtain⟨k,A2,c2,part,hk,rfl,rfl,hcap,hsP,hpp,hpu,hbk⟩:=hrel
    have hkz:=hbk.size
    have hxk:=ae hbr hbk hbr.size
    have hpl:part.length≤k:=by rw[hpp.length_eq];simp;omega
    have HSP:=qh hsP
    have HPP:=qh hpp
    have HPU:=qh hpu
    have q0:=(hxk.cell (p:=⟨b6,o6+i,none⟩) hb6).trans HQ0.out
    clear hsP hpp hpu
    by_cases hkl:k<recs.length
    ·obtain⟨b7,o7,rfl,hb7,hc7⟩:=(HRI.out.below hxk).get hkl
     obtain⟨_,g1,_⟩:=Rcd.cells3 hc7
     have hat:=(Lh.out.at_ k hkl).ok
     have hsl:0<recs[k].seq.length:=by rw[hat.yY];exact Ag
     obtain⟨b8,o8,hA8,hb8,hc8⟩:=((Lr.out recs[k] (lgm hkl)).2.below hxk).get hsl
     have s0:=hc8 0 _ rfl
     rw[hA8]at g1
     have hhd:recs[k].seq[0]=cB recs[k]:=jA hsl
     rw[hhd]at s0
     simp only[Nat.zero_mul,Nat.add_zero]at s0
     obtain⟨hd,hhe⟩:∃q,cB recs[k]=q:=⟨_,rfl⟩
     rw[hhe]at s0
     have hsrc:nX i recs[k]=⟨(i:Int),hd⟩:=by unfold nX;rw[hhe]
     have SB:Hid (∀m,(part.take m++((⟨(i:Int),hd⟩:Src)::part.drop m)).Perm ((recs.take (k+1)).map (nX i))):=qh fun m=>by
      refine(Iq part ⟨(i:Int),hd⟩ m).trans ?_
      rw[List.take_succ_eq_append_getElem hkl,List.map_append,List.map_singleton,hsrc]
      exact(HPP.out.cons _).trans (List.perm_append_singleton _ _).symm
     clear hc7 hc8 hat hhd hA8 hhe hsrc
     go_upto_region 9 with (fail)
     go_upto_region 10 with (fail)
     refine au (P:=fun u=>Code.wp _ _ _ _ u) (R:=fun u=>Blk u wr.heap.size 170 #[.int .i64 i,.int .i64 hd]∧Below wr.heap.size wr u) ⟨?_,?_⟩ ?_
     ·first|exact(Blk.new' spA).drew|exact Blk.new' spA
     ·exact av
     rintro U ⟨hB,hbU⟩
     obtain⟨bx,Rx⟩:∃bx:Nat,bx=wr.heap.size:=⟨_,rfl⟩
     rw[←Rx]at hB ⊢
     have hyU:=ae hbk hbU hkz
     have hUlt:=hB.lt
     have HB:=qh hB
     have HS2:=qh (HSP.out.next hbU)
     clear hB g1 s0 q0 Rx
     go_wp2_with fail
     go_loopw [8] (fun vm wj =>∃m:Nat,m≤part.length∧vm=.int .i64 m∧Below U.heap.size U wj∧(∀j (h:j<part.length),j<m→dK part[j] ⟨(i:Int),hd⟩)) (fun vm _=>part.length-(intOf vm).toNat)
     case atStart=>exact⟨0,Nat.zero_le _,rfl,Below.refl _ _,fun j _ h=>by omega⟩
     case round =>
      obtain⟨m,hm,rfl,hbi,hlo⟩:=hrel
      have HLO:=qh hlo
      clear hlo
      have Uz:=hbi.size
      have hix:=ae hyU hbi hyU.size
      have Rm:=hix.size
      have hxi:=ae hbr hix hbr.size
      have e0:=(HB.out.below hbi hUlt).cell 0
      have e1:=(HB.out.below hbi hUlt).cell 1
      simp only[gE3]at e0 e1
      have hkx:=aK (w:=wr) bx omA
      by_cases hml:m<part.length
      ·obtain⟨b9,o9,rfl,hb9,hc9⟩:=(HS2.out.next hbi).get hml
       obtain⟨y0,y1⟩:=Src.Po hc9
       have hk9:=aK (w:=wr) b9 omA
       clear hc9
       cases hls:decide (dK part[m] ⟨(i:Int),hd⟩)
       ·have HLS:=qh hls
        have HUN:=qh (Gc HPU.out hm HLO.out (fun _=>of_decide_eq_false hls))
        have HPN:=qh (SB.out m)
        clear hls
        go_upto_region 12 with (fail)
        refine ag krA krA ?_;(repeat(go_big_quiet_step ((go_at_call 153;with_reducible exact aR (xz part[m] ⟨(i:Int),hd⟩ _ HLS.out)))));refine wpQuiet_nil ?_;intro wq hq
        have hqz:=hq.size
        obtain⟨kx,_,hzz⟩:=bg hq bx omA
        have e0:=(kx _).trans e0
        have e1:=(kx _).trans e1
        clear kx hkx hk9 y0 y1
        have hbel:=ae hix hq Rm
        have hl2:=(HS2.out.next hbi).next hq
        have hmc:m≤c2:=by omega
        have hcm:¬ c2=m:=by omega
        have hcut:ah wq wq.heap.size Src.cells 2 (some ⟨b9,o9+m*2,none⟩) (part.drop m):=by have h:=hl2.cut (c:=c2) m hcap;rwa [if_neg hcm]at h
        go_upto_region 14 with (fail)
        go_region_law (first
        | (refine ak _ rfl (.tmp 50) (.tmp 53) 129 rfl 170 i0 _ Src.cells 2 16 Tryz.underlying129 hi0 hz0 hz1 hz2 rfl omA dw fU wq.heap.size (.slice (some ⟨wq.heap.size,0,none⟩) 0 0) [] rfl (aB.empty ncA leA) _ _ _ (part.take m) rfl smA ((hl2.take m).next av) smA mxA leA ?_;intro v1 w1 hown1 hg1 gz;have hb1:Below wq.heap.size wq w1:=Below.grown av hg1 leA (aV leA);have hsz1:=hb1.size;have kx1:=(bg hb1 bx hzz).1;have h40:Blk w1 (wq.heap.size+1) 170 #[.int .i64 i,.int .i64 hd]:=Blk.grown ndA hg1 (dx omA))
        | (refine ak _ rfl (.tmp 50) (.tmp 53) 129 rfl 170 i0 _ Src.cells 2 16 Tryz.underlying129 hi0 hz0 hz1 hz2 rfl omA dw fU wq.heap.size (.slice (some ⟨(wq.heap.size+1),0,none⟩) 0 0) [] rfl (aB.empty ndA leA) _ _ _ (part.take m) rfl smA ((hl2.take m).next av) smA mxA leA ?_;intro v1 w1 hown1 hg1 gz;have hb1:Below wq.heap.size wq w1:=Below.grown av hg1 leA (aV leA);have hsz1:=hb1.size;have kx1:=(bg hb1 bx hzz).1;have h40:Blk w1 wq.heap.size 170 #[.int .i64 i,.int .i64 hd]:=Blk.grown ncA hg1 (dx omA))
        | (refine ak _ rfl (.tmp 50) (.tmp 53) 129 rfl 170 i0 _ Src.cells 2 16 Tryz.underlying129 hi0 hz0 hz1 hz2 rfl omA dw fU wq.heap.size (.slice (some ⟨wq.heap.size,0,none⟩) 0 0) [] rfl (aB.empty neA leA) _ _ _ (part.take m) rfl smA ((hl2.take m).next av) smA mxA leA ?_;intro v1 w1 hown1 hg1 gz;have hb1:Below wq.heap.size wq w1:=Below.grown av hg1 leA (aV leA);have hsz1:=hb1.size;have kx1:=(bg hb1 bx hzz).1)
        | (refine ak _ rfl (.tmp 54) (.tmp 56) 129 rfl 170 i0 _ Src.cells 2 16 Tryz.underlying129 hi0 hz0 hz1 hz2 rfl omA dw fU wq.heap.size v1 ([]++part.take m) rfl nfA _ _ _ [⟨(i:Int),hd⟩] rfl rfl (by first|exact Blk.one (enc:=Src.cells) (x:=⟨(i:Int),hd⟩) (Blk.new' spA) spA|exact Blk.one (enc:=Src.cells) (x:=⟨(i:Int),hd⟩) h40 h40.lt) smA mxA ngA ?_;intro v2 w2 hown2 hg2 oW;have hb2:Below wq.heap.size wq w2:=Below.grown av hg2 ngA hown1.row;have hsz2:=hb2.size)
        | (refine ak _ rfl (.tmp 57) (.tmp 60) 129 rfl 170 i0 _ Src.cells 2 16 Tryz.underlying129 hi0 hz0 hz1 hz2 rfl omA dw fU wq.heap.size v2 ([]++part.take m ++ [⟨(i:Int),hd⟩]) rfl hown2 _ _ _ (part.drop m) rfl spA (hcut.next hb2) smA mxA hb2.size ?_;intro v3 w3 hown3 hg3 u7;have hb3:Below wq.heap.size wq w3:=Below.grown hb2 hg3 hb2.size hown2.row;obtain⟨A3,c3,rfl,hc3,hs3,_⟩:=hown3.slice dw))
        all_goals go_wp2_with fail
        all_goals go_roundw
        all_goals(try(case rel=>exact⟨k+1,A3,c3,part.take m++((⟨(i:Int),hd⟩:Src)::part.drop m),by omega,by go_num,by simp;omega,by simpa using hc3,by simpa using hs3,HPN.out,HUN.out,ae hbel hb3 hbel.size⟩))
        all_goals(try(simp[intOf];omega))
       ·have HLS:=qh hls
        have HLL:=qh (of_decide_eq_true hls)
        clear hls
        go_upto_region 12 with (fail)
        refine ag krA krA ?_;(repeat(go_big_quiet_step ((go_at_call 153;with_reducible exact aR (xz part[m] ⟨(i:Int),hd⟩ _ HLS.out)))));refine wpQuiet_nil ?_;intro wq hq
        clear hkx hk9 y0 y1 e0 e1
        go_wp2_with fail
        go_roundw
        case rel=>exact⟨m+1,by omega,by go_num,ae hbi hq Uz,fun j h hj=>by
         rcases Nat.lt_or_ge j m with h1|h1
         ·exact HLO.out j h h1
         ·obtain rfl:j=m:=by omega
          exact HLL.out⟩
        case measure=>exact meA
      ·have Ue:decide (m<part.length)=false:=by simpa using hml
       have hme:m=part.length:=by omega
       have HUN:=qh (Gc HPU.out hm HLO.out (fun h=>absurd h hml))
       have HPN:=qh (SB.out m)
       have hdr:part.drop m=[]:=List.drop_eq_nil_of_le omA
       have HDR:=qh hdr
       have HME:=qh hme
       clear hdr hme
       go_upto_region 12 with (fail)
       refine ag krA krA ?_;(repeat(go_big_quiet_step (fail)));refine wpQuiet_nil ?_;intro wq hq
       have hqz:=hq.size
       obtain⟨kx,_,hzz⟩:=bg hq bx omA
       have e0:=(kx _).trans e0
       have e1:=(kx _).trans e1
       clear kx hkx
       have hbel:=ae hix hq Rm
       have hl2:=(HS2.out.next hbi).next hq
       have hmc:m≤c2:=by omega
       have hcut:∀A',ah wq wq.heap.size Src.cells 2 A' (part.drop m):=fun A'=>by rw[HDR.out];exact ah.nil
       clear Ue hml
       go_upto_region 14 with (fail)
       go_region_law (first
       | (refine ak _ rfl (.tmp 50) (.tmp 53) 129 rfl 170 i0 _ Src.cells 2 16 Tryz.underlying129 hi0 hz0 hz1 hz2 rfl omA dw fU wq.heap.size (.slice (some ⟨wq.heap.size,0,none⟩) 0 0) [] rfl (aB.empty ncA leA) _ _ _ (part.take m) rfl smA ((hl2.take m).next av) smA mxA leA ?_;intro v1 w1 hown1 hg1 gz;have hb1:Below wq.heap.size wq w1:=Below.grown av hg1 leA (aV leA);have hsz1:=hb1.size;have kx1:=(bg hb1 bx hzz).1;have h40:Blk w1 (wq.heap.size+1) 170 #[.int .i64 i,.int .i64 hd]:=Blk.grown ndA hg1 (dx omA))
       | (refine ak _ rfl (.tmp 50) (.tmp 53) 129 rfl 170 i0 _ Src.cells 2 16 Tryz.underlying129 hi0 hz0 hz1 hz2 rfl omA dw fU wq.heap.size (.slice (some ⟨(wq.heap.size+1),0,none⟩) 0 0) [] rfl (aB.empty ndA leA) _ _ _ (part.take m) rfl smA ((hl2.take m).next av) smA mxA leA ?_;intro v1 w1 hown1 hg1 gz;have hb1:Below wq.heap.size wq w1:=Below.grown av hg1 leA (aV leA);have hsz1:=hb1.size;have kx1:=(bg hb1 bx hzz).1;have h40:Blk w1 wq.heap.size 170 #[.int .i64 i,.int .i64 hd]:=Blk.grown ncA hg1 (dx omA))
       | (refine ak _ rfl (.tmp 50) (.tmp 53) 129 rfl 170 i0 _ Src.cells 2 16 Tryz.underlying129 hi0 hz0 hz1 hz2 rfl omA dw fU wq.heap.size (.slice (some ⟨wq.heap.size,0,none⟩) 0 0) [] rfl (aB.empty neA leA) _ _ _ (part.take m) rfl smA ((hl2.take m).next av) smA mxA leA ?_;intro v1 w1 hown1 hg1 gz;have hb1:Below wq.heap.size wq w1:=Below.grown av hg1 leA (aV leA);have hsz1:=hb1.size;have kx1:=(bg hb1 bx hzz).1)
       | (refine ak _ rfl (.tmp 54) (.tmp 56) 129 rfl 170 i0 _ Src.cells 2 16 Tryz.underlying129 hi0 hz0 hz1 hz2 rfl omA dw fU wq.heap.size v1 ([]++part.take m) rfl nfA _ _ _ [⟨(i:Int),hd⟩] rfl rfl (by first|exact Blk.one (enc:=Src.cells) (x:=⟨(i:Int),hd⟩) (Blk.new' spA) spA|exact Blk.one (enc:=Src.cells) (x:=⟨(i:Int),hd⟩) h40 h40.lt) smA mxA ngA ?_;intro v2 w2 hown2 hg2 oW;have hb2:Below wq.heap.size wq w2:=Below.grown av hg2 ngA hown1.row;have hsz2:=hb2.size)
       | (refine ak _ rfl (.tmp 57) (.tmp 60) 129 rfl 170 i0 _ Src.cells 2 16 Tryz.underlying129 hi0 hz0 hz1 hz2 rfl omA dw fU wq.heap.size v2 ([]++part.take m ++ [⟨(i:Int),hd⟩]) rfl hown2 _ _ _ (part.drop m) rfl spA ((hcut _).next hb2) smA mxA hb2.size ?_;intro v3 w3 hown3 hg3 u7;have hb3:Below wq.heap.size wq w3:=Below.grown hb2 hg3 hb2.size hown2.row;obtain⟨A3,c3,rfl,hc3,hs3,_⟩:=hown3.slice dw))
       all_goals go_wp2_with fail
       all_goals go_roundw
       all_goals(try(case rel=>exact⟨k+1,A3,c3,part.take m++((⟨(i:Int),hd⟩:Src)::part.drop m),by omega,by go_num,by simp;omega,by simpa using hc3,by simpa using hs3,HPN.out,HUN.out,ae hbel hb3 hbel.size⟩))
       all_goals(try(simp[intOf];omega))
    ·have hkl':decide (k<recs.length)=false:=by simpa using hkl
     obtain rfl:k=recs.length:=by omega
     have HNX:=qh (En HU.out HPU.out HP.out (by rw[oL.out];have h:=HPP.out;rwa [List.take_length]at h))
     have ho:=HOWN.out.below hbk nlr
     have HO:=qh ho
     have VV:=hxk.size
     clear hkl ho
     go_wp2_with (at_builtin;go_must (refine aJ _ rfl (.tmp 62) (.tmp 63) 129 rfl 170 i0 _ Src.cells 2 16 Tryz.underlying129 hi0 hz0 hz1 hz2 rfl omA dw fU w.heap.size u3 l rfl HO.out _ _ _ part rfl rfl HSP.out omA (by unfold maxLen;omega) omA ?_);intro v' w3 hown' hg' hat';have HOWN':=qh hown';clear hown';have hbel:Below w.heap.size w w3:=Below.grown hxk hg' omA hrow)
     go_roundw
     case rel=>exact⟨i+1,l++part,by omega,by go_num,HOWN'.out,HNX.out.2,HNX.out.1,hbel⟩
     case measure=>exact meA
  ·have hlt':decide (i<rt.length)=false:=by simpa using hlt
   obtain rfl:i=rt.length:=by omega
   obtain⟨A',c',rfl,_,hs,_⟩:=HOWN.out.slice dw
   have HSF:=qh hs
   clear hs
   go_wp2_with fail
   go_ret
   exact⟨⟨A',c',l,rfl,HSF.out,HP.out,HU.out⟩,hbr⟩
open Go.RowKit Go
theorem MQ{recs:List Rcd}{k:Nat}(hk:k<recs.length){p:Rcd→Bool}{r:Rcd}(hf:recs.find? p=some r)(hlo:∀j (h:j<recs.length),j<k→p recs[j]=false)(hp:p recs[k]=true):recs[k]=r:=by
 rw[List.find?_eq_some_iff_getElem]at hf
 obtain⟨h1,i,hi,rfl,h2⟩:=hf
 rcases Nat.lt_trichotomy i k with h|h|h
 ·rw[hlo i hi h]at h1;cases h1
 ·subst h;rfl
 ·have:=h2 k h;rw[hp]at this;cases this
theorem AX(RA:Option Addr)(rc n:Nat)(ts:List Tab)(rt:List RTab)(i:Nat)(s:Int)(r:Rcd)(w:World)(hR:aQ w w.heap.size RA rt)(hn:rt.length=n)(hok:bX ts rt)(hi:i<rt.length)(hf:rt[i].recs.find? (fun r=>cB r==s)=some r):
 Calls Tryz.prog 104 #[.slice RA n rc,.agg #[.int .i64 i,.int .i64 s]] w fun e w' =>
  e=.returned (.agg #[.slice r.A r.row.length r.cap,.slice r.SA r.seq.length r.kg,.int .i64 r.day])∧Below w.heap.size w w':=by
 subst hn
 have h8:rt.length≤8:=by rw[hok.len];exact hok.cat.len
 have hits:i<ts.length:=by have:=hok.len;omega
 have htab:=hok.tab i hi hits
 have Ag:=(hok.cat.af hits).1
 have jg:gD w w.heap.size rt[i].A rt[i].recs:=hR.2 rt[i] (lgm hi)
 obtain⟨b6,o6,rfl,hb6,hc6⟩:=hR.1.get hi
 have q0:=hc6 0 _ rfl
 simp only[Nat.mul_one,Nat.add_zero]at q0
 obtain⟨recs,bN⟩:∃l,rt[i].recs=l:=⟨_,rfl⟩
 obtain⟨RI,hRI⟩:∃a,rt[i].A=a:=⟨_,rfl⟩
 rw[bN]at q0 jg htab hf
 rw[hRI]at q0 jg
 have HRI:=qh jg.1
 have Lr:=qh jg.2
 have Lh:=qh htab
 have HF:=qh hf
 have TQ:=htab.len
 have HQ0:=qh q0
 clear hR hok hc6 jg bN htab hRI q0 hf
 go_enter Tryz.func104,Tryz.ntmps104
 go_upto_region 1 with (fail)
 refine au (P:=fun u=>Code.wp _ _ _ _ u) (R:=fun u=>Blk u w.heap.size 170 #[.int .i64 i,.int .i64 s]∧Blk u (w.heap.size+1) 126 #[.slice none 0 0,.slice none 0 0,.int .i64 0]∧Below w.heap.size w u) ⟨?_,?_,?_⟩ ?_
 ·exact(Blk.new _ _ _).alloc _
 ·exact Blk.new' spA
 ·exact av
 rintro W ⟨hB,hC,hbW⟩
 have hzW:=hC.lt
 have HB:=qh hB
 have HC:=qh hC
 clear hB hC
 go_wp2_with fail
 go_loopw [5] (fun vk wr =>∃k:Nat,k≤recs.length∧vk=.int .i64 k∧Below W.heap.size W wr∧(∀j (h:j<recs.length),j<k→(cB recs[j]==s)=false)) (fun vk _=>recs.length-(intOf vk).toNat)
 case atStart=>exact⟨0,Nat.zero_le _,rfl,Below.refl _ _,fun j _ h=>by omega⟩
 case round =>
  obtain⟨k,hk,rfl,hbr,hlo⟩:=hrel
  have HLO:=qh hlo
  have hwz:=hbr.size
  have hxr:=ae hbW hbr hbW.size
  have q0:=(hxr.cell (p:=⟨b6,o6+i,none⟩) hb6).trans HQ0.out
  have e0:=(HB.out.below hbr omA).cell 0
  have e1:=(HB.out.below hbr omA).cell 1
  simp only[gE3]at e0 e1
  clear hlo
  by_cases hkl:k<recs.length
  ·obtain⟨b7,o7,rfl,hb7,hc7⟩:=(HRI.out.below hxr).get hkl
   obtain⟨g0,g1,g2⟩:=Rcd.cells3 hc7
   have hat:=(Lh.out.at_ k hkl).ok
   have hsl:0<recs[k].seq.length:=by rw[hat.yY];exact Ag
   obtain⟨b8,o8,hA8,hb8,hc8⟩:=((Lr.out recs[k] (lgm hkl)).2.below hxr).get hsl
   have s0:=hc8 0 _ rfl
   have hhd:recs[k].seq[0]=cB recs[k]:=jA hsl
   rw[hhd]at s0
   simp only[Nat.zero_mul,Nat.add_zero]at s0
   obtain⟨hd,hhe⟩:∃q,cB recs[k]=q:=⟨_,rfl⟩
   rw[hhe]at s0
   have HHE:=qh hhe
   have hk0:=aK (w:=wr) w.heap.size omA
   have hk1:=aK (w:=wr) b6 omA
   have hk2:=aK (w:=wr) b7 omA
   have hk3:=aK (w:=wr) b8 omA
   clear hc7 hc8 hat hhd hhe
   cases heq:(hd==s)
   ·rw[hA8]at g1
    have HNE:Hid ((cB recs[k]==s)=false):=qh (by rw[HHE.out];exact heq)
    go_upto_region 4 with (fail)
    refine ag krA krA ?_;(repeat(go_big_quiet_step (fail)));refine wpQuiet_nil ?_;intro wq hq
    clear hk0 hk1 hk2 hk3 g0 g1 g2 s0 q0 e0 e1
    go_wp2_with fail
    go_roundw
    case rel=>exact⟨k+1,by omega,by go_num,ae hbr hq hwz,fun j h hj=>by
     rcases Nat.lt_or_ge j k with h1|h1
     ·exact HLO.out j h h1
     ·obtain rfl:j=k:=by omega
      exact HNE.out⟩
    case measure=>exact meA
   ·have HR:Hid (recs[k]=r):=qh (MQ hkl HF.out HLO.out (by rw[HHE.out];exact heq))
    rw[HR.out]at g0 g1 g2 hsl
    have hA9:=hA8
    rw[HR.out]at hA9
    obtain⟨SA,hSA⟩:∃x,r.SA=x:=⟨_,rfl⟩
    rw[hSA]at hA9
    subst hA9
    rw[hSA]at g1
    have HSA:=qh hSA
    clear hA8 hSA
    go_upto_region 4 with (fail)
    refine ag krA krA ?_;(repeat(go_big_quiet_step (fail)));refine wpQuiet_nil ?_;intro wq hq
    have hxq:=ae hxr hq hxr.size
    replace q0:=(hq.cell (p:=⟨b6,o6+i,none⟩) (show b6<wr.heap.size by omega)).trans q0
    replace e0:=(hq.cell (p:=⟨w.heap.size,0,none⟩) (show w.heap.size<wr.heap.size by omega)).trans e0
    replace g0:=(hq.cell (p:=⟨b7,_,none⟩) (show b7<wr.heap.size by omega)).trans g0
    replace g1:=(hq.cell (p:=⟨b7,_,none⟩) (show b7<wr.heap.size by omega)).trans g1
    replace g2:=(hq.cell (p:=⟨b7,_,none⟩) (show b7<wr.heap.size by omega)).trans g2
    have hcell:=(HC.out.below hbr hzW).below hq omA
    have c0:=hcell.cell 0
    have c1:=hcell.cell 1
    have c2:=hcell.cell 2
    have f0:=hcell.frozen 0
    have f1:=hcell.frozen 1
    have f2:=hcell.frozen 2
    simp only[gE3]at c0 c1 c2
    clear hk0 hk1 hk2 hk3 s0 e1 hcell
    go_wp2_with fail
    refine bodyPost_ret (v:= .agg #[.slice r.A r.row.length r.cap,.slice r.SA r.seq.length r.kg,.int .i64 r.day]) (by simp[results,Tryz.results104,go_sem,c0,c1,c2,HSA.out]) rfl ⟨rfl,?_⟩
    exact((hxq.setCell spA _).setCell spA _).setCell spA _
  ·exfalso
   have h:=HF.out
   rw[List.find?_eq_some_iff_getElem]at h
   obtain⟨h1,j,hj,rfl,_⟩:=h
   rw[HLO.out j hj omA]at h1
   cases h1
end Go.Proofs.YtebippoohpnjkaaGreat
