/-
  Contracts and plain laws of this seat, part 2: Keep, Row, Dedup, Compact, Sort, Clone, Index, Link, New, At, Subject, Linked, Awake, Many, Tape, Ident, Links, Equiv, Looks, Spoil.
-/
import Derived.Test.YtlpgmdhnjckplaaGreatV1
import Derived.Laws.IdiomCopy
import Derived.Laws.OwnMore
import Derived.Lib.SliceRun
import Derived.Shelf.SlSortCmp.NoneTotal
import Derived.Sort.OwnSortedInts
import Derived.Test.YtlpgmdhnjckplaaGreatSortLay
import Derived.ChangeKeysEq
import Derived.BigRegion
import Derived.Deep.RegionHeld3
set_option linter.unusedVariables false
set_option linter.unusedSimpArgs false
set_option maxRecDepth 100000
set_option maxHeartbeats 16000000
namespace Go.Proofs.YtlpgmdhnjckplaaGreat
open Go.RowKit
def keepTo (l:List Ident) (bs:List Bool) (m:Nat):List Ident:=((l.zip bs).take m).filterMap (fun p=>if p.2 then some p.1 else none)
theorem keepTo_succ (l:List Ident) (bs:List Bool) (m:Nat) (h:m<l.length) {b:Bool} (hb:bs[m]? = some b):keepTo l bs (m + 1)=if b then keepTo l bs m ++ [l[m]] else keepTo l bs m:=by
 have hbl:m<bs.length:=(List.getElem?_eq_some_iff.1 hb).1
 have hbe:bs[m]=b:=(List.getElem?_eq_some_iff.1 hb).2
 have hz:m<(l.zip bs).length:=by simp;omega
 unfold keepTo
 rw [List.take_succ_eq_append_getElem hz,List.filterMap_append,List.getElem_zip,hbe]
 cases b <;> simp
theorem keepTo_len (l:List Ident) (bs:List Bool) (m:Nat):(keepTo l bs m).length≤l.length:=by
 unfold keepTo
 refine Nat.le_trans (List.length_filterMap_le _ _) ?_
 simp
 omega
theorem keepTo_sub : ∀ (l:List Ident) (bs:List Bool) (m:Nat),(keepTo l bs m).Sublist l
 | [],_,m=>by simp [keepTo]
 | x::l,[],m=>by simp [keepTo]
 | x::l,b::bs,0=>by simp [keepTo]
 | x::l,b::bs,m + 1=>by
   have ih:=keepTo_sub l bs m
   unfold keepTo at *
   cases b
   ·simpa using ih.cons x
   ·simpa using ih.cons_cons x
theorem keepTo_mem : ∀ (l:List Ident) (bs:List Bool) (y:Ident),l.length=bs.length→(y∈keepTo l bs l.length ↔ ∃ i:Nat,l[i]? = some y∧bs[i]? = some true)
 | [],bs,y,_=>by simp [keepTo]
 | x::l,[],y,h=>by simp at h
 | x::l,b::bs,y,h=>by
   have ih:=keepTo_mem l bs y (by simpa using h)
   have e:y∈keepTo (x::l) (b::bs) (x::l).length↔(b=true∧y=x)∨y∈keepTo l bs l.length:=by
    unfold keepTo
    cases b <;> simp
   rw [e,ih]
   constructor
   ·rintro (⟨h1,h2⟩|⟨i,h1,h2⟩)
    ·exact ⟨0,by simp [h2],by simp [h1]⟩
    ·exact ⟨i + 1,by simpa using h1,by simpa using h2⟩
   ·rintro ⟨i,h1,h2⟩
    cases i with
    | zero=>simp at h1 h2;exact .inl ⟨h2,h1.symm⟩
    | succ i=>exact .inr ⟨i,by simpa using h1,by simpa using h2⟩
theorem graph_listF (A:Option Addr) (c:Nat) (l:List Ident) (EA:Option Addr) (en ec gb cb:Nat) (bs:List Bool) (w:World)
 (hl:SliceIs w w.heap.size Ident.cells 4 A l) (hn:l.length ≤ 1000000) (hb:BoolBlk w gb bs) (hbl:bs.length=l.length) :
 Calls Tryz.prog 217 #[.agg #[.slice A l.length c, .slice EA en ec], .slice (some ⟨gb,0,none⟩) l.length cb] w fun e w' =>
  (∃ A' c',e = .returned (.slice A' (keepTo l bs l.length).length c')∧(keepTo l bs l.length).length≤c'∧SliceIs w' w'.heap.size Ident.cells 4 A' (keepTo l bs l.length)∧(∀ a,A'=some a→w.heap.size≤a.block))∧Below w.heap.size w w':=by
 obtain ⟨i0,hi0,hz0,hz1,hz2⟩:=info_parts infoIdent
 have HB:=qh hb
 have hgl:=Blk.lt hb
 clear hb
 go_enter Tryz.func217,Tryz.ntmps217
 go_wp2
 go_loopw [5,11] (fun vo vi wr => ∃ m:Nat,m≤l.length∧vi = .int .i64 m∧Owns wr w.heap.size 105 Ident.cells 4 vo (keepTo l bs m)∧Below w.heap.size w wr) (fun _ vi _=>l.length - (intOf vi).toNat)
 case atStart=>exact ⟨0,Nat.zero_le _,rfl,Owns.nil,by exact belA⟩
 case round =>
  obtain ⟨m,hm,rfl,hown,hbw⟩:=hrel
  have HOWN:=qh hown
  have hrow:=hown.row
  have hwz:=hbw.size
  clear hown
  by_cases hlt:m<l.length
  ·obtain ⟨b,o,rfl,hb,hc⟩:=(hl.below hbw).get hlt
   obtain ⟨h0,h1,h2,h3⟩:=Ident.cells4 hc
   clear hc
   obtain ⟨p,hp⟩ : ∃ p,bs[m]? = some p:=⟨_,List.getElem?_eq_getElem (by rw [hbl];exact hlt)⟩
   have hcb:wr.cell? ⟨gb,m,none⟩=some (.bool p):=(hbw.cell (p:=⟨gb,m,none⟩) hgl).trans (HB.out.cell hp)
   have hstep:=keepTo_succ l bs m hlt hp
   have HST:=qh hstep
   have HP:=qh hp
   have hkl:=keepTo_len l bs m
   clear hstep hp
   have hcb' : ∀ o,(wr.alloc o).cell? ⟨gb,m,none⟩=some (.bool p):=fun o=>by rw [World.cell?_alloc_lt];exact hcb;have:=hbw.size;simp;omega
   cases p
   ·go_wp2
    go_roundw
    case rel=>exact ⟨m + 1,by omega,by go_num,by rw [HST.out];exact HOWN.out.alloc _,hbw.alloc hbw.size _⟩
    case measure=>simp [intOf];omega
   ·go_wp2_with ((at_builtin;refine wpList_append_list _ rfl (.tmp 20) (.tmp 22) 53 rfl 105 i0 _ Ident.cells 4 48 Tryz.underlying53 hi0 hz0 hz1 hz2 rfl omA ident_len ident_one w.heap.size u5 (keepTo l bs m) rfl ((HOWN.out.alloc _).alloc _) _ _ _ [l[m]] rfl rfl (Blk.one (enc:=Ident.cells) (x:=l[m]) (Blk.new' spA) spA) smA mxA (by have:=hbw.size;simp;omega) ?_;intro v' w1 hown' hg' hat';have HOWN':=qh hown';clear hown';have hbel:Below w.heap.size w w1:=Below.grown belA hg' (by have:=hbw.size;simp;omega) hrow))
    go_roundw
    case rel=>exact ⟨m + 1,by omega,by go_num,by rw [HST.out];exact HOWN'.out,hbel⟩
    case measure=>simp [intOf];omega
  ·obtain rfl:m=l.length:=by omega
   obtain ⟨A',c',rfl,hc',hs',hA'⟩:=HOWN.out.slice ident_len
   go_wp2
   go_ret
   exact ⟨⟨A',c',rfl,hc',hs',fun a h=>(hA' a h).1⟩,hbw⟩
section
variable {α : Type} {w w':World} {base:Nat} {e:TypeId} {enc : α → List Value} {k g cap:Nat} {l:List α}
theorem Owns.getc (hk : ∀ x,(enc x).length=k) (h:Owns w base e enc k (.slice (some ⟨g,0,none⟩) l.length cap) l) {i:Nat} (hi:i<l.length) {j:Nat} {u:Value} (hu:(enc l[i])[j]? = some u):w.cell? ⟨g,i*k+j,none⟩=some u:=by
 have hj:j<k:=by rw [← hk l[i]];exact (List.getElem?_eq_some_iff.1 hu).1
 have hlt:i*k+j<l.length*k:=by
  have:(i + 1)*k≤l.length*k:=Nat.mul_le_mul_right k hi
  rw [Nat.add_mul,Nat.one_mul] at this
  omega
 rw [World.ownsRow.cellAt h _ hlt]
 exact flat_get hk l i hi j u hu
theorem Owns.frz (h:Owns w base e enc k (.slice (some ⟨g,0,none⟩) l.length cap) l) (j:Nat):w.frozen? ⟨g,j,none⟩=false:=World.ownsRow.frozenAt h j
theorem Owns.blk_lt (h:Owns w base e enc k (.slice (some ⟨g,0,none⟩) l.length cap) l):base≤g∧g<w.heap.size:=by
 obtain ⟨A,c,hv,_,hA⟩:=h.form
 injection hv with h1
 exact hA _ h1.symm
theorem Owns.cap_le (h:Owns w base e enc k (.slice (some ⟨g,0,none⟩) l.length cap) l):l.length≤cap:=by
 rcases h.2 with ⟨h',_⟩|⟨g',cap',cur,h',_,_,hn,_⟩
 ·simp at h'
 ·injection h' with _ _ h3
  omega
theorem Owns.beyond (h:Owns w base e enc k (.slice (some ⟨g,0,none⟩) l.length cap) l) {o:Nat} (ho:l.length*k≤o) (u:Value):Owns (w.setCell ⟨g,o,none⟩ u) base e enc k (.slice (some ⟨g,0,none⟩) l.length cap) l∧w.grownBy (w.setCell ⟨g,o,none⟩ u) (some g):=by
 obtain ⟨h1,h2⟩:=World.ownsRow.stored h o u
 refine ⟨?_,h2⟩
 have e:(l.flatMap enc).set o u=l.flatMap enc:=List.set_eq_of_length_le (by rw [h.1];exact ho)
 unfold Owns
 rw [← e]
 exact h1
theorem Owns.beyonds : ∀ (vs:List Value) {w:World} {o:Nat},Owns w base e enc k (.slice (some ⟨g,0,none⟩) l.length cap) l→l.length*k≤o→Owns (w.setCells g o vs) base e enc k (.slice (some ⟨g,0,none⟩) l.length cap) l∧w.grownBy (w.setCells g o vs) (some g)
 | [],w,o,h,_=>⟨h,World.grownBy.refl _ _⟩
 | v::vs,w,o,h,ho=>by
   obtain ⟨h1,h2⟩:=h.beyond ho v
   obtain ⟨h3,h4⟩:=Owns.beyonds vs h1 (by omega:l.length*k≤o + 1)
   exact ⟨h3,grown_trans h2 h4⟩
theorem Owns.cut (hk : ∀ x,(enc x).length=k) (h:Owns w base e enc k (.slice (some ⟨g,0,none⟩) l.length cap) l) {m:Nat} (hm:m≤l.length):Owns w base e enc k (.slice (some ⟨g,0,none⟩) m cap) (l.take m):=by
 have hlen:(l.take m).length=m:=by simp;omega
 rcases h.2 with ⟨h',_⟩|⟨g',cap',cur,h',hb,hg,hn,hcm,hcs,ht⟩
 ·simp at h'
 ·injection h' with h1 _ h3
  injection h1 with h1
  injection h1 with h1
  subst h1 h3
  refine ⟨by rw [flat_length hk], .inr ⟨g,cap,cur,by rw [hlen],hb,hg,by omega,hcm,hcs,?_⟩⟩
  have e1:(l.take m).flatMap enc=(l.flatMap enc).take (m*k):=by
   have e2:l.flatMap enc=(l.take m).flatMap enc++(l.drop m).flatMap enc:=by rw [← List.flatMap_append,List.take_append_drop]
   rw [e2,List.take_left' (by rw [flat_length hk,hlen])]
  rw [e1,← ht,List.take_take,hlen]
  congr 1
  have:m*k≤l.length*k:=Nat.mul_le_mul_right k hm
  omega
end
theorem flat_set4 {α : Type} {enc : α → List Value} (hk : ∀ x,(enc x).length = 4) : ∀ (l:List α) (i:Nat) (x : α) (a0 a1 a2 a3:Value),i<l.length→enc x = [a0,a1,a2,a3] →
 ((((l.flatMap enc).set (i * 4) a0).set (i * 4 + 1) a1).set (i * 4 + 2) a2).set (i * 4 + 3) a3=(l.set i x).flatMap enc
 | y::l,0,x,a0,a1,a2,a3,_,hx=>by
   obtain ⟨b0,b1,b2,b3,hy⟩ : ∃ b0 b1 b2 b3,enc y = [b0,b1,b2,b3]:=by
    have:=hk y
    match h:enc y,this with
    | [b0,b1,b2,b3],_=>exact ⟨b0,b1,b2,b3,rfl⟩
   rw [List.set_cons_zero,List.flatMap_cons,List.flatMap_cons,hy,hx]
   simp
 | y::l,i + 1,x,a0,a1,a2,a3,hi,hx=>by
   have ih:=flat_set4 hk l i x a0 a1 a2 a3 (by simpa using hi) hx
   rw [List.set_cons_succ,List.flatMap_cons,List.flatMap_cons,← ih]
   have e0:(i + 1) * 4=(enc y).length+i * 4:=by rw [hk];omega
   rw [e0,Nat.add_assoc _ _ 1,Nat.add_assoc _ _ 2,Nat.add_assoc _ _ 3]
   rw [List.set_append_right _ _ omA,Nat.add_sub_cancel_left,List.set_append_right _ _ omA,Nat.add_sub_cancel_left,List.set_append_right _ _ omA,Nat.add_sub_cancel_left,List.set_append_right _ _ omA,Nat.add_sub_cancel_left]
theorem Owns.store4 {α : Type} {w:World} {base:Nat} {e:TypeId} {enc : α → List Value} {g cap:Nat} {l:List α} (hk : ∀ x,(enc x).length = 4) (h:Owns w base e enc 4 (.slice (some ⟨g,0,none⟩) l.length cap) l) {i:Nat} (hi:i<l.length) {x : α} {a0 a1 a2 a3:Value} (hx:enc x = [a0,a1,a2,a3]) :
 Owns ((((w.setCell ⟨g,i * 4,none⟩ a0).setCell ⟨g,i * 4 + 1,none⟩ a1).setCell ⟨g,i * 4 + 2,none⟩ a2).setCell ⟨g,i * 4 + 3,none⟩ a3) base e enc 4 (.slice (some ⟨g,0,none⟩) l.length cap) (l.set i x) ∧
 w.grownBy ((((w.setCell ⟨g,i * 4,none⟩ a0).setCell ⟨g,i * 4 + 1,none⟩ a1).setCell ⟨g,i * 4 + 2,none⟩ a2).setCell ⟨g,i * 4 + 3,none⟩ a3) (some g):=by
 obtain ⟨h0,g0⟩:=World.ownsRow.stored h (i * 4) a0
 obtain ⟨h1,g1⟩:=World.ownsRow.stored h0 (i * 4 + 1) a1
 obtain ⟨h2,g2⟩:=World.ownsRow.stored h1 (i * 4 + 2) a2
 obtain ⟨h3,g3⟩:=World.ownsRow.stored h2 (i * 4 + 3) a3
 refine ⟨?_,grown_trans (grown_trans (grown_trans g0 g1) g2) g3⟩
 rw [flat_set4 hk l i x a0 a1 a2 a3 hi hx] at h3
 unfold Owns
 rw [List.length_set]
 exact h3
theorem run_clear_cells {P:Program} {n:Nat} (w:World) (t e ty:TypeId) (z:Value) (ht:P.underlying t=some (.slice e)) (hv : ∀ w,(zeroValue e).run P w = .ok z w) (hz1 : ∀ u∈(Builtin.zeroCells z.cells n).toList,u.oneCell'=true) (b o c:Nat) (hn : 0<n)
 (hc : ∀ j,j<(Builtin.zeroCells z.cells n).toList.length→(w.cell? ⟨b,o+j,none⟩).isSome=true) (hf : ∀ j,j<(Builtin.zeroCells z.cells n).toList.length→w.frozen? ⟨b,o+j,none⟩=false) :
 (Builtin.clear_ #[t] ty #[.slice (some ⟨b,o,none⟩) n c]).run P w = .ok (.tuple #[]) (w.setCells b o (Builtin.zeroCells z.cells n).toList):=by
 have hst:=run_storeCells_cells (P:=P) b o (Builtin.zeroCells z.cells n).toList 0 w (by simpa using hc) (by simpa using hf) hz1
 simp only [Nat.add_zero] at hst
 obtain ⟨m,rfl⟩ : ∃ m,n=m + 1:=⟨n - 1,by omega⟩
 simp [Builtin.clear_,run_underlying ht,hv,hst]
def ddTo (l:List Ident):Nat→List Ident
 | 0 => []
 | m + 1=>match l[m]? with
   | none=>ddTo l m
   | some x=>if m = 0 then [x] else match l[m - 1]? with
     | none=>ddTo l m
     | some y=>if cmpId x y = 0 then ddTo l m else ddTo l m ++ [x]
theorem ddTo_one {l:List Ident} (h : 0<l.length):ddTo l 1 = [l[0]]:=by
 simp [ddTo,List.getElem?_eq_getElem h]
theorem ddTo_same {l:List Ident} {m:Nat} (h:m<l.length) (h0 : 0<m) (hc:cmpId l[m] l[m - 1] = 0):ddTo l (m + 1)=ddTo l m:=by
 have h1:m - 1<l.length:=by omega
 rw [ddTo,List.getElem?_eq_getElem h]
 simp only [List.getElem?_eq_getElem h1]
 rw [if_neg omA,if_pos hc]
theorem ddTo_more {l:List Ident} {m:Nat} (h:m<l.length) (h0 : 0<m) (hc : ¬ cmpId l[m] l[m - 1] = 0):ddTo l (m + 1)=ddTo l m ++ [l[m]]:=by
 have h1:m - 1<l.length:=by omega
 rw [ddTo,List.getElem?_eq_getElem h]
 simp only [List.getElem?_eq_getElem h1]
 rw [if_neg omA,if_neg hc]
theorem ddTo_take {l:List Ident} : ∀ {m:Nat},m≤l.length→(∀ k (h:k<l.length),0<k→k<m → ¬ cmpId l[k] l[k - 1] = 0)→ddTo l m=l.take m
 | 0,_,_=>by simp [ddTo]
 | m + 1,hm,h=>by
   have ih:=ddTo_take (m:=m) omA (fun k hk h0 hl=>h k hk h0 omA)
   rw [List.take_succ_eq_append_getElem (by omega:m<l.length)]
   rcases Nat.eq_zero_or_pos m with rfl|h0
   ·rw [ddTo_one hm];simp
   ·rw [ddTo_more omA h0 (h m omA h0 omA),ih]
theorem ddTo_len {l:List Ident} : ∀ m,(ddTo l m).length≤m
 | 0=>by simp [ddTo]
 | m + 1=>by
   have ih:=ddTo_len (l:=l) m
   unfold ddTo
   split
   ·omega
   ·split
    ·simp
    ·split
     ·omega
     ·split
      ·omega
      ·simp;omega
def dedup (l:List Ident):List Ident:=ddTo l l.length
def Weak (l:List Ident):Prop:=l.Pairwise (fun a b=>cmpId a b ≤ 0)
theorem ddTo_spec {l:List Ident} (hs:Weak l) (hv:AllValid l) : ∀ {m:Nat},m≤l.length →
 Asc (ddTo l m)∧(∀ x,x∈ddTo l m↔x∈l.take m)∧(∀ h:m - 1<l.length,0<m → ∃ i,ddTo l m=i ++ [l[m - 1]])
 | 0,_=>⟨by simp [ddTo,Asc],by simp [ddTo],fun _ h=>absurd h omA⟩
 | m + 1,hm=>by
   obtain ⟨ih1,ih2,ih3⟩:=ddTo_spec hs hv (m:=m) omA
   have hml:m<l.length:=by omega
   rw [List.take_succ_eq_append_getElem hml]
   rcases Nat.eq_zero_or_pos m with rfl|h0
   ·rw [ddTo_one hml]
    exact ⟨by simp [Asc],by simp,fun h _=>⟨[],rfl⟩⟩
   ·have h1:m - 1<l.length:=by omega
    obtain ⟨i,hi⟩:=ih3 h1 h0
    by_cases hc:cmpId l[m] l[m - 1] = 0
    ·have heq:l[m]=l[m - 1]:=cmpId_eq (hv _ (List.getElem_mem hml)) (hv _ (List.getElem_mem h1)) hc
     rw [ddTo_same hml h0 hc]
     refine ⟨ih1,fun x => ?_,fun _ _=>⟨i,by simpa [heq] using hi⟩⟩
     rw [ih2,List.mem_append,List.mem_singleton]
     refine ⟨.inl,fun h=>h.elim id fun h => ?_⟩
     rw [h,heq]
     have:l[m - 1]∈ddTo l m:=by rw [hi];simp
     exact (ih2 _).1 this
    ·rw [ddTo_more hml h0 hc]
     refine ⟨?_,fun x=>by rw [List.mem_append,List.mem_append,ih2],fun _ _=>⟨ddTo l m,rfl⟩⟩
     have hle:cmpId l[m - 1] l[m] ≤ 0:=List.pairwise_iff_getElem.1 hs (m - 1) m h1 hml omA
     have hlt:cmpId l[m - 1] l[m] < 0:=by
      have:=cmpId_ok.anti l[m - 1] l[m]
      omega
     refine List.pairwise_append.2 ⟨ih1,by simp,fun a ha b hb => ?_⟩
     rw [List.mem_singleton] at hb
     subst hb
     rw [hi] at ha ih1
     rcases List.mem_append.1 ha with h|h
     ·have h2:cmpId a l[m - 1] < 0:=(List.pairwise_append.1 ih1).2.2 a h _ spA
      exact cmpId_ok.lt_le h2 omA
     ·rw [List.mem_singleton] at h
      rw [h];exact hlt
theorem dedup_short {l:List Ident} (h:l.length < 2):dedup l=l:=by
 match l,h with
 | [],_=>rfl
 | [x],_=>exact ddTo_one spA
theorem dedup_asc {l:List Ident} (hs:Weak l) (hv:AllValid l):Asc (dedup l):=(ddTo_spec hs hv (Nat.le_refl _)).1
theorem dedup_mem {l:List Ident} (hs:Weak l) (hv:AllValid l) (x:Ident):x∈dedup l↔x∈l:=by
 have:=(ddTo_spec hs hv (Nat.le_refl _)).2.1 x
 rwa [List.take_length] at this
theorem newGraph_eq (x y:Ident) (w:World) :
 Calls Tryz.prog 257 #[.agg #[.string x.ns, .int .i64 x.val.kind, .int .i64 x.val.num, .string x.val.text], .agg #[.string y.ns, .int .i64 y.val.kind, .int .i64 y.val.num, .string y.val.text]] w fun e w' =>
  e = .returned (.bool (decide (cmpId x y = 0)))∧Ext w w':=by
 go_enter Tryz.func257,Tryz.ntmps257
 go_wp2_with ((go_at_call 150;(with_reducible refine (identity_CompareId x y _).mono ?_);rintro e w1 ⟨rfl,hb1⟩))
 go_ret
 exact ⟨rfl,by exact extA⟩
theorem newGraph_eqB (x y:Ident) {b:Bool} (h:decide (cmpId x y = 0)=b) (w:World) :
 Calls Tryz.prog 257 #[.agg #[.string x.ns, .int .i64 x.val.kind, .int .i64 x.val.num, .string x.val.text], .agg #[.string y.ns, .int .i64 y.val.kind, .int .i64 y.val.num, .string y.val.text]] w fun e w' =>
  e = .returned (.bool b)∧Ext w w':=by
 subst h
 exact newGraph_eq x y w
theorem mem_zeroCells {z:Array Value} {n:Nat} {u:Value} (hz : 0<z.size) (h:u∈(Builtin.zeroCells z n).toList):u∈z.toList:=by
 unfold Builtin.zeroCells at h
 rw [Array.toList_map,List.mem_map] at h
 obtain ⟨i,_,rfl⟩:=h
 have hi:i % z.size<z.size:=Nat.mod_lt _ hz
 rw [getElem!_pos z _ hi]
 exact Array.getElem_mem_toList hi
theorem clear_ids (g k n c:Nat) (cur:List Ident) (base cap:Nat) (w:World) (h:Owns w base 105 Ident.cells 4 (.slice (some ⟨g,0,none⟩) cur.length cap) cur) (hn:k+n=cur.length) (h0 : 0<n) :
 ∃ vs,(Builtin.clear_ #[53] 0 #[.slice (some ⟨g,k * 4,none⟩) n c]).run Tryz.prog w = .ok (.tuple #[]) (w.setCells g (k * 4) vs):=by
 obtain ⟨i0,hi0,hz0,hz1,hz2⟩:=info_parts infoIdent
 refine ⟨_,run_clear_cells w 53 105 0 (.agg #[.string ⟨#[]⟩, .int .i64 0, .int .i64 0, .string ⟨#[]⟩]) Tryz.underlying53 (fun w=>by simp [zeroValue,Tryz.t105]) (fun u hu => ?_) g (k * 4) c h0 (fun j hj => ?_) (fun j hj=>h.frz _)⟩
 ·have hu:=mem_zeroCells (by simp [Value.cells]) hu
  simp [Value.cells] at hu
  rcases hu with rfl|rfl|rfl|rfl <;> rfl
 ·rw [Array.length_toList,size_zeroCells] at hj
  have hj:j<n * 4:=by simpa [Value.cells] using hj
  have hlt:k * 4+j<cur.length * 4:=by omega
  rw [World.ownsRow.cellAt h _ hlt]
  have hfl:=flat_length ident_len cur
  rw [List.getElem?_eq_getElem omA]
  rfl
theorem compact_any (base g c:Nat) (l:List Ident) (w:World) (h:Owns w base 105 Ident.cells 4 (.slice (some ⟨g,0,none⟩) l.length c) l) (hn:l.length ≤ 1000000) :
 Calls Tryz.prog 256 #[.slice (some ⟨g,0,none⟩) l.length c, .func (.func 257) #[] #[]] w fun e w' =>
  (∃ v,e = .returned v∧Owns w' base 105 Ident.cells 4 v (dedup l))∧w.grownBy w' (some g):=by
 have HO:=qh h
 have hgb:=h.blk_lt
 have hcl:=h.cap_le
 clear h
 go_enter Tryz.func256,Tryz.ntmps256
 by_cases h2:l.length < 2
 ·go_wp2
  go_ret
  refine ⟨⟨_,rfl,?_⟩,World.grownBy.refl _ _⟩
  rw [dedup_short h2]
  exact HO.out
 ·have hd2:decide ((l.length:Int) < 2)=false:=by simp;omega
  go_wp2
  go_loopw [5] (fun vk wr => ∃ k:Nat,1≤k∧k≤l.length∧vk = .int .i64 k∧(∀ j (h:j<l.length),0<j→j<k → ¬ cmpId l[j] l[j - 1] = 0)∧Below w.heap.size w wr) (fun vk _=>l.length - (intOf vk).toNat)
  case atStart=>exact ⟨1,Nat.le_refl _,by omega,rfl,fun j _ h0 h1=>by omega,by exact belA⟩
  case round =>
   obtain ⟨k,hk1,hk,rfl,hno,hbw⟩:=hrel
   have HNO:=qh hno
   clear hno
   have hO:=HO.out.below hbw (Nat.le_refl _)
   have HOW:=qh hO
   by_cases hlt:k<l.length
   ·obtain ⟨q,rfl⟩ : ∃ q,k=q + 1:=⟨k - 1,by omega⟩
    obtain ⟨h0,h1,h2',h3⟩:=Ident.cells4 (fun j u hu=>hO.getc ident_len hlt hu)
    obtain ⟨g0,g1,g2,g3⟩:=Ident.cells4 (fun j u hu=>hO.getc ident_len (show q<l.length by omega) hu)
    have hk0:=keepQ (w:=wr) g (by have:=hbw.size;omega)
    clear hO
    go_wp2
    refine wp_region_bel krA krA ?_;(repeat (go_big_quiet_step ((go_at_call 257;with_reducible exact bel_of_ext (newGraph_eq l[q + 1] l[q] _)))));refine wpQuiet_nil ?_;intro wq hq
    have hq':=below_nextN hbw hq hbw.size
    by_cases hcmp:cmpId l[q + 1] l[q] = 0
    ·go_wp2
     have hdd:ddTo l (q + 1 + 1)=l.take (q + 1):=by
      rw [ddTo_same hlt omA (by simpa using hcmp)]
      exact ddTo_take omA HNO.out
     have HDD:=qh hdd
     have hOq:=HOW.out.below hq (Nat.le_refl _)
     have HOQ:=qh hOq
     clear hdd h0 h1 h2' h3 g0 g1 g2 g3 hk0 HOW hOq
     go_loopw [5,7] (fun vk vm wi => ∃ (k p:Nat) (cur:List Ident),vk = .int .i64 k∧vm = .int .i64 (p + 1:Nat)∧q + 1+(p + 1)≤l.length∧k≤q + 1+p∧cur.length=l.length∧Owns wi base 105 Ident.cells 4 (.slice (some ⟨g,0,none⟩) l.length c) cur∧cur.take k=ddTo l (q + 1+(p + 1))∧(∀ j (h:j<l.length) (h':j<cur.length),q + 1+p≤j→cur[j]=l[j])∧w.grownBy wi (some g)) (fun _ vm _=>l.length - (intOf vm).toNat)
     case atStart=>exact ⟨q + 1,0,l,rfl,rfl,by omega,by omega,rfl,HOQ.out,HDD.out.symm,fun _ _ _ _=>rfl,only_of_below hq' _⟩
     case round =>
      obtain ⟨k,p,cur,rfl,rfl,hp,hkp,hcur,hO,htk,hsame,hgr⟩:=hrel
      have HO':=qh hO
      have HTK:=qh htk
      have HSA:=qh hsame
      have hgz:=hgr.size
      clear htk hsame
      by_cases hltp:q + 1+(p + 1)<l.length
      ·have hOc:Owns wr base 105 Ident.cells 4 (.slice (some ⟨g,0,none⟩) cur.length c) cur:=by rw [hcur];exact hO
       obtain ⟨h0,h1,h2',h3⟩:=Ident.cells4 (b:=g) (o:=(q + 1) * 4+(p + 1) * 4) (x:=l[q + 1+(p + 1)]) (fun j u hu=>by
        have h:=hOc.getc ident_len (i:=q + 1+(p + 1)) omA (j:=j) (u:=u) (by rw [HSA.out _ hltp _ omA];exact hu)
        rw [Nat.add_mul (q + 1) (p + 1) 4] at h
        exact h)
       obtain ⟨g0,g1,g2,g3⟩:=Ident.cells4 (b:=g) (o:=(q + 1) * 4+p * 4) (x:=l[q + 1+p]) (fun j u hu=>by
        have h:=hOc.getc ident_len (i:=q + 1+p) omA (j:=j) (u:=u) (by rw [HSA.out _ omA _ omA];exact hu)
        rw [Nat.add_mul (q + 1) p 4] at h
        exact h)
       have hk0:=keepQ (w:=wr) g omA
       have HOC:=qh hOc
       have hd4:(((p + 1:Nat):Int)<((l.length - (q + 1):Nat):Int)):=by omega
       clear hO hOc
       cases hbb:decide (cmpId l[q + 1+(p + 1)] l[q + 1+p] = 0) with
       | true =>
         have hcm2:cmpId l[q + 1+(p + 1)] l[q + 1+p] = 0:=by simpa using hbb
         go_wp2
         refine wp_region_bel krA krA ?_;(repeat (go_big_quiet_step ((go_at_call 257;with_reducible exact bel_of_ext (newGraph_eqB l[q + 1+(p + 1)] l[q + 1+p] hbb _)))));refine wpQuiet_nil ?_;intro wq2 hq2
         have hg2:w.grownBy wq2 (some g):=grown_trans hgr (only_of_below hq2 _)
         have HO2:=qh (HOC.out.below hq2 (Nat.le_refl _))
         go_wp2
         go_roundw
         case rel=>exact ⟨k,p + 1,cur,rfl,by go_num,by omega,by omega,hcur,by rw [← hcur];exact HO2.out,by
          rw [HTK.out]
          exact (ddTo_same hltp omA (by simpa using hcm2)).symm,fun j h h' hj=>HSA.out j h h' omA,hg2⟩
         case measure=>simp [intOf];omega
       | false =>
         have hcm2 : ¬ cmpId l[q + 1+(p + 1)] l[q + 1+p] = 0:=by simpa using hbb
         go_wp2
         refine wp_region_bel krA krA ?_;(repeat (go_big_quiet_step ((go_at_call 257;with_reducible exact bel_of_ext (newGraph_eqB l[q + 1+(p + 1)] l[q + 1+p] hbb _)))));refine wpQuiet_nil ?_;intro wq2 hq2
         have hg2:w.grownBy wq2 (some g):=grown_trans hgr (only_of_below hq2 _)
         have hO2:=HOC.out.below hq2 (Nat.le_refl _)
         clear h0 h1 h2' h3 g0 g1 g2 g3 hk0
         obtain ⟨h0,h1,h2',h3⟩:=Ident.cells4 (b:=g) (o:=(q + 1) * 4+(p + 1) * 4) (x:=l[q + 1+(p + 1)]) (fun j u hu=>by
          have h:=hO2.getc ident_len (i:=q + 1+(p + 1)) omA (j:=j) (u:=u) (by rw [HSA.out _ hltp _ omA];exact hu)
          rw [Nat.add_mul (q + 1) (p + 1) 4] at h
          exact h)
         have hkl:k<cur.length:=by omega
         obtain ⟨g0,g1,g2,g3⟩:=Ident.cells4 (b:=g) (o:=k * 4) (fun j u hu=>hO2.getc ident_len (i:=k) hkl hu)
         have hfz:=fun j=>hO2.frz j
         have HO2:=qh hO2
         clear hO2
         go_wp2
         obtain ⟨hs1,hs2⟩:=HO2.out.store4 ident_len hkl (x:=l[q + 1+(p + 1)]) rfl
         go_roundw
         case rel=>exact ⟨k + 1,p + 1,cur.set k l[q + 1+(p + 1)],by go_num,by go_num,by omega,by omega,by rw [List.length_set];exact hcur,by rw [← hcur];exact hs1,by
          rw [List.take_succ_eq_append_getElem (by simpa using hkl),List.getElem_set_self,List.take_set_of_le (Nat.le_refl _),HTK.out]
          exact (ddTo_more hltp omA (by simpa using hcm2)).symm,fun j h h' hj=>by
          rw [List.getElem_set_ne omA]
          exact HSA.out j h (by simpa using h') omA,grown_trans hg2 hs2⟩
         case measure=>simp [intOf];omega
      ·have hd4:decide (((p + 1:Nat):Int)<((l.length - (q + 1):Nat):Int))=false:=by simp;omega
       have hOc:Owns wr base 105 Ident.cells 4 (.slice (some ⟨g,0,none⟩) cur.length c) cur:=by rw [hcur];exact hO
       obtain ⟨vs,hclr⟩:=clear_ids g k (l.length - k) (c - k) cur base c wr hOc omA omA
       have HOC:=qh hOc
       clear hO hOc
       go_wp2
       go_ret
       have htake:(cur.take k).length=k:=by simp;omega
       have hcut:=HOC.out.cut ident_len (m:=k) omA
       have hcut':Owns wr base 105 Ident.cells 4 (.slice (some ⟨g,0,none⟩) (cur.take k).length c) (cur.take k):=by rw [htake];exact hcut
       obtain ⟨hb1,hb2⟩:=hcut'.beyonds vs (o:=k * 4) (by rw [htake];exact Nat.le_refl _)
       refine ⟨⟨_,rfl,?_⟩,grown_trans hgr hb2⟩
       rw [htake,HTK.out] at hb1
       have e:q + 1+(p + 1)=l.length:=by omega
       rw [e] at hb1
       exact hb1
    ·have hcd:decide (cmpId l[q + 1] l[q] = 0)=false:=by simpa using hcmp
     go_wp2
     go_roundw
     case rel=>exact ⟨q + 1 + 1,by omega,by omega,by go_num,fun j h h0 hj=>by
      rcases Nat.lt_or_ge j (q + 1) with hjq|hjq
      ·exact HNO.out j h h0 hjq
      ·obtain rfl:j=q + 1:=by omega
       exact hcmp,hq'⟩
     case measure=>simp [intOf];omega
   ·obtain rfl:k=l.length:=by omega
    go_wp2
    go_ret
    refine ⟨⟨_,rfl,?_⟩,only_of_below hbw _⟩
    have e:dedup l=l:=by
     have h:=ddTo_take (l:=l) (Nat.le_refl _) HNO.out
     rwa [List.take_length] at h
    rw [e]
    exact HOW.out
open Go.RowKit Go.Shelf Go.Sort
instance:Inhabited Ident:=⟨⟨⟨#[]⟩,⟨0,0,⟨#[]⟩⟩⟩⟩
theorem flatK_eq {α : Type} [Inhabited α] {enc : α → List Value} {k:Nat} (hk : ∀ x,(enc x).length=k) (l:List α):flatK enc k l.toArray=(l.flatMap enc).toArray:=by
 apply ext_get!
 ·simp [flat_length hk]
 ·intro t ht
  have ht:t<l.length*k:=by simpa using ht
  have hk0 : 0<k:=by
   rcases Nat.eq_zero_or_pos k with h|h
   ·rw [h] at ht;omega
   ·exact h
  have hi:t / k<l.length:=Nat.div_lt_of_lt_mul (by rw [Nat.mul_comm];exact ht)
  have hj:t % k<(enc l[t / k]).length:=by rw [hk];exact Nat.mod_lt _ hk0
  rw [get_flatK enc k _ t (by simpa using ht)]
  have h1:=flat_get hk l (t / k) hi (t % k) _ (List.getElem?_eq_getElem hj)
  rw [Nat.div_add_mod' t k] at h1
  have e1:l.toArray[t / k]! = l[t / k]:=by rw [getElem!_pos _ _ (by simpa using hi)];simp
  have hfl:t<(l.flatMap enc).length:=by rw [flat_length hk];exact ht
  rw [e1,getElem!_pos (enc l[t / k]) (t % k) hj,getElem!_pos (l.flatMap enc).toArray t (by simpa using hfl)]
  rw [List.getElem?_eq_getElem hfl] at h1
  simpa using (Option.some.inj h1).symm
theorem take_putId (cur:Array Value) (ts:List Value) (h:ts.length≤cur.size):(putCells id 0 ts.toArray cur).toList.take ts.length=ts:=by
 apply List.ext_getElem?
 intro j
 by_cases hj:j<ts.length
 ·rw [List.getElem?_take_of_lt hj,Array.getElem?_toList]
  simp [putCells,hj,show j<cur.size by omega]
 ·rw [List.getElem?_take_eq_none omA,List.getElem?_eq_none omA]
theorem cmpId_swo:SWO (ltOf cmpId) where
 irrefl x:=by simp [ltOf,cmpId_refl]
 trans x y z h1 h2:=by
  simp [ltOf] at *
  exact cmpId_ok.lt_le h1 omA
 ntrans x y z h1 h2:=by
  simp [ltOf] at *
  have a:=cmpId_ok.anti x y
  have b:=cmpId_ok.anti y z
  have c:=cmpId_ok.anti x z
  have:=cmpId_ok.trans z y x omA omA
  omega
theorem sort_any (base g c:Nat) (l:List Ident) (w:World) (h:Owns w base 105 Ident.cells 4 (.slice (some ⟨g,0,none⟩) l.length c) l) (hn:l.length ≤ 1000000) :
 Calls Tryz.prog 255 #[.slice (some ⟨g,0,none⟩) l.length c, .func (.func 150) #[] #[]] w fun e w' =>
  e = .returned (.tuple #[]) ∧ ∃ l':List Ident,l'.Perm l∧Weak l'∧Owns w' base 105 Ident.cells 4 (.slice (some ⟨g,0,none⟩) l.length c) l'∧w.grownBy w' (some g):=by
 have eg : ∀ args w,(callFunc 150 args).run Tryz.prog w = .ok (.enter 150 args) w:=enters_of Tryz.func150 krA rfl
 have hcmp:CmpLays Tryz.prog 150 #[] Ident.cells 4 cmpId g 0 l.toArray.size w:=fun m os dk _ x y =>
  (identity_CompareId x y _).mono fun e w' ⟨he,hx⟩=>⟨he,hx.grow⟩
 have hg:=h.blk_lt
 have hH:HoldsK Ident.cells 4 w g 0 l.toArray:=by
  intro j hj
  rw [flatK_eq ident_len] at hj ⊢
  have hj:j<(l.flatMap Ident.cells).length:=by simpa using hj
  refine ⟨?_,h.frz _⟩
  rw [Nat.zero_add,World.ownsRow.cellAt h _ (by rw [← flat_length ident_len];exact hj),List.getElem?_eq_getElem hj,getElem!_pos _ _ (by simpa using hj)]
  simp
 have hcon:=AnyQ.slices_SortFunc Tryz.sortIdL 4 Tryz.isAgg105 Tryz.sizeOf105 Ident.cells ident_len (fun x v hv=>ident_one x v hv) cmpId cmpId_swo 150 #[] g 0 c l.toArray w eg hcmp hH hg.2 smA
 change Calls Tryz.prog 255 _ _ _ at hcon
 refine hcon.mono ?_
 rintro e w' ⟨rfl,d',n,os,⟨hp1,_,hp2⟩,hs,rfl⟩
 have hlen:d'.toList.length=l.length:=by simpa using hp1
 refine ⟨rfl,d'.toList,?_,?_,?_,?_⟩
 ·have e1:(d'.extract 0 l.toArray.size).toList=d'.toList:=by rw [← hp1];simp
  have e2:(l.toArray.extract 0 l.toArray.size).toList=l:=by simp
  rw [e1,e2] at hp2
  exact hp2
 ·refine List.pairwise_iff_getElem.2 fun i j hi hj hij => ?_
  have h1:=hs i j (Nat.zero_le _) hij (by rw [List.size_toArray,← hlen];exact hj)
  rw [getElem!_pos d' j (by simpa using hj),getElem!_pos d' i (by simpa using hi)] at h1
  simp [ltOf] at h1
  have:=cmpId_ok.anti d'[i] d'[j]
  simp
  omega
 ·rcases h.2 with ⟨h',_⟩|⟨g',cap',cur,h',hb,hgb,hnc,hcm,hcs,ht⟩
  ·simp at h'
  ·injection h' with h1 _ h3
   injection h1 with h1
   injection h1 with h1
   subst h1 h3
   have hfl:(d'.toList.flatMap Ident.cells).length=l.length * 4:=by rw [flat_length ident_len,hlen]
   refine ⟨by rw [flat_length ident_len], .inr ⟨g,c,putCells id 0 (flatK Ident.cells 4 d') cur,by rw [hlen],hb,?_,by omega,hcm,by simp [putCells,hcs],?_⟩⟩
   ·unfold sortWorldK putRowK
    rw [heap_grow_old _ _ (by simpa using hg.2)]
    simp [putRow,mapBlock,Sort.ahead,Array.getElem?_modify,hgb,onCells]
   ·have e3:flatK Ident.cells 4 d'=(d'.toList.flatMap Ident.cells).toArray:=flatK_eq ident_len d'.toList
    rw [e3,hlen,← hfl]
    exact take_putId _ _ (by rw [hfl,hcs];omega)
 ·unfold sortWorldK putRowK
  refine ⟨rfl,rfl,rfl,by simp,fun k hk hne => ?_⟩
  rw [heap_grow_old _ _ (by simpa using hk)]
  have:g≠k:=fun e=>hne (by rw [e])
  simp [putRow,mapBlock,Sort.ahead,Array.getElem?_modify,this]
theorem clone_any (b o c:Nat) (l:List Ident) (w:World) (hl:SliceIs w w.heap.size Ident.cells 4 (some ⟨b,o,none⟩) l) (hn:l.length ≤ 1000000) :
 Calls Tryz.prog 254 #[.slice (some ⟨b,o,none⟩) l.length c] w fun e w' =>
  (∃ v,e = .returned v∧Owns w' w.heap.size 105 Ident.cells 4 v l)∧Below w.heap.size w w':=by
 obtain ⟨i0,hi0,hz0,hz1,hz2⟩:=info_parts infoIdent
 go_enter Tryz.func254,Tryz.ntmps254
 have hnil:(binOp .eql 53 (.slice (some ⟨b,o,none⟩) l.length c) (.slice none 0 0)).run Tryz.prog w = .ok (.bool false) w:=Lib.run_eql_slice_nil w 53 105 (some ⟨b,o,none⟩) l.length c 0 0 Tryz.underlying53
 go_wp2_with ((at_builtin;refine wpList_append_list _ rfl (.tmp 5) (.tmp 6) 53 rfl 105 i0 _ Ident.cells 4 48 Tryz.underlying53 hi0 hz0 hz1 hz2 rfl omA ident_len ident_one w.heap.size (.slice (some ⟨w.heap.size,0,none⟩) 0 0) [] rfl (Owns.empty (Blk.new' rfl) (Nat.le_refl _)) _ _ _ l rfl rfl (hl.next belA) smA mxA spA ?_;intro v' w1 hown' hg' hat';have HOWN':=qh hown';clear hown';have hbel:Below w.heap.size w w1:=Below.grown belA hg' spA (own_row (Nat.le_refl _))))
 go_ret
 exact ⟨⟨_,rfl,by simpa using HOWN'.out⟩,hbel⟩
def pairCells (x:Nat × Nat):List Value := [.int .i64 x.1, .int .i64 x.2]
theorem pair_len : ∀ x:Nat × Nat,(pairCells x).length = 2:=fun _=>rfl
theorem pairCells2 {w:World} {b o:Nat} {x:Nat × Nat} (h : ∀ j u,(pairCells x)[j]? = some u→w.cell? ⟨b,o+j,none⟩=some u) :
 w.cell? ⟨b,o,none⟩=some (.int .i64 x.1)∧w.cell? ⟨b,o + 1,none⟩=some (.int .i64 x.2):=⟨h 0 _ rfl,h 1 _ rfl⟩
def pairIdx (ps:List (Nat × Nat)) (p:Nat × Nat):Int:=if p∈ps then (ps.idxOf p:Int) else -1
theorem pairIdx_at {ps:List (Nat × Nat)} {p:Nat × Nat} {m:Nat} (h:m<ps.length) (he:ps[m]=p) (hn : ∀ j (h:j<ps.length),j<m→ps[j]≠p):pairIdx ps p=m:=by
 have hmem:p∈ps:=by rw [← he];exact List.getElem_mem h
 have h1:ps.idxOf p<ps.length:=List.idxOf_lt_length_of_mem hmem
 have h2:ps[ps.idxOf p]=p:=List.getElem_idxOf h1
 unfold pairIdx
 rw [if_pos hmem]
 have h3 : ¬ ps.idxOf p<m:=fun h=>hn _ h1 h h2
 have h4:ps.idxOf p≤m:=by
  rcases Nat.lt_or_ge m (ps.idxOf p) with h5|h5
  ·exact absurd he (by
    have:=List.not_of_lt_findIdx (xs:=ps) (p:=(· == p)) h5
    simpa using this)
  ·exact h5
 omega
theorem pairIdx_none {ps:List (Nat × Nat)} {p:Nat × Nat} (hn : ∀ j (h:j<ps.length),ps[j]≠p):pairIdx ps p = -1:=by
 unfold pairIdx
 rw [if_neg]
 intro h
 obtain ⟨i,hi,he⟩:=List.getElem_of_mem h
 exact hn i hi he
theorem eqlPair (x y:Nat × Nat) {b:Bool} (h:decide (x=y)=b) : ∀ w:World,(Op.equalIn 10000 188 (.agg #[.int .i64 (x.1:Int), .int .i64 (x.2:Int)]) (.agg #[.int .i64 (y.1:Int), .int .i64 (y.2:Int)])).run Tryz.prog w = .ok b w:=by
 subst h
 intro w
 obtain ⟨i0,hi0,hz0,hz1,hz2⟩:=info_parts infoInt
 have hA:Tryz.prog.underlying 188=some (.array 2 3):=Tryz.underlying188
 have hc:Tryz.prog.cellsOf 3 = 1:=by kernel_rfl
 have u3:=Tryz.underlying3
 rw [show (10000:Nat) = 9999 + 1 from rfl,run_equalIn_array (w:=w) 9999 _ _ hA hi0,hc]
 obtain ⟨a,b⟩:=x
 obtain ⟨a',b'⟩:=y
 simp only [show List.range 2 = [0,1] from rfl,Op.eqItems]
 go_simp
 by_cases h0:a=a' <;> by_cases h1:b=b' <;> simp [h0,h1] <;> omega
theorem index_any (A:Option Addr) (c:Nat) (ps:List (Nat × Nat)) (p:Nat × Nat) (w:World) (hl:SliceIs w w.heap.size pairCells 2 A ps) (hn:ps.length ≤ 1000000) :
 Calls Tryz.prog 259 #[.slice A ps.length c, .agg #[.int .i64 p.1, .int .i64 p.2]] w fun e w' =>
  e = .returned (.int .i64 (pairIdx ps p))∧Below w.heap.size w w':=by
 go_enter Tryz.func259,Tryz.ntmps259
 go_wp2
 go_loopw [8] (fun vi wr => ∃ m:Nat,m≤ps.length∧vi = .int .i64 m∧Below w.heap.size w wr∧(∀ y u,(pairCells p)[y]? = some u→wr.cell? ⟨w.heap.size,0+y,none⟩=some u)∧w.heap.size<wr.heap.size∧(∀ j (h:j<ps.length),j<m→ps[j]≠p)) (fun vi _=>ps.length - (intOf vi).toNat)
 case atStart=>exact ⟨0,Nat.zero_le _,rfl,by exact belA,fun j u hu=>by simpa [pairCells] using hu,by simp,fun j _ h=>absurd h omA⟩
 case round =>
  obtain ⟨m,hm,rfl,hbw,hx,hz,hno⟩:=hrel
  obtain ⟨x0,x1⟩:=pairCells2 hx
  simp only [Nat.zero_add] at x1
  have HX:=qh hx
  have HNO:=qh hno
  clear hx hno
  have hk1:=keepQ (w:=wr) w.heap.size hz
  by_cases hlt:m<ps.length
  ·obtain ⟨b,o,rfl,hb,hc⟩:=(hl.below hbw).get hlt
   obtain ⟨h0,h1⟩:=pairCells2 hc
   have hk0:=keepQ (w:=wr) b (by have:=hbw.size;omega)
   clear hc
   cases hbb:decide (p=ps[m]) with
   | true =>
     have he : ps[m] = p := by have : p = ps[m] := by simpa using hbb
                               exact this.symm
     have heq:=eqlPair p ps[m] hbb
     have HE:=qh he
     clear he hbb
     go_wp2
     refine wp_region_bel krA krA ?_;(repeat (go_big_quiet_step (fail)));refine wpQuiet_nil ?_;intro wq hq
     have hq':=below_nextN hbw hq hbw.size
     go_wp2
     go_ret
     exact ⟨ret_int (pairIdx_at hlt HE.out HNO.out).symm,hq'⟩
   | false =>
     have hne:ps[m]≠p:=fun h=>by simp [h] at hbb
     have heq:=eqlPair p ps[m] hbb
     have HNE:=qh hne
     clear hne hbb
     go_wp2
     refine wp_region_bel krA krA ?_;(repeat (go_big_quiet_step (fail)));refine wpQuiet_nil ?_;intro wq hq
     have hq':=below_nextN hbw hq hbw.size
     go_wp2
     go_roundw
     case rel=>exact ⟨m + 1,by omega,by go_num,hq',fun y u hu=>(hq.cell (by exact hz)).trans (HX.out y u hu),by have:=hq.size;omega,fun j h hj=>by
      rcases Nat.lt_or_ge j m with hjm|hjm
      ·exact HNO.out j h hjm
      ·obtain rfl:j=m:=by omega
       exact HNE.out⟩
     case measure=>simp [intOf];omega
  ·go_wp2
   go_ret
   exact ⟨ret_int (pairIdx_none (fun j h=>HNO.out j h omA)).symm,hbw⟩
def pairOf (ns:List Ident) (x:Link):Nat × Nat:=(min (insK ns x.a) (insK ns x.b),max (insK ns x.a) (insK ns x.b))
def endOf (ns:List Ident) (x:Link) (l:List Link):Int :=
 match l.find? (fun y=>pairOf ns y==pairOf ns x) with
 | some y=>y.seq - 1
 | none => 9223372036854775807
def edgeOf (ns:List Ident) (x:Link) (l:List Link):Edge:=⟨(pairOf ns x).1,(pairOf ns x).2,x.seq,endOf ns x l⟩
def edgesOf (ns:List Ident):List Link→List Edge
 | [] => []
 | x::l=>if x.rev then edgesOf ns l else edgeOf ns x l::edgesOf ns l
theorem edgesOf_rev {ns:List Ident} {ls:List Link} {m:Nat} (h:m<ls.length) (hr:ls[m].rev=true):edgesOf ns (ls.drop m)=edgesOf ns (ls.drop (m + 1)):=by
 rw [List.drop_eq_getElem_cons h,edgesOf,if_pos hr]
theorem edgesOf_not {ns:List Ident} {ls:List Link} {m:Nat} (h:m<ls.length) (hr:ls[m].rev=false):edgesOf ns (ls.drop m)=edgeOf ns ls[m] (ls.drop (m + 1))::edgesOf ns (ls.drop (m + 1)):=by
 rw [List.drop_eq_getElem_cons h,edgesOf,if_neg (by simp [hr])]
theorem edgesOf_len (ns:List Ident) : ∀ ls:List Link,(edgesOf ns ls).length≤ls.length
 | []=>by simp [edgesOf]
 | x::l=>by
   have:=edgesOf_len ns l
   rw [edgesOf]
   split
   ·simp;omega
   ·simp;omega
theorem find_idx {ps:List Link} {f:Link→Nat × Nat} {p:Nat × Nat}:(∀ n:Nat,pairIdx (ps.map f) p=n → ∃ h:n<ps.length,ps.find? (fun y=>f y==p)=some ps[n])∧(pairIdx (ps.map f) p < 0→ps.find? (fun y=>f y==p)=none):=by
 unfold pairIdx
 constructor
 ·intro n hn
  by_cases hm:p∈ps.map f
  ·rw [if_pos hm] at hn
   have hn':(ps.map f).idxOf p=n:=by omega
   have h1:n<ps.length:=by have:=List.idxOf_lt_length_of_mem hm;rw [hn'] at this;simpa using this
   refine ⟨h1,?_⟩
   have h2:(ps.map f)[(ps.map f).idxOf p]'(List.idxOf_lt_length_of_mem hm)=p:=List.getElem_idxOf _
   rw [List.find?_eq_some_iff_getElem]
   refine ⟨?_,n,h1,rfl,fun j hj => ?_⟩
   ·simp only [hn',List.getElem_map] at h2
    simp [h2]
   ·have h3:=List.not_of_lt_findIdx (xs:=ps.map f) (p:=(· == p)) (i:=j) (by
     have e:List.findIdx (fun x=>x==p) (List.map f ps)=(ps.map f).idxOf p:=rfl
     rw [e,hn'];exact hj)
    simpa using h3
  ·rw [if_neg hm] at hn
   omega
 ·intro h
  by_cases hm:p∈ps.map f
  ·rw [if_pos hm] at h;omega
  ·rw [List.find?_eq_none]
   intro y hy
   simp only [beq_iff_eq]
   intro e
   exact hm (List.mem_map.2 ⟨y,hy,e⟩)
theorem endOf_some {ns:List Ident} {ls:List Link} {m n:Nat} (h:m<ls.length) (hn:pairIdx ((ls.map (pairOf ns)).drop (m + 1)) (pairOf ns ls[m])=n) : ∃ h':m + 1+n<ls.length,endOf ns ls[m] (ls.drop (m + 1))=ls[m + 1+n].seq - 1:=by
 rw [← List.map_drop] at hn
 obtain ⟨h1,h2⟩:=find_idx.1 n hn
 have h3:m + 1+n<ls.length:=by simp at h1;omega
 refine ⟨h3,?_⟩
 unfold endOf
 rw [h2]
 simp
theorem endOf_none {ns:List Ident} {ls:List Link} {m:Nat} (h:m<ls.length) (hn:pairIdx ((ls.map (pairOf ns)).drop (m + 1)) (pairOf ns ls[m]) < 0):endOf ns ls[m] (ls.drop (m + 1)) = 9223372036854775807:=by
 rw [← List.map_drop] at hn
 unfold endOf
 rw [find_idx.2 hn]
theorem mem_upTo {s:Int} {y:Link} : ∀ {l:List Link},l.Pairwise (fun x y=>x.seq<y.seq)→(y∈l.takeWhile (fun z=>decide (z.seq≤s))↔y∈l∧y.seq≤s)
 | [],_=>by simp
 | x::l,h=>by
   have h':=List.pairwise_cons.1 h
   by_cases hx:x.seq≤s
   ·rw [List.takeWhile_cons_of_pos (by simpa using hx),List.mem_cons,List.mem_cons,mem_upTo h'.2]
    constructor
    ·rintro (rfl|⟨h1,h2⟩)
     ·exact ⟨.inl rfl,hx⟩
     ·exact ⟨.inr h1,h2⟩
    ·rintro ⟨rfl|h1,h2⟩
     ·exact .inl rfl
     ·exact .inr ⟨h1,h2⟩
   ·rw [List.takeWhile_cons_of_neg (by simpa using hx)]
    constructor
    ·intro h;cases h
    ·rintro ⟨h1,h2⟩
     rcases List.mem_cons.1 h1 with rfl|h1
     ·exact absurd h2 hx
     ·have:=h'.1 y h1
      omega
theorem find_first {P:Link→Bool} {y:Link} : ∀ {l:List Link},l.Pairwise (fun x y=>x.seq<y.seq)→l.find? P=some y→y∈l∧P y=true ∧ ∀ z∈l,P z=true→y.seq≤z.seq
 | [],_,h=>by simp at h
 | x::l,hp,h=>by
   have h':=List.pairwise_cons.1 hp
   by_cases hx:P x=true
   ·rw [List.find?_cons_of_pos hx] at h
    injection h with h
    subst h
    refine ⟨by simp,hx,fun z hz _ => ?_⟩
    rcases List.mem_cons.1 hz with rfl|hz
    ·exact Int.le_refl _
    ·exact Int.le_of_lt (h'.1 z hz)
   ·rw [List.find?_cons_of_neg hx] at h
    obtain ⟨h1,h2,h3⟩:=find_first h'.2 h
    refine ⟨by simp [h1],h2,fun z hz hz' => ?_⟩
    rcases List.mem_cons.1 hz with rfl|hz
    ·exact absurd hz' hx
    ·exact h3 z hz hz'
structure Names (ns:List Ident) (ls:List Link):Prop where
 asc:Asc ns
 valid:AllValid ns
 ends : ∀ x∈ls,x.a∈ns∧x.b∈ns
theorem insK_inj {ns:List Ident} (ha:Asc ns) (hv:AllValid ns) {x y:Ident} (hx:x∈ns) (hy:y∈ns) (h:insK ns x=insK ns y):x=y:=by
 have h1:=(insK_mem ha hv hx).2
 have h2:=(insK_mem ha hv hy).2
 rw [h,h2] at h1
 injection h1 with h1
 exact h1.symm
theorem samePair_iff {ns:List Ident} (ha:Asc ns) (hv:AllValid ns) {x y:Link} (hx:x.a∈ns∧x.b∈ns) (hy:y.a∈ns∧y.b∈ns):samePair y x=true↔pairOf ns y=pairOf ns x:=by
 unfold samePair pairOf
 simp only [Bool.or_eq_true,Bool.and_eq_true,decide_eq_true_eq,Prod.mk.injEq]
 constructor
 ·rintro (⟨h1,h2⟩|⟨h1,h2⟩)
  ·rw [h1,h2];exact ⟨rfl,rfl⟩
  ·rw [h1,h2];omega
 ·intro h
  by_cases h1:insK ns y.a=insK ns x.a
  ·exact .inl ⟨insK_inj ha hv hy.1 hx.1 h1,insK_inj ha hv hy.2 hx.2 omA⟩
  ·exact .inr ⟨insK_inj ha hv hy.1 hx.2 omA,insK_inj ha hv hy.2 hx.1 omA⟩
theorem mem_inForce {es:List Edge} {s:Int} {p:Nat × Nat}:p∈inForce es s ↔ ∃ e∈es,e.first≤s∧s≤e.last∧(e.a,e.b)=p:=by
 unfold inForce
 simp only [List.mem_map,List.mem_filter,Bool.and_eq_true,decide_eq_true_eq]
 constructor
 ·rintro ⟨e,⟨h1,h2,h3⟩,h4⟩
  exact ⟨e,h1,h2,h3,h4⟩
 ·rintro ⟨e,h1,h2,h3,h4⟩
  exact ⟨e,⟨h1,h2,h3⟩,h4⟩
theorem head_inForce {ns:List Ident} (ha:Asc ns) (hv:AllValid ns) {x:Link} {l:List Link} (hx:x.a∈ns∧x.b∈ns) (hl : ∀ y∈l,y.a∈ns∧y.b∈ns) (hp:l.Pairwise (fun x y=>x.seq<y.seq)) {s:Int} (hs:s ≤ 9223372036854775807) :
 directB (x::l) x 0 s=true↔x.rev=false∧x.seq≤s∧s≤endOf ns x l:=by
 unfold directB
 simp only [List.drop_succ_cons,List.drop_zero,Nat.zero_add,Bool.and_eq_true,decide_eq_true_eq,Bool.not_eq_true',List.any_eq_false,mem_upTo hp]
 have key:(∀ y,y∈l∧y.seq≤s → ¬ samePair y x=true)↔s≤endOf ns x l:=by
  unfold endOf
  cases hf:l.find? (fun y=>pairOf ns y==pairOf ns x) with
  | none =>
    rw [List.find?_eq_none] at hf
    refine ⟨fun _=>hs,fun _ y hy h => ?_⟩
    rw [samePair_iff ha hv hx (hl y hy.1)] at h
    exact hf y hy.1 (by simp [h])
  | some y =>
    obtain ⟨h1,h2,h3⟩:=find_first hp hf
    have h2':pairOf ns y=pairOf ns x:=by simpa using h2
    constructor
    ·intro h
     have:=h y
     rw [samePair_iff ha hv hx (hl y h1)] at this
     have h4 : ¬ y.seq≤s:=fun h5=>this ⟨h1,h5⟩ h2'
     show s≤y.seq - 1
     omega
    ·intro h z hz hzp
     have h:s≤y.seq - 1:=h
     rw [samePair_iff ha hv hx (hl z hz.1)] at hzp
     have:=h3 z hz.1 (by simp [hzp])
     omega
 rw [key]
 constructor
 ·rintro ⟨⟨h1,h2⟩,h3⟩;exact ⟨h2,h1,h3⟩
 ·rintro ⟨h2,h1,h3⟩;exact ⟨⟨h1,h2⟩,h3⟩
theorem edges_inForce {ns:List Ident} (ha:Asc ns) (hv:AllValid ns) {s:Int} (hs:s ≤ 9223372036854775807) {p:Nat × Nat} : ∀ {l:List Link},(∀ y∈l,y.a∈ns∧y.b∈ns)→l.Pairwise (fun x y=>x.seq<y.seq) →
 (p∈inForce (edgesOf ns l) s ↔ ∃ i,∃ h:i<l.length,directB l l[i] i s=true∧pairOf ns l[i]=p)
 | [],_,_=>by simp [edgesOf,mem_inForce]
 | x::l,hl,hp=>by
   have hp':=List.pairwise_cons.1 hp
   have hx:=hl x spA
   have hl' : ∀ y∈l,y.a∈ns∧y.b∈ns:=fun y hy=>hl y (by simp [hy])
   have ih:=edges_inForce ha hv hs (p:=p) hl' hp'.2
   have hh:=head_inForce ha hv hx hl' hp'.2 hs
   have hsplit:(∃ i,∃ h:i<(x::l).length,directB (x::l) (x::l)[i] i s=true∧pairOf ns (x::l)[i]=p)↔(directB (x::l) x 0 s=true∧pairOf ns x=p) ∨ ∃ i,∃ h:i<l.length,directB l l[i] i s=true∧pairOf ns l[i]=p:=by
    constructor
    ·rintro ⟨i,hi,h1,h2⟩
     cases i with
     | zero=>exact .inl ⟨h1,h2⟩
     | succ i=>exact .inr ⟨i,by simpa using hi,by simpa [directB] using h1,by simpa using h2⟩
    ·rintro (⟨h1,h2⟩|⟨i,hi,h1,h2⟩)
     ·exact ⟨0,by simp,h1,h2⟩
     ·exact ⟨i + 1,by simpa using hi,by simpa [directB] using h1,by simpa using h2⟩
   rw [hsplit,← ih,hh,edgesOf]
   cases hr:x.rev
   ·rw [if_neg spA,mem_inForce,mem_inForce]
    constructor
    ·rintro ⟨e,he,h1,h2,h3⟩
     rcases List.mem_cons.1 he with rfl|he
     ·exact .inl ⟨⟨rfl,h1,h2⟩,h3⟩
     ·exact .inr ⟨e,he,h1,h2,h3⟩
    ·rintro (⟨⟨_,h1,h2⟩,h3⟩|⟨e,he,h1,h2,h3⟩)
     ·exact ⟨edgeOf ns x l,by simp,h1,h2,h3⟩
     ·exact ⟨e,by simp [he],h1,h2,h3⟩
   ·rw [if_pos rfl]
    constructor
    ·exact .inr
    ·rintro (⟨⟨h,_⟩,_⟩|h)
     ·cases h
     ·exact h
theorem edgesOf_range {ns:List Ident} (ha:Asc ns) (hv:AllValid ns) : ∀ {l:List Link},(∀ y∈l,y.a∈ns∧y.b∈ns) → ∀ e∈edgesOf ns l,e.a<ns.length∧e.b<ns.length
 | [],_,e,he=>by simp [edgesOf] at he
 | x::l,hl,e,he=>by
   have hx:=hl x spA
   have h1:=(insK_mem ha hv hx.1).1
   have h2:=(insK_mem ha hv hx.2).1
   have ih:=edgesOf_range ha hv (l:=l) (fun y hy=>hl y (by simp [hy])) e
   rw [edgesOf] at he
   cases hr:x.rev
   ·rw [hr,if_neg spA] at he
    rcases List.mem_cons.1 he with rfl|he
    ·simp [edgeOf,pairOf];omega
    ·exact ih he
   ·rw [hr,if_pos rfl] at he
    exact ih he
theorem conn_reach {ns:List Ident} {ls:List Link} (hn:Names ns ls) (hp:ls.Pairwise (fun x y=>x.seq<y.seq)) {s:Int} (hs:s ≤ 9223372036854775807) {u:Ident} (hu:u∈ns) {i:Nat} (hi:i<ns.length) :
 Conn (inForce (edgesOf ns ls) s) (insK ns u) i↔Reach ls s u ns[i]:=by
 have hE : ∀ p,p∈inForce (edgesOf ns ls) s ↔ ∃ i,∃ h:i<ls.length,directB ls ls[i] i s=true∧pairOf ns ls[i]=p:=fun p=>edges_inForce hn.asc hn.valid hs hn.ends hp
 have hmem : ∀ v,Reach ls s u v→v∈ns:=by
  intro v hv
  cases hv with
  | refl=>exact hu
  | step _ e =>
    obtain ⟨j,hj,_,h⟩:=e
    have:=hn.ends ls[j] (List.getElem_mem hj)
    rcases h with ⟨_,h⟩|⟨_,h⟩
    ·rw [← h];exact this.2
    ·rw [← h];exact this.1
 have step : ∀ j (hj:j<ls.length),directB ls ls[j] j s=true → ∀ k,(k=insK ns ls[j].a∨k=insK ns ls[j].b)→(∃ v,Reach ls s u v∧insK ns v=k)→Reach ls s u ls[j].a∧Reach ls s u ls[j].b:=by
  rintro j hj hd k hk ⟨v,hv,e⟩
  have hm:=hn.ends ls[j] (List.getElem_mem hj)
  have hvn:=hmem v hv
  rcases hk with hk|hk
  ·have e':v=ls[j].a:=insK_inj hn.asc hn.valid hvn hm.1 omA
   rw [e'] at hv
   exact ⟨hv, .step hv ⟨j,hj,hd, .inl ⟨rfl,rfl⟩⟩⟩
  ·have e':v=ls[j].b:=insK_inj hn.asc hn.valid hvn hm.2 omA
   rw [e'] at hv
   exact ⟨.step hv ⟨j,hj,hd, .inr ⟨rfl,rfl⟩⟩,hv⟩
 have fwd : ∀ k,Conn (inForce (edgesOf ns ls) s) (insK ns u) k → ∃ v,Reach ls s u v∧insK ns v=k:=by
  intro k hk
  induction hk with
  | refl=>exact ⟨u, .refl,rfl⟩
  | @right a b _ hm ih =>
    obtain ⟨j,hj,hd,e⟩:=(hE _).1 hm
    unfold pairOf at e
    injection e with e1 e2
    obtain ⟨h1,h2⟩:=step j hj hd a omA ih
    rcases Nat.le_total (insK ns ls[j].a) (insK ns ls[j].b) with hle|hle
    ·exact ⟨_,h2,by omega⟩
    ·exact ⟨_,h1,by omega⟩
  | @left a b _ hm ih =>
    obtain ⟨j,hj,hd,e⟩:=(hE _).1 hm
    unfold pairOf at e
    injection e with e1 e2
    obtain ⟨h1,h2⟩:=step j hj hd b omA ih
    rcases Nat.le_total (insK ns ls[j].a) (insK ns ls[j].b) with hle|hle
    ·exact ⟨_,h1,by omega⟩
    ·exact ⟨_,h2,by omega⟩
 have bwd : ∀ v,Reach ls s u v→Conn (inForce (edgesOf ns ls) s) (insK ns u) (insK ns v):=by
  intro v hv
  induction hv with
  | refl=>exact .refl
  | @step v z _ e ih =>
    obtain ⟨j,hj,hd,h⟩:=e
    have hm:=(hE (pairOf ns ls[j])).2 ⟨j,hj,hd,rfl⟩
    unfold pairOf at hm
    rcases Nat.le_total (insK ns ls[j].a) (insK ns ls[j].b) with hle|hle
    ·rw [Nat.min_eq_left hle,Nat.max_eq_right hle] at hm
     rcases h with ⟨h1,h2⟩|⟨h1,h2⟩
     ·rw [h1,h2] at hm;exact .right ih hm
     ·rw [h1,h2] at hm;exact .left ih hm
    ·rw [Nat.min_eq_right hle,Nat.max_eq_left hle] at hm
     rcases h with ⟨h1,h2⟩|⟨h1,h2⟩
     ·rw [h1,h2] at hm;exact .left ih hm
     ·rw [h1,h2] at hm;exact .right ih hm
 have hself:insK ns ns[i]=i:=insK_bound _ i omA (fun k h hk=>asc_get hn.asc h hi hk) (fun _=>by rw [cmpId_refl];omega)
 constructor
 ·intro h
  obtain ⟨v,hv,e⟩:=fwd i h
  have h1:=(insK_mem hn.asc hn.valid (hmem v hv)).2
  rw [e,List.getElem?_eq_getElem hi] at h1
  injection h1 with h1
  rw [h1]
  exact hv
 ·intro h
  have:=bwd _ h
  rw [hself] at this
  exact this
def endsOf (ls:List Link):List Ident:=ls.flatMap fun x => [x.a,x.b]
theorem endsOf_succ (ls:List Link) (m:Nat) (h:m<ls.length):endsOf (ls.take (m + 1))=endsOf (ls.take m) ++ [ls[m].a,ls[m].b]:=by
 unfold endsOf
 rw [List.take_succ_eq_append_getElem h,List.flatMap_append]
 simp
theorem endsOf_len (ls:List Link):(endsOf ls).length = 2*ls.length:=by
 unfold endsOf
 induction ls with
 | nil=>rfl
 | cons x l ih=>simp [List.flatMap_cons,ih];omega
theorem ident_two {w:World} {g B:Nat} {t:TypeId} {x y:Ident} (h:Blk w g t (Ident.cells x++Ident.cells y).toArray) (hB:g<B):SliceIs w B Ident.cells 4 (some ⟨g,0,none⟩) [x,y]:=by
 intro _
 refine ⟨g,0,rfl,hB,fun i hi j u hu => ?_⟩
 rw [h.cell]
 match i,hi with
 | 0,_ =>
   have hj:j < 4:=(List.getElem?_eq_some_iff.1 hu).1
   simp only [List.getElem?_toArray]
   rw [List.getElem?_append_left (by simpa [Ident.cells] using hj)]
   simpa using hu
 | 1,_ =>
   simp only [List.getElem?_toArray]
   rw [List.getElem?_append_right (by simp [Ident.cells])]
   simpa [Ident.cells] using hu
theorem Owns.some_of_pos {α : Type} {w:World} {base:Nat} {e:TypeId} {enc : α → List Value} {k:Nat} {v:Value} {l:List α} (h:Owns w base e enc k v l) (h0 : 0<l.length) : ∃ g cap,v = .slice (some ⟨g,0,none⟩) l.length cap∧base≤g:=by
 rcases h.2 with ⟨_,h1⟩|⟨g,cap,cur,rfl,hb,_⟩
 ·omega
 ·exact ⟨g,cap,rfl,hb⟩
theorem sort_anyN (base g c n:Nat) (l:List Ident) (w:World) (hl:l.length=n) (h:Owns w base 105 Ident.cells 4 (.slice (some ⟨g,0,none⟩) n c) l) (hn:n ≤ 1000000) :
 Calls Tryz.prog 255 #[.slice (some ⟨g,0,none⟩) n c, .func (.func 150) #[] #[]] w fun e w' =>
  e = .returned (.tuple #[]) ∧ ∃ l':List Ident,l'.Perm l∧Weak l'∧Owns w' base 105 Ident.cells 4 (.slice (some ⟨g,0,none⟩) n c) l'∧w.grownBy w' (some g):=by
 subst hl
 exact sort_any base g c l w h hn
theorem compact_anyN (base g c n:Nat) (l:List Ident) (w:World) (hl:l.length=n) (h:Owns w base 105 Ident.cells 4 (.slice (some ⟨g,0,none⟩) n c) l) (hn:n ≤ 1000000) :
 Calls Tryz.prog 256 #[.slice (some ⟨g,0,none⟩) n c, .func (.func 257) #[] #[]] w fun e w' =>
  (∃ A' c' ns,ns=dedup l∧e = .returned (.slice A' ns.length c')∧ns.length≤c'∧SliceIs w' w'.heap.size Ident.cells 4 A' ns ∧ ∀ a,A'=some a→base≤a.block)∧w.grownBy w' (some g):=by
 subst hl
 refine (compact_any base g c l w h hn).mono ?_
 rintro e w' ⟨⟨v,rfl,ho⟩,hg⟩
 obtain ⟨A',c',rfl,hc',hs',hA⟩:=ho.slice ident_len
 exact ⟨⟨A',c',_,rfl,rfl,hc',hs',fun a h=>(hA a h).1⟩,hg⟩
theorem infoPair:(Tryz.prog.info? 188).map (fun i=>(i.zero,i.size,i.bytes))=some (some (.agg #[.int .i64 0, .int .i64 0]),2,16):=by kernel_rfl
theorem flat_set2 {α : Type} {enc : α → List Value} (hk : ∀ x,(enc x).length = 2) : ∀ (l:List α) (i:Nat) (x : α) (a0 a1:Value),i<l.length→enc x = [a0,a1] →
 (((l.flatMap enc).set (i * 2) a0).set (i * 2 + 1) a1)=(l.set i x).flatMap enc
 | [],_,_,_,_,h,_=>by simp at h
 | y::l,0,x,a0,a1,_,hx=>by
   obtain ⟨b0,b1,e⟩ : ∃ b0 b1,enc y = [b0,b1]:=by
    have:=hk y
    match h:enc y,this with
    | [b0,b1],_=>exact ⟨b0,b1,rfl⟩
   simp [List.flatMap_cons,e,hx]
 | y::l,i + 1,x,a0,a1,h,hx=>by
   have ih:=flat_set2 hk l i x a0 a1 (by simpa using h) hx
   obtain ⟨b0,b1,e⟩ : ∃ b0 b1,enc y = [b0,b1]:=by
    have:=hk y
    match h:enc y,this with
    | [b0,b1],_=>exact ⟨b0,b1,rfl⟩
   simp only [List.flatMap_cons,e,List.set_cons_succ]
   rw [← ih]
   rw [show (i + 1) * 2=i * 2 + 1 + 1 by omega]
   simp
def pairRow (ns:List Ident) (ls:List Link) (m:Nat):List (Nat × Nat):=(ls.take m).map (pairOf ns)++List.replicate (ls.length - m) (0,0)
theorem pairRow_len (ns:List Ident) (ls:List Link) (m:Nat) (h:m≤ls.length):(pairRow ns ls m).length=ls.length:=by
 simp [pairRow];omega
theorem pairRow_all (ns:List Ident) (ls:List Link):pairRow ns ls ls.length=ls.map (pairOf ns):=by
 simp [pairRow]
theorem pairRow_set (ns:List Ident) (ls:List Link) (m:Nat) (h:m<ls.length):(pairRow ns ls m).set m (pairOf ns ls[m])=pairRow ns ls (m + 1):=by
 unfold pairRow
 have e:ls.length - m=(ls.length - (m + 1)) + 1:=by omega
 have hl:((ls.take m).map (pairOf ns)).length=m:=by simp;omega
 rw [e,List.replicate_succ,List.set_append_right _ _ omA,hl,List.take_succ_eq_append_getElem h,List.map_append,List.append_assoc]
 simp
def PairBlk (w:World) (g:Nat) (ps:List (Nat × Nat)):Prop:=Blk w g 188 (ps.flatMap pairCells).toArray
theorem PairBlk.cell2 {w:World} {g:Nat} {ps:List (Nat × Nat)} (h:PairBlk w g ps) {i:Nat} (hi:i<ps.length):w.cell? ⟨g,i * 2,none⟩=some (.int .i64 ps[i].1)∧w.cell? ⟨g,i * 2 + 1,none⟩=some (.int .i64 ps[i].2):=by
 have h0:=flat_get pair_len ps i hi 0 _ rfl
 have h1:=flat_get pair_len ps i hi 1 _ rfl
 exact ⟨by rw [Blk.cell h];simpa using h0,by rw [Blk.cell h];simpa using h1⟩
theorem PairBlk.slice {w:World} {g B:Nat} {ps:List (Nat × Nat)} (h:PairBlk w g ps) (hB:g<B):SliceIs w B pairCells 2 (some ⟨g,0,none⟩) ps:=fun _ =>
 ⟨g,0,rfl,hB,fun i hi j u hu=>by
  have h0:=flat_get pair_len ps i hi j u hu
  rw [Blk.cell h,Nat.zero_add]
  simpa using h0⟩
theorem PairBlk.set2 {w:World} {g:Nat} {ps:List (Nat × Nat)} (h:PairBlk w g ps) {i:Nat} (hi:i<ps.length) (p:Nat × Nat):PairBlk ((w.setCell ⟨g,i * 2,none⟩ (.int .i64 p.1)).setCell ⟨g,i * 2 + 1,none⟩ (.int .i64 p.2)) g (ps.set i p):=by
 have h1:=(Blk.set_ h (i * 2) (.int .i64 p.1)).set_ (i * 2 + 1) (.int .i64 p.2)
 unfold PairBlk
 rw [← flat_set2 pair_len ps i p (.int .i64 p.1) (.int .i64 p.2) hi rfl]
 simpa using h1
theorem pairBlk_made {w:World} {g:Nat} (ns:List Ident) (ls:List Link) (hg:w.heap.size=g):PairBlk (w.alloc (.cells (madeCells #[.int .i64 0, .int .i64 0] (ls.length * 2)) 188)) g (pairRow ns ls 0):=by
 have h:=Blk.new' (w:=w) (g:=g) (t := 188) (cs:=madeCells #[.int .i64 0, .int .i64 0] (ls.length * 2)) hg
 have e:madeCells #[Value.int .i64 0,Value.int .i64 0] (ls.length * 2)=((pairRow ns ls 0).flatMap pairCells).toArray:=by
  apply Array.toList_inj.1
  have h1:(madeCells #[Value.int .i64 0,Value.int .i64 0] (ls.length * 2)).toList=List.replicate (ls.length * 2) (.int .i64 0):=by
   rw [List.eq_replicate_iff]
   refine ⟨by simp [size_madeCells],fun u hu => ?_⟩
   simp only [madeCells,Array.toList_map,List.mem_map] at hu
   obtain ⟨i,_,rfl⟩:=hu
   rcases Nat.mod_two_eq_zero_or_one i with h|h <;> simp [h]
  have h2:(pairRow ns ls 0).flatMap pairCells=List.replicate (ls.length * 2) (.int .i64 0):=by
   rw [List.eq_replicate_iff]
   refine ⟨by rw [flat_length pair_len,pairRow_len ns ls 0 omA],fun u hu => ?_⟩
   obtain ⟨p,hp,hu⟩:=List.mem_flatMap.1 hu
   simp [pairRow] at hp
   rw [hp.2] at hu
   simpa [pairCells] using hu
  rw [h1,← h2]
 unfold PairBlk
 rw [← e]
 exact h
theorem PairBlk.rest {w:World} {g B n:Nat} {ps:List (Nat × Nat)} (h:PairBlk w g ps) (hB:g<B) (m:Nat) (hn:ps.length=n):SliceIs w B pairCells 2 (if n=m then some ⟨g,0,none⟩ else some ⟨g,m * 2,none⟩) (ps.drop m):=by
 have h1:=(h.slice hB).cut (c:=n) m omA
 simpa using h1
theorem index_anyR (A:Option Addr) (c n:Nat) (ps:List (Nat × Nat)) (p:Nat × Nat) (w:World) (hl:SliceIs w w.heap.size pairCells 2 A ps) (hn:n ≤ 1000000) (hp:ps.length=n) {r:Int} (hr:pairIdx ps p=r) :
 Calls Tryz.prog 259 #[.slice A n c, .agg #[.int .i64 p.1, .int .i64 p.2]] w fun e w' =>
  e = .returned (.int .i64 r)∧Below w.heap.size w w':=by
 subst hp hr
 exact index_any A c ps p w hl hn
theorem infoEdge:(Tryz.prog.info? 319).map (fun i=>(i.zero,i.size,i.bytes))=some (some (.agg #[.int .i64 0, .int .i64 0, .int .i64 0, .int .i64 0]),4,32):=by kernel_rfl
theorem edge_len : ∀ x:Edge,(Edge.cells x).length = 4:=fun _=>rfl
theorem edge_one : ∀ x:Edge,∀ u∈Edge.cells x,u.oneCell'=true:=by
 intro x u hu
 simp only [Edge.cells,List.mem_cons,List.not_mem_nil,or_false] at hu
 rcases hu with rfl|rfl|rfl|rfl <;> rfl
theorem Owns.far {α : Type} {w:World} {base:Nat} {e:TypeId} {enc : α → List Value} {k:Nat} {v:Value} {l:List α} (h:Owns w base e enc k v l) {p:Addr} (hp : ∀ g,v.ownBlock=some g→g≠p.block) (u:Value):Owns (w.setCell p u) base e enc k v l:=by
 refine ⟨h.1,?_⟩
 rcases h.2 with h1|⟨g,cap,cur,rfl,hbs,hg,hr⟩
 ·exact .inl h1
 ·refine .inr ⟨g,cap,cur,rfl,hbs,?_,hr⟩
  rw [Below.heap_setCell w p u g (hp g rfl)]
  exact hg
theorem Owns.lt {α : Type} {w:World} {base:Nat} {e:TypeId} {enc : α → List Value} {k:Nat} {v:Value} {l:List α} (h:Owns w base e enc k v l) : ∀ g,v.ownBlock=some g→g<w.heap.size:=by
 intro g hg
 obtain ⟨A,c,rfl,_,hA⟩:=h.form
 cases A with
 | none=>simp [Value.ownBlock] at hg
 | some a =>
   have:a.block=g:=by simpa [Value.ownBlock] using hg
   rw [← this]
   exact (hA a rfl).2
theorem SliceIs.far {α : Type} {w:World} {B:Nat} {enc : α → List Value} {k:Nat} {A:Option Addr} {l:List α} (h:SliceIs w B enc k A l) {p:Addr} (hp : ∀ a,A=some a→a.block≠p.block) (u:Value):SliceIs (w.setCell p u) B enc k A l:=by
 intro hl
 obtain ⟨b,o,rfl,hB,hc⟩:=h hl
 exact ⟨b,o,rfl,hB,fun i hi j u' hu=>(World.cell?_of_block (Below.heap_setCell w p u b (hp _ rfl))).trans (hc i hi j u' hu)⟩
def GraphIs (w:World) (ls:List Link) (more:List Ident) (v:Value):Prop :=
 ∃ A c EA ec ns,v = .agg #[.slice A (ns:List Ident).length c, .slice EA (edgesOf ns ls).length ec]∧SliceIs w w.heap.size Ident.cells 4 A ns∧SliceIs w w.heap.size Edge.cells 4 EA (edgesOf ns ls)∧Names ns ls∧(∀ x∈more,x∈ns)∧ns.length≤more.length + 2*ls.length
theorem newGraph_any (A:Option Addr) (c:Nat) (ls:List Link) (b o mc:Nat) (more:List Ident) (w:World) (hl:SliceIs w w.heap.size Link.cells 10 A ls) (hv:validLinks ls=true)
 (hm:SliceIs w w.heap.size Ident.cells 4 (some ⟨b,o,none⟩) more) (hmn:more.length ≤ 1000) (hm0 : 0<more.length) (hmv:AllValid more) :
 Calls Tryz.prog 215 #[.slice A ls.length c, .slice (some ⟨b,o,none⟩) more.length mc] w fun e w' =>
  (∃ v,e = .returned v∧GraphIs w' ls more v)∧Below w.heap.size w w':=by
 obtain ⟨i0,hi0,hz0,hz1,hz2⟩:=info_parts infoIdent
 obtain ⟨i1,hi1,hy0,hy1,hy2⟩:=info_parts infoEdge
 have hn:=validLinks_len hv
 have HV:=qh hv
 have HMV:=qh hmv
 clear hv hmv
 have HL:=qh hl
 have HM:=qh hm
 clear hl hm
 go_enter Tryz.func215,Tryz.ntmps215
 go_wp2_with ((go_at_call 254;(with_reducible refine (clone_any b o mc more _ ?_ omA).mono ?_);(exact HM.out.next belA);rintro e w1 ⟨⟨v1,rfl,hown⟩,hb1⟩;have HOWN:=qh hown;clear hown))
 have hb1':Below w.heap.size w w1:=below_nextN belA hb1 leA
 have hbx:Blk w1 w.heap.size 279 #[.slice none 0 0, .slice none 0 0]:=(Blk.new _ _ _).below hb1 spA
 have HBX:=qh hbx
 clear hbx
 have hsz1:w.heap.size<w1.heap.size:=by have:=hb1.size;simp at this;omega
 go_loopw [5,22] (fun vo vi wr => ∃ m:Nat,m≤ls.length∧vi = .int .i64 m∧Owns wr (w.heap.size + 1) 105 Ident.cells 4 vo (more++endsOf (ls.take m))∧Below w.heap.size w wr∧Blk wr w.heap.size 279 #[.slice none 0 0, .slice none 0 0]∧w.heap.size<wr.heap.size) (fun _ vi _=>ls.length - (intOf vi).toNat)
 case atStart=>exact ⟨0,Nat.zero_le _,rfl,by simpa [endsOf] using HOWN.out,hb1',HBX.out,hsz1⟩
 case round =>
  obtain ⟨m,hm,rfl,hown,hbw,hbx,hsz⟩:=hrel
  have HOWN:=qh hown
  have HBX:=qh hbx
  have hrow:=hown.row
  clear hown hbx
  by_cases hlt:m<ls.length
  ·obtain ⟨b,o,rfl,hb,hc⟩:=(HL.out.below hbw).get hlt
   obtain ⟨⟨h0,h1,h2,h3⟩,⟨h4,h5,h6,h7⟩,h8,h9⟩:=Link.cells10 hc
   clear hc
   have hstep:=endsOf_succ ls m hlt
   have HST:=qh hstep
   have hel:=endsOf_len (ls.take m)
   rw [List.length_take_of_le hm] at hel
   clear hstep
   go_wp2_with ((at_builtin;go_must (refine wpList_append_list _ rfl (.tmp 26) (.tmp 31) 53 rfl 105 i0 _ Ident.cells 4 48 Tryz.underlying53 hi0 hz0 hz1 hz2 rfl omA ident_len ident_one (w.heap.size + 1) u5 (more++endsOf (ls.take m)) rfl ((HOWN.out.alloc _).alloc _) _ _ _ [ls[m].a,ls[m].b] rfl rfl (ident_two (Blk.new' spA) spA) smA mxA smA ?_);intro v' w2 hown' hg' hat';have HOWN':=qh hown';clear hown';have hbel:Below w.heap.size w w2:=Below.grown belA hg' smA (fun q e=>by have:=hrow q e;omega);have hbx2:Blk w2 w.heap.size 279 #[.slice none 0 0, .slice none 0 0]:=Blk.grown ((HBX.out.alloc _).alloc _) hg' (fun e=>by have:=hrow _ e.symm;omega);have HBX2:=qh hbx2;clear hbx2))
   go_roundw
   case rel=>exact ⟨m + 1,by omega,by go_num,by rw [HST.out,← List.append_assoc];exact HOWN'.out,hbel,HBX2.out,HBX2.out.lt⟩
   case measure=>simp [intOf];omega
  ·obtain rfl:m=ls.length:=by omega
   obtain ⟨L,hL⟩ : ∃ L,L=more++endsOf ls:=⟨_,rfl⟩
   have hown:Owns wr (w.heap.size + 1) 105 Ident.cells 4 u5 L:=by rw [hL];simpa using HOWN.out
   have hLlen:L.length=more.length + 2*ls.length:=by rw [hL,List.length_append,endsOf_len]
   obtain ⟨g,cap,rfl,hgb⟩:=hown.some_of_pos omA
   have HOWN1:=qh hown
   have HLD:=qh hL
   have HLL:=qh hLlen
   have hLn:L.length ≤ 1000000:=by omega
   clear hown hL hLlen
   obtain ⟨ip,hip,hp0,hp1,hp2⟩:=info_parts infoPair
   have hmk : ∀ u:World,(Instr.makeSlice 127 (.int .i64 (ls.length:Int)) (.int .i64 (ls.length:Int))).run Tryz.prog u = .ok (.slice (some ⟨u.heap.size,0,none⟩) ls.length ls.length) (u.alloc (.cells (madeCells #[.int .i64 0, .int .i64 0] (ls.length * 2)) 188)):=fun u=>by
    have h:=run_make_rowN (P:=Tryz.prog) 127 188 ip (.agg #[.int .i64 0, .int .i64 0]) Tryz.underlying127 hip hp0 .i64 .i64 ls.length ls.length (Nat.le_refl _) (by rw [hp2];omega) omA u
    simpa [hp1,Value.cells] using h
   clear hip hp0 hp1 hp2
   obtain ⟨n0,hn0⟩ : ∃ n0,L.length=n0:=⟨_,rfl⟩
   rw [hn0] at hLn
   have HN0:=qh hn0
   rw [hn0] at HOWN1 ⊢
   clear hn0 HOWN
   go_wp2_with (first
    | (go_at_call 255;go_must (with_reducible refine (sort_anyN (w.heap.size + 1) g cap n0 L _ HN0.out HOWN1.out hLn).mono ?_);rintro e w2 ⟨rfl,L2,hp2,hw2,hown2,hg2⟩;have HP2:=qh hp2;have HW2:=qh hw2;have HOWN2:=qh hown2;clear hp2 hw2 hown2)
    | (go_at_call 256;go_must (with_reducible refine (compact_anyN (w.heap.size + 1) g cap n0 L2 _ (HP2.out.length_eq.trans HN0.out) HOWN2.out hLn).mono ?_);rintro e w3 ⟨⟨A3,c3,ns,hns,rfl,hc3,hs3,ha3⟩,hg3⟩;have HA3:=qh ha3;clear ha3;have HS3:=qh hs3;have HNS:=qh hns;clear hs3 hns))
   have hx2:Below w.heap.size w w2:=Below.grown hbw hg2 hbw.size (fun q e=>by injection e with e;omega)
   have hx3:Below w.heap.size w w3:=Below.grown hx2 hg3 hx2.size (fun q e=>by injection e with e;omega)
   have hz3:w.heap.size<w3.heap.size:=by have:=hg2.size;have:=hg3.size;omega
   have hbx3:Blk w3 w.heap.size 279 #[.slice none 0 0, .slice none 0 0]:=(HBX.out.grown hg2 (fun e=>by injection e with e;omega)).grown hg3 (fun e=>by injection e with e;omega)
   have HBX3:=qh hbx3
   clear hbx3 HBX
   have hmem : ∀ x,x∈ns↔x∈more∨x∈endsOf ls:=by
    have hLv:AllValid L:=by
     intro x hx
     rw [HLD.out] at hx
     rcases List.mem_append.1 hx with hx|hx
     ·exact HMV.out x hx
     ·obtain ⟨y,hy,hx⟩:=List.mem_flatMap.1 hx
      have:=validLinks_mem HV.out y hy
      rcases List.mem_cons.1 hx with rfl|hx
      ·exact this.2.2.1
      ·rcases List.mem_cons.1 hx with rfl|hx
       ·exact this.2.2.2.1
       ·cases hx
    have hL2v:AllValid L2:=fun x hx=>hLv x (HP2.out.mem_iff.1 hx)
    intro x
    rw [HNS.out,dedup_mem HW2.out hL2v,HP2.out.mem_iff,HLD.out,List.mem_append]
   have hnames:Names ns ls:=by
    have hLv:AllValid L2:=by
     intro x hx
     have hx:=HP2.out.mem_iff.1 hx
     rw [HLD.out] at hx
     rcases List.mem_append.1 hx with hx|hx
     ·exact HMV.out x hx
     ·obtain ⟨y,hy,hx⟩:=List.mem_flatMap.1 hx
      have:=validLinks_mem HV.out y hy
      rcases List.mem_cons.1 hx with rfl|hx
      ·exact this.2.2.1
      ·rcases List.mem_cons.1 hx with rfl|hx
       ·exact this.2.2.2.1
       ·cases hx
    refine ⟨by rw [HNS.out];exact dedup_asc HW2.out hLv,fun x hx=>hLv x (by rw [HNS.out,dedup_mem HW2.out hLv] at hx;exact hx),fun x hx=>⟨(hmem _).2 (.inr ?_),(hmem _).2 (.inr ?_)⟩⟩
    ·exact List.mem_flatMap.2 ⟨x,hx,by simp⟩
    ·exact List.mem_flatMap.2 ⟨x,hx,by simp⟩
   have HMEM:=qh hmem
   have HNA:=qh hnames
   have hnl:ns.length≤more.length + 2*ls.length:=by
    rw [← HLL.out,← HP2.out.length_eq,HNS.out]
    exact ddTo_len _
   clear hmem hnames
   go_loopw [45] (fun vi wp => ∃ m:Nat,m≤ls.length∧vi = .int .i64 m∧PairBlk wp (w3.heap.size + 1) (pairRow ns ls m)∧Below w3.heap.size w3 wp∧Blk wp w3.heap.size 279 #[.slice A3 ns.length c3, .slice none 0 0]) (fun vi _=>ls.length - (intOf vi).toNat)
   case atStart=>exact ⟨0,Nat.zero_le _,rfl,pairBlk_made ns ls spA,by exact belA,(Blk.new _ _ _).alloc _⟩
   case round =>
    obtain ⟨m,hm,rfl,hPB,hbp,hbox⟩:=hrel
    by_cases hlt:m<ls.length
    ·obtain ⟨b',o',rfl,hb',hc⟩:=((HL.out.below hx3).below (hbp.mono omA)).get hlt
     obtain ⟨⟨h0,h1,h2,h3⟩,⟨h4,h5,h6,h7⟩,h8,h9⟩:=Link.cells10 hc
     clear hc
     have HPB:=qh hPB
     have HBO:=qh hbox
     clear hPB hbox
     go_wp2
     obtain ⟨W,hW⟩ : ∃ W:World,W=wr.alloc (.cells #[.string ls[m].a.ns, .int .i64 ls[m].a.val.kind, .int .i64 ls[m].a.val.num, .string ls[m].a.val.text, .string ls[m].b.ns, .int .i64 ls[m].b.val.kind, .int .i64 ls[m].b.val.num, .string ls[m].b.val.text, .int .i64 ls[m].seq, .bool ls[m].rev] 110):=⟨_,rfl⟩
     have hbW:Below w3.heap.size w3 W:=by rw [hW];exact hbp.alloc hbp.size _
     have hPW:PairBlk W (w3.heap.size + 1) (pairRow ns ls m):=by rw [hW];exact Blk.alloc HPB.out _
     have hBW:Blk W w3.heap.size 279 #[.slice A3 ns.length c3, .slice none 0 0]:=by rw [hW];exact Blk.alloc HBO.out _
     have hXW:Blk W wr.heap.size 110 #[.string ls[m].a.ns, .int .i64 ls[m].a.val.kind, .int .i64 ls[m].a.val.num, .string ls[m].a.val.text, .string ls[m].b.ns, .int .i64 ls[m].b.val.kind, .int .i64 ls[m].b.val.num, .string ls[m].b.val.text, .int .i64 ls[m].seq, .bool ls[m].rev]:=by rw [hW];exact Blk.new _ _ _
     have hsW:SliceIs W W.heap.size Ident.cells 4 A3 ns:=HS3.out.next hbW
     rw [← hW]
     clear hW h0 h1 h2 h3 h4 h5 h6 h7 h8 h9
     have x0:=hXW.cell 0
     have x1:=hXW.cell 1
     have x2:=hXW.cell 2
     have x3:=hXW.cell 3
     have x4:=hXW.cell 4
     have x5:=hXW.cell 5
     have x6:=hXW.cell 6
     have x7:=hXW.cell 7
     have y0:=hBW.cell 0
     have y1:=hBW.cell 1
     simp only [List.getElem?_toArray,List.getElem?_cons_zero,List.getElem?_cons_succ] at x0 x1 x2 x3 x4 x5 x6 x7 y0 y1
     have hk0:=keepQ (w:=W) wr.heap.size hXW.lt
     have hk1:=keepQ (w:=W) w3.heap.size hBW.lt
     have HPW:=qh hPW
     have HBW:=qh hBW
     have HSW:=qh hsW
     clear hPW hBW hsW hXW
     refine wp_region_bel krA krA ?_;(repeat (go_big_quiet_step ((first|(go_at_call 258;with_reducible exact bel_of (graph_index A3 c3 ns (.slice none 0 0) ls[m].a _ ⟨_,_,_,rfl⟩ (HSW.out.next (BelOf.h _)) omA HNA.out.asc))|(go_at_call 258;with_reducible exact bel_of (graph_index A3 c3 ns (.slice none 0 0) ls[m].b _ ⟨_,_,_,rfl⟩ (HSW.out.next (BelOf.h _)) omA HNA.out.asc))))));refine wpQuiet_nil ?_;intro wq hq
     clear hk0 hk1 x0 x1 x2 x3 x4 x5 x6 x7 y0 y1
     have hPq:PairBlk wq (w3.heap.size + 1) (pairRow ns ls m):=Blk.below HPW.out hq HPW.out.lt
     have hBq:Blk wq w3.heap.size 279 #[.slice A3 ns.length c3, .slice none 0 0]:=Blk.below HBW.out hq HBW.out.lt
     have hbq:Below w3.heap.size w3 wq:=below_nextN hbW hq hbW.size
     obtain ⟨cp0,hcp0⟩ : ∃ v,wq.cell? ⟨w3.heap.size + 1,m * 2,none⟩=some v:=⟨_,(hPq.cell2 (i:=m) (by rw [pairRow_len ns ls m hm];exact hlt)).1⟩
     obtain ⟨cp1,hcp1⟩ : ∃ v,wq.cell? ⟨w3.heap.size + 1,m * 2 + 1,none⟩=some v:=⟨_,(hPq.cell2 (i:=m) (by rw [pairRow_len ns ls m hm];exact hlt)).2⟩
     have hfp:=Blk.frozen hPq (m * 2)
     have hfq:=Blk.frozen hPq (m * 2 + 1)
     have HPQ:=qh hPq
     have HBQ:=qh hBq
     clear hPq hBq
     go_wp2
     go_roundw
     case rel=>exact ⟨m + 1,by omega,by go_num,by
      have h:=HPQ.out.set2 (i:=m) (by rw [pairRow_len ns ls m hm];exact hlt) (pairOf ns ls[m])
      rw [pairRow_set ns ls m hlt] at h
      have e1:(((pairOf ns ls[m]).1:Nat):Int)=min (insK ns ls[m].a:Int) (insK ns ls[m].b:Int):=by unfold pairOf;omega
      have e2:(((pairOf ns ls[m]).2:Nat):Int)=max (insK ns ls[m].a:Int) (insK ns ls[m].b:Int):=by unfold pairOf;omega
      rw [e1,e2] at h
      exact h,by exact belA,(HBQ.out.far spA _).far spA _⟩
     case measure=>simp [intOf];omega
    ·obtain rfl:m=ls.length:=by omega
     rw [pairRow_all] at hPB
     obtain ⟨wm,rfl⟩ : ∃ wm:World,wm=wr:=⟨_,rfl⟩
     have HPB:=qh hPB
     have HBO:=qh hbox
     clear hPB hbox
     go_wp2
     go_loopw [71] (fun vi wp => ∃ (m:Nat) (es:List Edge) (vE:Value),m≤ls.length∧vi = .int .i64 m∧es++edgesOf ns (ls.drop m)=edgesOf ns ls∧es.length≤m∧Owns wp (w3.heap.size + 2) 319 Edge.cells 4 vE es∧PairBlk wp (w3.heap.size + 1) (ls.map (pairOf ns))∧Below w3.heap.size w3 wp∧Blk wp w3.heap.size 279 #[.slice A3 ns.length c3,vE]) (fun vi _=>ls.length - (intOf vi).toNat)
     case atStart=>exact ⟨0,[],_,Nat.zero_le _,rfl,by simp,by simp,Owns.nil,HPB.out,hbp,HBO.out⟩
     case round =>
      obtain ⟨m,es,vE,hm,rfl,hes,hel,hown,hPB,hbp3,hbox⟩:=hrel
      have HOWN3:=qh hown
      have HPB3:=qh hPB
      have HBO3:=qh hbox
      have HES:=qh hes
      have hrow3:=hown.row
      have hz5:w3.heap.size + 1<wr.heap.size:=hPB.lt
      clear hown hPB hbox hes
      by_cases hlt:m<ls.length
      ·obtain ⟨b',o',rfl,hb',hc⟩:=((HL.out.below hx3).below (hbp3.mono omA)).get hlt
       obtain ⟨⟨h0,h1,h2,h3⟩,⟨h4,h5,h6,h7⟩,h8,h9⟩:=Link.cells10 hc
       clear hc
       cases hr:ls[m].rev
       ·rw [hr] at h9
        have HR:=qh hr
        clear hr
        go_wp2
        obtain ⟨W,hW⟩ : ∃ W:World,W=wr.alloc (.cells #[.string ls[m].a.ns, .int .i64 ls[m].a.val.kind, .int .i64 ls[m].a.val.num, .string ls[m].a.val.text, .string ls[m].b.ns, .int .i64 ls[m].b.val.kind, .int .i64 ls[m].b.val.num, .string ls[m].b.val.text, .int .i64 ls[m].seq, .bool false] 110):=⟨_,rfl⟩
        have hbW:Below w3.heap.size w3 W:=by rw [hW];exact hbp3.alloc hbp3.size _
        have hPW:PairBlk W (w3.heap.size + 1) (ls.map (pairOf ns)):=by rw [hW];exact Blk.alloc HPB3.out _
        have hBW:Blk W w3.heap.size 279 #[.slice A3 ns.length c3,vE]:=by rw [hW];exact Blk.alloc HBO3.out _
        have hOW:Owns W (w3.heap.size + 2) 319 Edge.cells 4 vE es:=by rw [hW];exact HOWN3.out.alloc _
        have x8:W.cell? ⟨wr.heap.size,8,none⟩=some (.int .i64 ls[m].seq):=by rw [hW];exact (Blk.new _ _ _).cell 8
        have hzW:wr.heap.size<W.heap.size:=by rw [hW];simp
        rw [← hW]
        clear hW h0 h1 h2 h3 h4 h5 h6 h7 h8 h9
        have hcp:=hPW.cell2 (i:=m) (by simpa using hlt)
        obtain ⟨hcp0,hcp1⟩:=hcp
        simp only [List.getElem_map] at hcp0 hcp1
        have hzp:w3.heap.size + 1<W.heap.size:=hPW.lt
        have HPW:=qh hPW
        have HBW:=qh hBW
        have HOW:=qh hOW
        clear hPW hBW hOW
        go_region
        go_wp2
        obtain ⟨V,hV⟩ : ∃ V:World,V=(W.alloc (.cells #[.int .i64 (pairOf ns ls[m]).1, .int .i64 (pairOf ns ls[m]).2, .int .i64 ls[m].seq, .int .i64 9223372036854775807] 319)).drew:=⟨_,rfl⟩
        have hbV:Below w3.heap.size w3 V:=by rw [hV];exact (hbW.alloc hbW.size _).drew
        have hPV:PairBlk V (w3.heap.size + 1) (ls.map (pairOf ns)):=by rw [hV];exact Blk.alloc HPW.out _
        have hBV:Blk V w3.heap.size 279 #[.slice A3 ns.length c3,vE]:=by rw [hV];exact Blk.alloc HBW.out _
        have hOV:Owns V (w3.heap.size + 2) 319 Edge.cells 4 vE es:=by rw [hV];exact HOW.out.alloc _
        have hEV:Blk V W.heap.size 319 #[.int .i64 (pairOf ns ls[m]).1, .int .i64 (pairOf ns ls[m]).2, .int .i64 ls[m].seq, .int .i64 9223372036854775807]:=by rw [hV];exact Blk.drew (Blk.new _ _ _)
        rw [← hV]
        clear hV x8
        have hk0:=keepQ (w:=V) (w3.heap.size + 1) hPV.lt
        have hcp:=hPV.cell2 (i:=m) (by simpa using hlt)
        clear hcp0 hcp1
        obtain ⟨hcp0,hcp1⟩:=hcp
        simp only [List.getElem_map] at hcp0 hcp1
        have HPV:=qh hPV
        have HBV:=qh hBV
        have HOV:=qh hOV
        have HEV:=qh hEV
        clear hPV hBV hOV hEV
        obtain ⟨r,hri⟩ : ∃ r:Int,pairIdx ((ls.map (pairOf ns)).drop (m + 1)) (pairOf ns ls[m])=r:=⟨_,rfl⟩
        have HRI:=qh hri
        clear hri
        refine wp_region_bel krA krA ?_;(repeat (go_big_quiet_step ((go_at_call 259;go_must (exact bel_of (index_anyR (if ls.length=m + 1 then some ⟨w3.heap.size + 1,0,none⟩ else some ⟨w3.heap.size + 1,(m + 1) * 2,none⟩) (ls.length - (m + 1)) (ls.length - (m + 1)) ((ls.map (pairOf ns)).drop (m + 1)) (pairOf ns ls[m]) _ ((HPV.out.rest (n:=ls.length) HPV.out.lt (m + 1) spA).next (BelOf.h _)) omA spA HRI.out))))));refine wpQuiet_nil ?_;intro wq hq
        clear hk0 hcp0 hcp1
        by_cases hr0 : 0≤r
        ·obtain ⟨n,rfl⟩ : ∃ n:Nat,r=n:=⟨r.toNat,by omega⟩
         obtain ⟨hn',hend⟩:=endOf_some hlt HRI.out
         have hbq:Below w3.heap.size w3 wq:=below_nextN hbV hq hbV.size
         obtain ⟨b2,o2,e2,hb2,hc2⟩:=((HL.out.below hx3).below (hbq.mono omA)).get hn'
         injection e2 with e2
         injection e2 with e3 e4
         subst e3 e4
         obtain ⟨_,_,s8,_⟩:=Link.cells10 hc2
         have hsq:=validLinks_mem HV.out ls[m + 1+n] (List.getElem_mem hn')
         obtain ⟨hsq1,hsq2,_,_,_⟩:=hsq
         have hEq:=Blk.below HEV.out hq HEV.out.lt
         have ce:=hEq.cell 3
         simp only [List.getElem?_toArray,List.getElem?_cons_zero,List.getElem?_cons_succ] at ce
         have cf:=Blk.frozen hEq 3
         have HEQ:=qh hEq
         have HEND:=qh hend
         have e0:=HEQ.out.cell 0
         have e1:=HEQ.out.cell 1
         have e2:=HEQ.out.cell 2
         have hBq:=Blk.below HBV.out hq HBV.out.lt
         have y1:=hBq.cell 1
         simp only [List.getElem?_toArray,List.getElem?_cons_zero,List.getElem?_cons_succ] at e0 e1 e2 y1
         have hzWw:w3.heap.size<W.heap.size:=by omega
         have hne1 : ¬ W.heap.size=w3.heap.size:=by omega
         have hne2 : ¬ w3.heap.size=W.heap.size:=by omega
         have HBU:Hid (Blk (wq.setCell ⟨W.heap.size,3,none⟩ (.int .i64 (ls[m + 1+n].seq - 1))) w3.heap.size 279 #[.slice A3 ns.length c3,vE]):=hBq.far smA _
         have HOU:Hid (Owns (wq.setCell ⟨W.heap.size,3,none⟩ (.int .i64 (ls[m + 1+n].seq - 1))) (w3.heap.size + 2) 319 Edge.cells 4 vE es):=(HOV.out.below hq (Nat.le_refl _)).far (fun g e=>by have:=HOW.out.lt g e;simp;omega) _
         have HPU:Hid (PairBlk (wq.setCell ⟨W.heap.size,3,none⟩ (.int .i64 (ls[m + 1+n].seq - 1))) (w3.heap.size + 1) (ls.map (pairOf ns))):=Blk.far (Blk.below HPV.out hq HPV.out.lt) smA _
         have hzq:=hbq.size
         have hzq2:=Blk.lt HPU.out
         simp only [World.size_setCell] at hzq2
         clear hc2 hEq hend hBq
         go_wp2_with (at_builtin;go_must (refine wpList_append_list _ rfl (.tmp 113) (.tmp 115) 277 rfl 319 i1 _ Edge.cells 4 32 Tryz.underlying277 hi1 hy0 hy1 hy2 rfl omA edge_len edge_one (w3.heap.size + 2) vE es rfl (HOU.out.alloc _) _ _ _ [⟨(pairOf ns ls[m]).1,(pairOf ns ls[m]).2,ls[m].seq,(ls[m + 1+n].seq - 1)⟩] rfl rfl (Blk.one (enc:=Edge.cells) (x:=⟨(pairOf ns ls[m]).1,(pairOf ns ls[m]).2,ls[m].seq,(ls[m + 1+n].seq - 1)⟩) (Blk.new' spA) spA) smA mxA smA ?_);intro v' w5 hown' hg' hat';obtain ⟨A5,c5,rfl,hc5,_⟩:=hown'.form;have HOWN':=qh hown';clear hown';have hbel:Below w3.heap.size w3 w5:=Below.grown belA hg' smA (fun q e=>by have:=hrow3 q e;omega);have hbx5:Blk w5 w3.heap.size 279 #[.slice A3 ns.length c3,vE]:=Blk.grown (HBU.out.alloc _) hg' (fun e=>by have:=hrow3 _ e.symm;omega);have hpx5:PairBlk w5 (w3.heap.size + 1) (ls.map (pairOf ns)):=Blk.grown (Blk.alloc HPU.out _) hg' (fun e=>by have:=hrow3 _ e.symm;omega);have cb5:=hbx5.cell 1;have fb5:=hbx5.frozen 1;simp only [List.getElem?_toArray,List.getElem?_cons_zero,List.getElem?_cons_succ] at cb5;have HBX5:=qh hbx5;have HPX5:=qh hpx5;clear hbx5 hpx5)
         go_roundw
         case rel=>exact ⟨m + 1,_,_,by omega,by go_num,by rw [← HES.out,edgesOf_not hlt HR.out,edgeOf,HEND.out];simp,by simp;omega,HOWN'.out.far (fun g e=>by have:=HOWN'.out.row g e;simp;omega) _,Blk.far HPX5.out spA _,hbel.setCell spA _,by simpa using HBX5.out.set_ 1 _⟩
         case measure=>simp [intOf];omega
        ·have hend:=endOf_none hlt (by rw [HRI.out];omega)
         have hbq:Below w3.heap.size w3 wq:=below_nextN hbV hq hbV.size
         have HEND:=qh hend
         have hEq:=Blk.below HEV.out hq HEV.out.lt
         have hBq:=Blk.below HBV.out hq HBV.out.lt
         have e0:=hEq.cell 0
         have e1:=hEq.cell 1
         have e2:=hEq.cell 2
         have e3:=hEq.cell 3
         have y1:=hBq.cell 1
         simp only [List.getElem?_toArray,List.getElem?_cons_zero,List.getElem?_cons_succ] at e0 e1 e2 e3 y1
         have HBU:=qh hBq
         have HOU:=qh (HOV.out.below hq (Nat.le_refl _))
         have HPU:Hid (PairBlk wq (w3.heap.size + 1) (ls.map (pairOf ns))):=Blk.below HPV.out hq HPV.out.lt
         have hzq:=hbq.size
         have hzq2:=Blk.lt HPU.out
         clear hEq hBq hend
         go_wp2_with (at_builtin;go_must (refine wpList_append_list _ rfl (.tmp 113) (.tmp 115) 277 rfl 319 i1 _ Edge.cells 4 32 Tryz.underlying277 hi1 hy0 hy1 hy2 rfl omA edge_len edge_one (w3.heap.size + 2) vE es rfl (HOU.out.alloc _) _ _ _ [⟨(pairOf ns ls[m]).1,(pairOf ns ls[m]).2,ls[m].seq,9223372036854775807⟩] rfl rfl (Blk.one (enc:=Edge.cells) (x:=⟨(pairOf ns ls[m]).1,(pairOf ns ls[m]).2,ls[m].seq,9223372036854775807⟩) (Blk.new' spA) spA) smA mxA smA ?_);intro v' w5 hown' hg' hat';obtain ⟨A5,c5,rfl,hc5,_⟩:=hown'.form;have HOWN':=qh hown';clear hown';have hbel:Below w3.heap.size w3 w5:=Below.grown belA hg' smA (fun q e=>by have:=hrow3 q e;omega);have hbx5:Blk w5 w3.heap.size 279 #[.slice A3 ns.length c3,vE]:=Blk.grown (HBU.out.alloc _) hg' (fun e=>by have:=hrow3 _ e.symm;omega);have hpx5:PairBlk w5 (w3.heap.size + 1) (ls.map (pairOf ns)):=Blk.grown (Blk.alloc HPU.out _) hg' (fun e=>by have:=hrow3 _ e.symm;omega);have cb5:=hbx5.cell 1;have fb5:=hbx5.frozen 1;simp only [List.getElem?_toArray,List.getElem?_cons_zero,List.getElem?_cons_succ] at cb5;have HBX5:=qh hbx5;have HPX5:=qh hpx5;clear hbx5 hpx5)
         go_roundw
         case rel=>exact ⟨m + 1,_,_,by omega,by go_num,by rw [← HES.out,edgesOf_not hlt HR.out,edgeOf,HEND.out];simp,by simp;omega,HOWN'.out.far (fun g e=>by have:=HOWN'.out.row g e;simp;omega) _,Blk.far HPX5.out spA _,hbel.setCell spA _,by simpa using HBX5.out.set_ 1 _⟩
         case measure=>simp [intOf];omega
       ·rw [hr] at h9
        have HR:=qh hr
        clear hr
        go_wp2
        go_roundw
        case rel=>exact ⟨m + 1,es,vE,by omega,by go_num,by rw [← HES.out,edgesOf_rev hlt HR.out],by omega,HOWN3.out.alloc _,Blk.alloc HPB3.out _,by exact belA,HBO3.out.alloc _⟩
        case measure=>simp [intOf];omega
      ·obtain rfl:m=ls.length:=by omega
       have hesE:es=edgesOf ns ls:=by have:=HES.out;simpa [edgesOf] using this
       subst hesE
       obtain ⟨EA,ec,rfl,_,hsE,hEA⟩:=HOWN3.out.slice edge_len
       have y0:=HBO3.out.cell 0
       have y1:=HBO3.out.cell 1
       simp only [List.getElem?_toArray,List.getElem?_cons_zero,List.getElem?_cons_succ] at y0 y1
       have hr4:Blk wr w.heap.size 279 #[.slice none 0 0, .slice none 0 0]:=HBX3.out.below hbp3 hz3
       have z0:=hr4.cell 0
       have z1:=hr4.cell 1
       have f0:=hr4.frozen 0
       have f1:=hr4.frozen 1
       simp only [List.getElem?_toArray,List.getElem?_cons_zero,List.getElem?_cons_succ] at z0 z1
       have HSE:=qh hsE
       have HEA:=qh hEA
       clear hsE hEA hr4
       go_wp2
       refine bodyPost_ret (v := .agg #[.slice A3 ns.length c3, .slice EA (edgesOf ns ls).length ec]) (by simp [results,Tryz.results215,go_sem,z0,z1]) rfl ⟨⟨_,rfl,A3,c3,EA,ec,ns,rfl,?_,?_,HNA.out,fun x hx=>(HMEM.out x).2 (.inl hx),hnl⟩,?_⟩
       ·have h:=HS3.out.next hbp3
        have hA:=HA3.out
        have h2:=(h.far (p:=⟨w.heap.size,0,none⟩) (fun a e=>by have:=hA a e;simp;omega) (.slice A3 ns.length c3)).far (p:=⟨w.heap.size,1,none⟩) (fun a e=>by have:=hA a e;simp;omega) (.slice EA (edgesOf ns ls).length ec)
        simpa using h2
       ·have hA:=HEA.out
        have h2:=(HSE.out.far (p:=⟨w.heap.size,0,none⟩) (fun a e=>by have:=hA a e;simp;omega) (.slice A3 ns.length c3)).far (p:=⟨w.heap.size,1,none⟩) (fun a e=>by have:=hA a e;simp;omega) (.slice EA (edgesOf ns ls).length ec)
        simpa using h2
       ·have:=hx3.trans (hbp3.mono hx3.size)
        exact belA
theorem identity_ValidR {A:Option Addr} {c:Nat} {l:List Link} {w:World} (hl:SliceIs w w.heap.size Link.cells 10 A l) (hn:l.length ≤ 1000000) (hs:Sane l) {r:Bool} (hr:validLinks l=r) :
 Calls Tryz.prog 96 #[.slice A l.length c] w fun e w'=>e = .returned (.bool r)∧Below w.heap.size w w':=by
 subst hr
 exact identity_Valid A c l w hl hn hs
theorem newGraph_anyN (A:Option Addr) (c:Nat) (ls:List Link) (b o mc n:Nat) (more:List Ident) (w:World) (hl:SliceIs w w.heap.size Link.cells 10 A ls) (hv:validLinks ls=true)
 (hm:SliceIs w w.heap.size Ident.cells 4 (some ⟨b,o,none⟩) more) (hmn:more.length=n) (h1 : 0<n) (h2:n ≤ 1000) (hmv:AllValid more) :
 Calls Tryz.prog 215 #[.slice A ls.length c, .slice (some ⟨b,o,none⟩) n mc] w fun e w' =>
  (∃ v,e = .returned v∧GraphIs w' ls more v)∧Below w.heap.size w w':=by
 subst hmn
 exact newGraph_any A c ls b o mc more w hl hv hm h2 h1 hmv
theorem infoBool:(Tryz.prog.info? 4).map (fun i=>(i.zero,i.size,i.bytes))=some (some (.bool false),1,1):=by kernel_rfl
theorem mkBools (n:Nat) (hn:n ≤ 1000000) : ∀ u:World,(Instr.makeSlice 281 (.int .i64 (n:Int)) (.int .i64 (n:Int))).run Tryz.prog u = .ok (.slice (some ⟨u.heap.size,0,none⟩) n n) (u.alloc (.cells (madeCells #[.bool false] n) 4)):=fun u=>by
 obtain ⟨i0,hi0,hz0,hz1,hz2⟩:=info_parts infoBool
 have h:=run_make_rowN (P:=Tryz.prog) 281 4 i0 (.bool false) Tryz.underlying281 hi0 hz0 .i64 .i64 n n (Nat.le_refl _) (by rw [hz2];omega) omA u
 simpa [hz1,Value.cells] using h
theorem boolBlk_made {w:World} {g n:Nat} (hg:w.heap.size=g):BoolBlk (w.alloc (.cells (madeCells #[.bool false] n) 4)) g (List.replicate n false):=by
 have h:=Blk.new' (w:=w) (g:=g) (t := 4) (cs:=madeCells #[.bool false] n) hg
 unfold BoolBlk
 have e:madeCells #[Value.bool false] n=(List.map Value.bool (List.replicate n false)).toArray:=by
  apply Array.toList_inj.1
  rw [toList_madeCells_one]
  simp
 rw [← e]
 exact h
theorem marks_list {ns:List Ident} (ha:Asc ns) {bs:List Bool} (hl:bs.length=ns.length) {P:Ident→Prop} (hP : ∀ y,P y→y∈ns) (hm : ∀ i (h:i<ns.length),bs[i]? = some true↔P ns[i]) :
 Asc (keepTo ns bs ns.length) ∧ ∀ y,y∈keepTo ns bs ns.length↔P y:=by
 refine ⟨List.Pairwise.sublist (keepTo_sub ns bs ns.length) ha,fun y => ?_⟩
 rw [keepTo_mem ns bs y hl.symm]
 constructor
 ·rintro ⟨i,h1,h2⟩
  obtain ⟨hi,e⟩:=List.getElem?_eq_some_iff.1 h1
  rw [← e]
  exact (hm i hi).1 h2
 ·intro h
  obtain ⟨i,hi,e⟩:=List.getElem_of_mem (hP y h)
  exact ⟨i,by rw [List.getElem?_eq_getElem hi,e],(hm i hi).2 (by rw [e];exact h)⟩
theorem reach_names {ns:List Ident} {ls:List Link} (hn:Names ns ls) {x y:Ident} {s:Int} (hx:x∈ns) (h:Reach ls s x y):y∈ns:=by
 cases h with
 | refl=>exact hx
 | step _ e =>
   obtain ⟨j,hj,_,h⟩:=e
   have:=hn.ends ls[j] (List.getElem_mem hj)
   rcases h with ⟨_,h⟩|⟨_,h⟩
   ·rw [← h];exact this.2
   ·rw [← h];exact this.1
theorem idle_Subject (w:World):CallsD Tryz.prog 214 #[] .returning w fun e u' w'=>e = .returned (.tuple #[])∧u' = .returning∧w'=w:=by
 refine callsD_of_wpS Tryz.func214 rfl fun c₀ cs hu => ?_
 apply wpS_region
 cases c₀
 simp_all [wpOpsS,go_sem,recoverD,Tryz.ntmps214,bodyPostS,results,Tryz.results214]
def SMarks (l:List Link) (x:Ident) (seq:Int) (ns:List Ident) (bs:List Bool) (m:Nat):Prop :=
 bs.length=ns.length ∧ ∀ i (h:i<ns.length),bs[i]? = some true↔(Reach l seq x ns[i] ∨ ∃ y∈l.take m,seq<y.seq∧Reach l y.seq x ns[i])
theorem SMarks.start {l:List Link} {x:Ident} {seq:Int} {ns:List Ident} {bs:List Bool} (hn:Names ns l) (hv:validLinks l=true) (hx:x∈ns) (hs:seq ≤ 9223372036854775807)
 (h:Marked (List.replicate ns.length false) bs (fun i=>Conn (inForce (edgesOf ns l) seq) (insK ns x) i) ns.length):SMarks l x seq ns bs 0:=by
 refine ⟨by simpa using h.1,fun i hi => ?_⟩
 rw [h.2 i (by simpa using hi),← conn_reach hn (validLinks_asc hv) hs hx hi]
 constructor
 ·rintro (h|h)
  ·rw [List.getElem?_replicate,if_pos hi] at h;cases h
  ·exact .inl h.2
 ·rintro (h|⟨y,hy,_⟩)
  ·exact .inr ⟨hi,h⟩
  ·simp at hy
theorem SMarks.skip {l:List Link} {x:Ident} {seq:Int} {ns:List Ident} {bs:List Bool} {m:Nat} (h:SMarks l x seq ns bs m) (hm:m<l.length) (hs : ¬ seq<l[m].seq):SMarks l x seq ns bs (m + 1):=by
 refine ⟨h.1,fun i hi => ?_⟩
 rw [h.2 i hi,List.take_succ_eq_append_getElem hm]
 constructor
 ·rintro (h|⟨y,hy,h⟩)
  ·exact .inl h
  ·exact .inr ⟨y,List.mem_append_left _ hy,h⟩
 ·rintro (h|⟨y,hy,h⟩)
  ·exact .inl h
  ·rcases List.mem_append.1 hy with hy|hy
   ·exact .inr ⟨y,hy,h⟩
   ·simp at hy;subst hy;exact absurd h.1 hs
theorem SMarks.more {l:List Link} {x:Ident} {seq:Int} {ns:List Ident} {bs bs':List Bool} {m:Nat} (h:SMarks l x seq ns bs m) (hn:Names ns l) (hv:validLinks l=true) (hx:x∈ns) (hm:m<l.length) (hs:seq<l[m].seq)
 (hk:Marked bs bs' (fun i=>Conn (inForce (edgesOf ns l) l[m].seq) (insK ns x) i) ns.length):SMarks l x seq ns bs' (m + 1):=by
 have hq:l[m].seq ≤ 9223372036854775807:=by have:=(validLinks_mem hv l[m] (List.getElem_mem hm)).2.1;omega
 refine ⟨hk.1.trans h.1,fun i hi => ?_⟩
 rw [hk.2 i (by rw [h.1];exact hi),h.2 i hi]
 simp only [conn_reach hn (validLinks_asc hv) hq hx hi]
 rw [List.take_succ_eq_append_getElem hm]
 constructor
 ·rintro ((h|⟨y,hy,h⟩)|h)
  ·exact .inl h
  ·exact .inr ⟨y,List.mem_append_left _ hy,h⟩
  ·exact .inr ⟨l[m],List.mem_append_right _ spA,hs,h.2⟩
 ·rintro (h|⟨y,hy,h⟩)
  ·exact .inl (.inl h)
  ·rcases List.mem_append.1 hy with hy|hy
   ·exact .inl (.inr ⟨y,hy,h⟩)
   ·simp at hy;subst hy;exact .inr ⟨hi,h.2⟩
theorem SMarks.fin {l:List Link} {x:Ident} {seq:Int} {ns:List Ident} {bs:List Bool} (h:SMarks l x seq ns bs l.length) (hn:Names ns l) (hx:x∈ns):IsSubject l x seq (keepTo ns bs ns.length):=by
 refine marks_list hn.asc h.1 (fun y hy => ?_) fun i hi => ?_
 ·rcases hy with hy|⟨z,_,_,hy⟩
  ·exact reach_names hn hx hy
  ·exact reach_names hn hx hy
 ·rw [h.2 i hi,List.take_length]
  rfl
theorem identity_SubjectF (A:Option Addr) (c:Nat) (l:List Link) (x:Ident) (seq:Int) (w:World) (hl:SliceIs w w.heap.size Link.cells 10 A l) (hn:l.length ≤ 1000000) (hs:Sane l) (hs':x.ns.size ≤ 1000000) (hseq:seq ≤ 9223372036854775807) :
 Calls Tryz.prog 151 #[.slice A l.length c, .agg #[.string x.ns, .int .i64 x.val.kind, .int .i64 x.val.num, .string x.val.text], .int .i64 seq] w fun e w' =>
  (∃ out A' c',SubjectOut l x seq out∧e = .returned (.slice A' out.length c')∧out.length≤c'∧SliceIs w' w'.heap.size Ident.cells 4 A' out∧(∀ a,A'=some a→w.heap.size≤a.block))∧Below w.heap.size w w':=by
 have HS:=qh hs
 have HL:=qh hl
 have HQ:=qh hseq
 clear hs hl hseq
 cases hv:validLinks l
 ·have HV:=qh hv
  clear hv
  go_enter_defers Tryz.func151,Tryz.ntmps151
  go_wp2_with (go_at_call 96;go_must (with_reducible refine (identity_ValidR (A:=A) (c:=c) (l:=l) ?_ hn HS.out HV.out).mono ?_);(exact HL.out.next belA);rintro e w1 ⟨rfl,hb1⟩;obtain ⟨c0,f0,z0⟩:=keepB hb1 w.heap.size ltA;have hx1:Below w.heap.size w w1:=below_nextN belA hb1 leA)
  refine leaves_cons (f := 214) (args := #[]) spA (by simp [go_sem]) ?_;refine (idle_Subject _).mono ?_;rintro e u' w'' ⟨rfl,rfl,rfl⟩;refine ⟨_,results_tmp rfl _ _ _,?_⟩
  exact ⟨⟨[],none,0,by unfold SubjectOut;rw [HV.out];rfl,rfl,by simp,SliceIs.nil,fun a h=>by cases h⟩,hx1⟩
 ·have HV:=qh hv
  clear hv
  cases hw:validId x
  ·have HW:=qh hw
   clear hw
   go_enter_defers Tryz.func151,Tryz.ntmps151
   go_wp2_with (first|(go_at_call 96;go_must (with_reducible refine (identity_ValidR (A:=A) (c:=c) (l:=l) ?_ hn HS.out HV.out).mono ?_);(exact HL.out.next belA);rintro e w1 ⟨rfl,hb1⟩;obtain ⟨c0,f0,z0⟩:=keepB hb1 w.heap.size ltA;have hx1:Below w.heap.size w w1:=below_nextN belA hb1 leA)|(go_at_call 147;go_must (with_reducible refine (identity_ValidId x _ hs' HW.out).mono ?_);rintro e w2 ⟨rfl,hb2⟩;obtain ⟨c1,f1,z1⟩:=keepE hb2 w.heap.size ltA;have hx2:Below w.heap.size w w2:=below_nextN hx1 hb2.1 hx1.size;have hsz2:=hx2.size))
   refine leaves_cons (f := 214) (args := #[]) spA (by simp [go_sem]) ?_;refine (idle_Subject _).mono ?_;rintro e u' w'' ⟨rfl,rfl,rfl⟩;refine ⟨_,results_tmp rfl _ _ _,?_⟩
   exact ⟨⟨[],none,0,by unfold SubjectOut;rw [HV.out,HW.out];rfl,rfl,by simp,SliceIs.nil,fun a h=>by cases h⟩,hx2⟩
  ·have HW:=qh hw
   clear hw
   go_enter_defers Tryz.func151,Tryz.ntmps151
   go_wp2_with (first|(go_at_call 96;go_must (with_reducible refine (identity_ValidR (A:=A) (c:=c) (l:=l) ?_ hn HS.out HV.out).mono ?_);(exact HL.out.next belA);rintro e w1 ⟨rfl,hb1⟩;obtain ⟨c0,f0,z0⟩:=keepB hb1 w.heap.size ltA;have hx1:Below w.heap.size w w1:=below_nextN belA hb1 leA)|(go_at_call 147;go_must (with_reducible refine (identity_ValidId x _ hs' HW.out).mono ?_);rintro e w2 ⟨rfl,hb2⟩;obtain ⟨c1,f1,z1⟩:=keepE hb2 w.heap.size ltA;have hx2:Below w.heap.size w w2:=below_nextN hx1 hb2.1 hx1.size;have hsz2:=hx2.size)|(go_at_call 215;go_must (refine (newGraph_anyN A c l w2.heap.size 0 1 1 [x] _ ?_ HV.out ?_ rfl omA omA ?_).mono ?_);(exact HL.out.next belA);(exact Blk.one (Blk.new' rfl) spA);(exact fun y hy=>by simp at hy;subst hy;exact HW.out);rintro e w3 ⟨⟨v3,rfl,A3,c3,EA,ec,ns,rfl,hs3,hsE,hna,hmore,hnl⟩,hb3⟩;obtain ⟨c2,f2,z2⟩:=keepB hb3 w.heap.size ltA;have hx3:Below w.heap.size w w3:=below_nextN belA hb3 leA;have hsz3:=hx3.size;have hzx3:w.heap.size<w3.heap.size:=ltA;have hnl':ns.length ≤ 1000000:=(by have:=validLinks_len HV.out;simp at hnl;omega);have hmk:=mkBools ns.length hnl';have HS3:=qh hs3;have HSE:=qh hsE;have HNA:=qh hna;have HMO:=qh (hmore x spA);clear hs3 hsE hna hmore hnl)|(go_at_call 216;go_must (refine (graph_choose A3 c3 ns EA ec (edgesOf ns l) (w3.heap.size + 1) ns.length (List.replicate ns.length false) x seq _ ?_ hnl' HNA.out.asc (insK_mem HNA.out.asc HNA.out.valid HMO.out).1 ?_ ?_ (edgesOf_range HNA.out.asc HNA.out.valid HNA.out.ends) ?_ spA).mono ?_);(exact HS3.out.next belA);(exact HSE.out.next belA);(have:=edgesOf_len ns l;omega);(exact boolBlk_made spA);rintro e w5 ⟨rfl,bs,hmk5,hbb5,hg5⟩;have hbel5:Below w3.heap.size w3 w5:=Below.grown belA hg5 smA (fun q e=>by injection e with e;omega);have hbx5:Blk w5 w3.heap.size 279 #[.slice A3 ns.length c3, .slice EA (edgesOf ns l).length ec]:=Blk.grown ((Blk.new _ _ _).alloc _) hg5 (fun e=>by injection e with e;omega);have y0:=hbx5.cell 0;have y1:=hbx5.cell 1;simp only [List.getElem?_toArray,List.getElem?_cons_zero,List.getElem?_cons_succ] at y0 y1;have HMK:=qh hmk5;have HBB:=qh hbb5;have HBX:=qh hbx5;clear hmk5 hbb5 hbx5))
   go_loopw [34] (fun vi wr => ∃ (m:Nat) (bs:List Bool),m≤l.length∧vi = .int .i64 m∧BoolBlk wr (w3.heap.size + 1) bs∧SMarks l x seq ns bs m∧Below w3.heap.size w3 wr∧Blk wr w3.heap.size 279 #[.slice A3 ns.length c3, .slice EA (edgesOf ns l).length ec]) (fun vi _=>l.length - (intOf vi).toNat)
   case atStart=>exact ⟨0,bs,Nat.zero_le _,rfl,HBB.out,SMarks.start HNA.out HV.out HMO.out HQ.out HMK.out,hbel5,HBX.out⟩
   case round =>
    clear y0 y1
    obtain ⟨m,bs2,hm,rfl,hB,hsm,hbw,hbox⟩:=hrel
    have hkx : ∀ o,wr.cell? ⟨w.heap.size,o,none⟩=w3.cell? ⟨w.heap.size,o,none⟩:=fun o=>hbw.cell (p:=⟨w.heap.size,o,none⟩) hzx3
    have y0:=hbox.cell 0
    have y1:=hbox.cell 1
    simp only [List.getElem?_toArray,List.getElem?_cons_zero,List.getElem?_cons_succ] at y0 y1
    have hzr:=Blk.lt hB
    have hzr2:w3.heap.size<wr.heap.size:=by omega
    have hzr3:w.heap.size<wr.heap.size:=by omega
    have HB:=qh hB
    have HSM:=qh hsm
    have HBO:=qh hbox
    clear hB hsm hbox
    by_cases hlt:m<l.length
    ·obtain ⟨b,o,rfl,hb,hc⟩:=((HL.out.below hx3).below (hbw.mono omA)).get hlt
     obtain ⟨⟨h0,h1,h2,h3⟩,⟨h4,h5,h6,h7⟩,h8,h9⟩:=Link.cells10 hc
     clear hc
     by_cases hsq:seq<l[m].seq
     ·go_wp2_with (go_at_call 216;go_must (refine (graph_choose A3 c3 ns EA ec (edgesOf ns l) (w3.heap.size + 1) ns.length bs2 x l[m].seq _ ?_ hnl' HNA.out.asc (insK_mem HNA.out.asc HNA.out.valid HMO.out).1 ?_ ?_ (edgesOf_range HNA.out.asc HNA.out.valid HNA.out.ends) ?_ HSM.out.1).mono ?_);(exact HS3.out.next belA);(exact HSE.out.next belA);(have:=edgesOf_len ns l;omega);(exact Blk.alloc HB.out _);rintro e w6 ⟨rfl,bs6,hmk6,hbb6,hg6⟩;have HMK6:=qh hmk6;have HBB6:=qh hbb6;clear hmk6 hbb6)
      go_roundw
      case rel=>exact ⟨m + 1,bs6,by omega,by go_num,HBB6.out,HSM.out.more HNA.out HV.out HMO.out hlt hsq HMK6.out,Below.grown belA hg6 smA (fun q e=>by injection e with e;omega),Blk.grown (HBO.out.alloc _) hg6 (fun e=>by injection e with e;omega)⟩
      case measure=>simp [intOf];omega
     ·go_wp2
      go_roundw
      case rel=>exact ⟨m + 1,bs2,by omega,by go_num,Blk.alloc HB.out _,HSM.out.skip hlt hsq,by exact belA,HBO.out.alloc _⟩
      case measure=>simp [intOf];omega
    ·obtain rfl:m=l.length:=by omega
     go_wp2_with (go_at_call 217;go_must (refine (graph_listF A3 c3 ns EA (edgesOf ns l).length ec (w3.heap.size + 1) ns.length bs2 _ ?_ hnl' ?_ ?_).mono ?_);(exact HS3.out.next hbw);(exact HB.out);(exact HSM.out.1);rintro e w6 ⟨⟨A6,c6,rfl,hc6,hs6,hA6⟩,hb6⟩;have hx6:Below w.heap.size w w6:=below_nextN (hx3.trans (hbw.mono hsz3)) hb6 (by have:=hbw.size;omega))
     refine leaves_cons (f := 214) (args := #[]) spA (by simp [go_sem]) ?_;refine (idle_Subject _).mono ?_;rintro e u' w'' ⟨rfl,rfl,rfl⟩;refine ⟨_,results_tmp rfl _ _ _,?_⟩
     exact ⟨⟨_,A6,c6,by unfold SubjectOut;rw [HV.out,HW.out];exact HSM.out.fin HNA.out HMO.out,rfl,hc6,hs6,fun a h=>by have:=hA6 a h;have:=(hx3.trans (hbw.mono hsz3)).size;omega⟩,hx6⟩
structure RootOf (w:World) (g:Nat) (f:List Nat) where
 u:World
 h:IntBlk w g f → ∃ f',IntBlk u g f'∧SameRoots f f'
 k:w.grownBy u (some g)
theorem grown_refl (w:World) (row:Option Nat):w.grownBy w row:=⟨rfl,rfl,rfl,Nat.le_refl _,fun _ _ _=>rfl⟩
instance (w:World) (g:Nat) (f:List Nat):Inhabited (RootOf w g f):=⟨⟨w,fun h=>⟨f,h,SameRoots.refl f⟩,grown_refl w _⟩⟩
theorem Blk.list {α : Type} {w:World} {g B:Nat} {t:TypeId} {enc : α → List Value} {k:Nat} {l:List α} (hk : ∀ x,(enc x).length=k) (h:Blk w g t (l.flatMap enc).toArray) (hB:g<B):SliceIs w B enc k (some ⟨g,0,none⟩) l:=fun _ =>
 ⟨g,0,rfl,hB,fun i hi j u hu=>by
  have h0:=flat_get hk l i hi j u hu
  rw [Blk.cell h,Nat.zero_add]
  simpa using h0⟩
theorem link_len : ∀ x:Link,(Link.cells x).length = 10:=fun _=>rfl
theorem infoLink:(Tryz.prog.info? 110).map (fun i=>(i.zero,i.size,i.bytes))=some (some (.agg #[.string ⟨#[]⟩, .int .i64 0, .int .i64 0, .string ⟨#[]⟩, .string ⟨#[]⟩, .int .i64 0, .int .i64 0, .string ⟨#[]⟩, .int .i64 0, .bool false]),10,112):=by kernel_rfl
theorem link_one : ∀ x:Link,∀ u∈Link.cells x,u.oneCell'=true:=by
 intro x u hu
 simp only [Link.cells,List.mem_cons,List.not_mem_nil,or_false] at hu
 rcases hu with rfl|rfl|rfl|rfl|rfl|rfl|rfl|rfl|rfl|rfl <;> rfl
structure IsTape (w:World) (g b:Nat):Prop where
 ne:b≠g
 lt:b<w.heap.size
 is : ∃ (n c at_:Nat) (zs:List Int),Blk w g 74 #[.slice (some ⟨b,0,none⟩) n c, .int .i64 at_]∧n ≤ 20000000000000∧at_ ≤ 4*n∧zs.length=n ∧ ∀ i (h:i<zs.length),w.cell? ⟨b,i,none⟩=some (.int .i64 zs[i])
theorem IsTape.ltg {w:World} {g b:Nat} (h:IsTape w g b):g<w.heap.size:=by
 obtain ⟨_,_,_,_,hB,_⟩:=h.is
 exact hB.lt
theorem IsTape.below {w w':World} {g b:Nat} (h:IsTape w g b) (hb:Below w.heap.size w w'):IsTape w' g b:=by
 obtain ⟨n,c,a,zs,hB,h1,h2,h3,h4⟩:=h.is
 exact ⟨h.ne,Nat.lt_of_lt_of_le h.lt hb.size,n,c,a,zs,hB.below hb hB.lt,h1,h2,h3,fun i hi=>(hb.cell (p:=⟨b,i,none⟩) h.lt).trans (h4 i hi)⟩
theorem IsTape.grown {w w':World} {g b r:Nat} (h:IsTape w g b) (hb:w.grownBy w' (some r)) (hg:r≠g) (hr:r≠b):IsTape w' g b:=by
 obtain ⟨n,c,a,zs,hB,h1,h2,h3,h4⟩:=h.is
 exact ⟨h.ne,Nat.lt_of_lt_of_le h.lt hb.size,n,c,a,zs,hB.grown hb (fun e=>by injection e with e;exact hg e.symm),h1,h2,h3,fun i hi=>(World.cell?_of_block (hb.block b h.lt (fun e=>by injection e with e;exact hr e.symm))).trans (h4 i hi)⟩
theorem SliceIs.grown {α : Type} {w w':World} {enc : α → List Value} {k:Nat} {A:Option Addr} {l:List α} {row:Option Nat} (h:SliceIs w w.heap.size enc k A l) (hg:w.grownBy w' row) (hA : ∀ a,A=some a→some a.block≠row):SliceIs w' w'.heap.size enc k A l:=by
 intro hl
 obtain ⟨b,o,rfl,hB,hc⟩:=h hl
 exact ⟨b,o,rfl,Nat.lt_of_lt_of_le hB hg.size,fun i hi j u hu=>(World.cell?_of_block (hg.block b hB (hA _ rfl))).trans (hc i hi j u hu)⟩
def intCells (x:Int):List Value := [.int .i64 x]
theorem int_len : ∀ x:Int,(intCells x).length = 1:=fun _=>rfl
theorem int_one : ∀ x:Int,∀ u∈intCells x,u.oneCell'=true:=by
 intro x u hu
 simp only [intCells,List.mem_singleton] at hu
 subst hu
 rfl
theorem infoIntT:(Tryz.prog.info? 3).map (fun i=>(i.zero,i.size,i.bytes))=some (some (.int .i64 0),1,8):=by kernel_rfl
theorem Owns.some_form {α : Type} {w:World} {base:Nat} {e:TypeId} {enc : α → List Value} {k:Nat} {v:Value} {l:List α} (h:Owns w base e enc k v l) {q:Nat} (hv:v.ownBlock=some q) : ∃ g cap,v = .slice (some ⟨g,0,none⟩) l.length cap∧base≤g:=by
 rcases h.2 with ⟨rfl,_⟩|⟨g,cap,cur,rfl,hb,_⟩
 ·simp [Value.ownBlock] at hv
 ·exact ⟨g,cap,rfl,hb⟩
theorem tape_New (A:Option Addr) (c:Nat) (l:List Int) (w:World) (hl:SliceIs w w.heap.size intCells 1 A l) (hn:l.length * 8 ≤ 140737488351232) :
 Calls Tryz.prog 8 #[.slice A l.length c] w fun e w' =>
  (∃ g b,e = .returned (.pointer (some ⟨g,0,none⟩))∧w.heap.size≤g∧w.heap.size≤b∧IsTape w' g b)∧Below w.heap.size w w':=by
 obtain ⟨i0,hi0,hz0,hz1,hz2⟩:=info_parts infoIntT
 go_enter Tryz.func8,Tryz.ntmps8
 go_wp2_with ((at_builtin;go_must (refine wpList_append_list _ rfl (.tmp 3) (.tmp 4) 22 rfl 3 i0 _ intCells 1 8 Tryz.underlying22 hi0 hz0 hz1 hz2 rfl omA int_len int_one w.heap.size (.slice (some ⟨w.heap.size,0,none⟩) 0 0) [] rfl (Owns.empty (Blk.new' rfl) (Nat.le_refl _)) _ _ _ l rfl rfl (hl.next belA) smA mxA spA ?_);intro v' w1 hown' hg' hat';have hbel:Below w.heap.size w w1:=Below.grown belA hg' spA (own_row (Nat.le_refl _));rw [List.nil_append] at hown';obtain ⟨b,cap,rfl,hbb⟩:=hat'.elim (fun h=>hown'.some_form h) (fun h=>hown'.some_form h);have HOWN':=qh hown';clear hown'))
 go_ret
 obtain ⟨A2,c2,e2,_,hs2,hA2⟩:=HOWN'.out.slice int_len
 injection e2 with e2 _ _
 subst e2
 refine ⟨⟨w1.heap.size,b,rfl,hbel.size,hbb,⟨?_,?_,l.length,cap,0,l,Blk.new _ _ _,by omega,by omega,rfl,fun i hi => ?_⟩⟩,hbel.alloc hbel.size _⟩
 ·have:=(hA2 _ rfl).2;simp at this;omega
 ·have:=(hA2 _ rfl).2;simp at this ⊢;omega
 ·obtain ⟨b',o',e',hb',hc'⟩:=hs2 omA
  injection e' with e'
  injection e' with e1 e2
  subst e1 e2
  have:=hc' i hi 0 _ rfl
  have hlt:=(hA2 _ rfl).2
  have h2:=(Below.refl w1.heap.size w1).alloc (Nat.le_refl _) (.cells #[.slice (some ⟨b,0,none⟩) l.length cap, .int .i64 0] 74)
  refine (h2.cell (p:=⟨b,i,none⟩) hlt).trans ?_
  simpa using this
def NextIs (n:Int) (r:Nat):Prop:=r = 0∨(r:Int)<n
theorem tape_mod (x n:Int) (hn : 2≤n) : ∃ r:Nat,(x.tmod n+n).tmod n=r∧(r:Int)<n:=by
 have h1:=Int.tmod_lt_of_pos x (show 0<n by omega)
 have h2 : - n<x.tmod n:=by
  have h5:=Int.tmod_lt_of_pos (-x) (show 0<n by omega)
  rw [Int.neg_tmod] at h5
  omega
 have h3:=Int.tmod_lt_of_pos (x.tmod n+n) (show 0<n by omega)
 have h4:=Int.tmod_nonneg n (show 0≤x.tmod n+n by omega)
 exact ⟨((x.tmod n+n).tmod n).toNat,by omega,by omega⟩
theorem tape_modW (x n:Int) (hn : 2≤n) (hn2:n ≤ 1000000) : ∃ r:Nat,(wrap64 (x.tmod n+n)).tmod n=r∧(r:Int)<n:=by
 have h1:=Int.tmod_lt_of_pos x (show 0<n by omega)
 have h2:=Int.lt_tmod_of_pos x (show 0<n by omega)
 rw [show wrap64 (x.tmod n+n)=x.tmod n+n by unfold wrap64;omega]
 exact tape_mod x n hn
theorem tape_set {w:World} {g b n c at_:Nat} {zs:List Int} (hne:b≠g) (hlt:b<w.heap.size) (hB:Blk w g 74 #[.slice (some ⟨b,0,none⟩) n c, .int .i64 at_]) (hn:n ≤ 20000000000000) (ha:at_ + 1 ≤ 4*n) (hz:zs.length=n)
 (hc : ∀ i (h:i<zs.length),w.cell? ⟨b,i,none⟩=some (.int .i64 zs[i])):IsTape (w.setCell ⟨g,1,none⟩ (.int .i64 (at_ + 1))) g b:=by
 refine ⟨hne,by simpa using hlt,n,c,at_ + 1,zs,?_,hn,ha,hz,fun i hi=>(World.cell?_of_block (Below.heap_setCell w _ _ b (by simpa using hne))).trans (hc i hi)⟩
 have:=hB.set_ 1 (.int .i64 (at_ + 1))
 simpa using this
theorem tape_Next (g b:Nat) (n:Int) (w:World) (hk:IsTape w g b) (hn1 : -1000000≤n) (hn2:n ≤ 1000000) :
 Calls Tryz.prog 15 #[.pointer (some ⟨g,0,none⟩), .int .i64 n] w fun e w' =>
  ∃ r:Nat,e = .returned (.int .i64 r)∧NextIs n r∧IsTape w' g b∧w.grownBy w' (some g):=by
 obtain ⟨hne,hbl,len,c,at_,zs,hB,hlen,hat,hzs,hcell⟩:=hk
 have k0:=hB.cell 0
 have k1:=hB.cell 1
 have kf:=hB.frozen 1
 simp only [List.getElem?_toArray,List.getElem?_cons_zero,List.getElem?_cons_succ] at k0 k1
 have hq0:=keepQ (w:=w) g hB.lt
 have hq1:=keepQ (w:=w) b hbl
 have HB:=qh hB
 have HC:=qh hcell
 have hgl:=hB.lt
 have hz : ∀ wq,Below w.heap.size w wq→IsTape wq g b:=fun wq hq=>IsTape.below ⟨hne,hbl,len,c,at_,zs,HB.out,hlen,hat,hzs,HC.out⟩ hq
 have HZ:=qh hz
 clear hB hcell hz
 by_cases h2:n < 2
 ·go_enter Tryz.func15,Tryz.ntmps15
  go_wp2
  refine wp_region_bel krA krA ?_;(repeat (go_big_quiet_step (fail)));refine wpQuiet_nil ?_;intro wq hq
  go_wp2
  go_ret
  exact ⟨0,rfl, .inl rfl,HZ.out _ hq,only_of_below hq _⟩
 ·have h2':decide (n < 2)=false:=by simpa using h2
  by_cases hl0:len = 0
  ·subst hl0
   go_enter Tryz.func15,Tryz.ntmps15
   go_wp2
   refine wp_region_bel krA krA ?_;(repeat (go_big_quiet_step (fail)));refine wpQuiet_nil ?_;intro wq hq
   go_wp2
   go_ret
   exact ⟨0,rfl, .inl rfl,HZ.out _ hq,only_of_below hq _⟩
  ·have hl0':((len:Int) == 0)=false:=by simp;omega
   by_cases ha4 : 4*len≤at_
   ·have ha4':(4:Int)*(len:Int)≤(at_:Int):=by omega
    go_enter Tryz.func15,Tryz.ntmps15
    go_wp2
    refine wp_region_bel krA krA ?_;(repeat (go_big_quiet_step (fail)));refine wpQuiet_nil ?_;intro wq hq
    go_wp2
    go_ret
    exact ⟨0,rfl, .inl rfl,HZ.out _ hq,only_of_below hq _⟩
   ·have ha4':decide ((4:Int)*(len:Int)≤(at_:Int))=false:=by simp;omega
    go_enter Tryz.func15,Tryz.ntmps15
    go_wp2
    refine wp_region_bel krA krA ?_;(repeat (go_big_quiet_step (fail)));refine wpQuiet_nil ?_;intro wq hq
    go_wp2
    have hTq:=HZ.out _ hq
    clear hq0 hq1 k0 k1 kf
    have hBq:Blk wq g 74 #[.slice (some ⟨b,0,none⟩) len c, .int .i64 at_]:=HB.out.below hq hgl
    have hbq:b<wq.heap.size:=hTq.lt
    have k0:=hBq.cell 0
    have k1:=hBq.cell 1
    have kf:=hBq.frozen 1
    simp only [List.getElem?_toArray,List.getElem?_cons_zero,List.getElem?_cons_succ] at k0 k1
    have hml:at_ % len<zs.length:=by rw [hzs];exact Nat.mod_lt _ omA
    have kz:wq.cell? ⟨b,at_ % len,none⟩=some (.int .i64 zs[at_ % len]):=(hq.cell (p:=⟨b,at_ % len,none⟩) hbl).trans (HC.out _ hml)
    have hml2:at_ % len<len:=by omega
    have hq0:=keepQ (w:=wq) g hBq.lt
    have hq1:=keepQ (w:=wq) b hbq
    have HBq:=qh hBq
    clear hBq
    obtain ⟨z,hz⟩ : ∃ z,zs[at_ % len]=z:=⟨_,rfl⟩
    rw [hz] at kz
    clear hz
    refine wp_region_bel krA krA ?_;(repeat (go_big_quiet_step (fail)));refine wpQuiet_nil ?_;intro wq2 hq2
    go_wp2
    clear hq0 hq1 k0 k1 kf kz
    have hqq:=below_next hq hq2
    have hTq2:=HZ.out _ hqq
    have hBq2:Blk wq2 g 74 #[.slice (some ⟨b,0,none⟩) len c, .int .i64 at_]:=HB.out.below hqq hgl
    have k0:=hBq2.cell 0
    have k1:=hBq2.cell 1
    simp only [List.getElem?_toArray,List.getElem?_cons_zero,List.getElem?_cons_succ] at k0 k1
    have hq0:=keepQ (w:=wq2) g hBq2.lt
    clear hBq2
    refine wp_region_bel krA krA ?_;(repeat (go_big_quiet_step (fail)));refine wpQuiet_nil ?_;intro wq3 hq3
    have hqr:=below_next hqq hq3
    have hTq3:=HZ.out _ hqr
    have hBq3:Blk wq3 g 74 #[.slice (some ⟨b,0,none⟩) len c, .int .i64 at_]:=HB.out.below hqr hgl
    clear k0 k1 hq0
    have k1:=hBq3.cell 1
    have kf:=hBq3.frozen 1
    simp only [List.getElem?_toArray,List.getElem?_cons_zero,List.getElem?_cons_succ] at k1
    have HBQ3:=qh hBq3
    have HTQ3:=qh hTq3
    clear hBq3
    go_wp2_with fail
    all_goals go_ret
    all_goals (obtain ⟨r,hr,hrn⟩:=tape_modW _ n omA hn2;refine ⟨r,congrArg (fun x=>Ending.returned (.int .i64 x)) hr, .inr hrn,tape_set hne hTq3.lt HBQ3.out hlen omA hzs (fun i hi=>(hqr.cell (p:=⟨b,i,none⟩) hbl).trans (HC.out i hi)),only_setCell (only_of_below hqr _) (.inl rfl) _⟩)
theorem IsTape.alloc {w:World} {g b:Nat} (h:IsTape w g b) (o:Obj):IsTape (w.alloc o) g b:=h.below ((Below.refl _ _).alloc (Nat.le_refl _) o)
theorem IsTape.far {w:World} {g b:Nat} (h:IsTape w g b) {p:Addr} (hg:g≠p.block) (hb:b≠p.block) (u:Value):IsTape (w.setCell p u) g b:=by
 obtain ⟨n,c,a,zs,hB,h1,h2,h3,h4⟩:=h.is
 exact ⟨h.ne,by simpa using h.lt,n,c,a,zs,hB.far hg u,h1,h2,h3,fun i hi=>(World.cell?_of_block (Below.heap_setCell w p u b hb)).trans (h4 i hi)⟩
theorem grown_start {w:World} (row:Option Nat) {w':World} (h:Below w.heap.size w w'):w.grownBy w' row:=only_of_below h row
theorem mail_valid {t:ByteArray} (h:t.size ≤ 32):validId ⟨⟨#[109,97,105,108]⟩,2,0,t⟩=true:=by
 have h1:nameB ⟨#[109,97,105,108]⟩=true:=by decide +kernel
 simp [validId,h1,valB,h]
theorem person_valid {r:Nat} (h:r ≤ 100):validId ⟨⟨#[112,101,114,115,111,110]⟩,1,1+(r:Int),⟨#[]⟩⟩=true:=by
 have h1:nameB ⟨#[112,101,114,115,111,110]⟩=true:=by decide +kernel
 have h3:(-4294967296:Int) ≤ 1+(r:Int) ∧ 1+(r:Int) ≤ 4294967296:=by omega
 simp [validId,h1,valB,h3.1,h3.2]
theorem tape_Identifier (g b:Nat) (w:World) (hk:IsTape w g b) :
 Calls Tryz.prog 45 #[.pointer (some ⟨g,0,none⟩)] w fun e w' =>
  ∃ x:Ident,e = .returned (.agg #[.string x.ns, .int .i64 x.val.kind, .int .i64 x.val.num, .string x.val.text])∧validId x=true∧x.ns.size ≤ 100∧IsTape w' g b∧w.grownBy w' (some g):=by
 have hgl:=hk.ltg
 have hbl:=hk.lt
 have HK:=qh hk
 clear hk
 go_enter Tryz.func45,Tryz.ntmps45
 go_wp2_with fail
 refine (tape_Next g b 3 _ (HK.out.alloc _) omA omA).mono ?_
 rintro e w1 ⟨r1,rfl,hr1,hk1,hg1⟩
 have hR1:Blk w1 w.heap.size 105 #[.string ⟨#[]⟩, .int .i64 0, .int .i64 0, .string ⟨#[]⟩]:=Blk.grown (Blk.new _ _ _) hg1 (fun e=>by injection e with e;omega)
 have hgw1:w.grownBy w1 (some g):=grown_trans (only_of_below ((Below.refl _ _).alloc (Nat.le_refl _) _) _) hg1
 have hz1:=hR1.lt
 have HR1:=qh hR1
 have HK1:=qh hk1
 clear hR1 hk1
 by_cases h0:r1 = 0
 ·subst h0
  go_wp2_with fail
  refine (tape_Next g b 4 _ (HK1.out.alloc _) omA omA).mono ?_
  rintro e w2 ⟨r2,rfl,hr2,hk2,hg2⟩
  have hR2:Blk w2 w.heap.size 105 #[.string ⟨#[]⟩, .int .i64 0, .int .i64 0, .string ⟨#[]⟩]:=Blk.grown (HR1.out.alloc _) hg2 (fun e=>by injection e with e;omega)
  have hS2:Blk w2 w1.heap.size 9 #[.string ⟨#[97]⟩, .string ⟨#[98]⟩, .string ⟨#[99]⟩, .string ⟨#[100]⟩]:=Blk.grown (Blk.new _ _ _) hg2 (fun e=>by injection e with e;have:=hgw1.size;omega)
  have hr4:r2 < 4:=by rcases hr2 with h|h <;> omega
  obtain ⟨t,ht,htl⟩ : ∃ t:ByteArray,w2.cell? ⟨w1.heap.size,r2,none⟩=some (.string t)∧t.size ≤ 32:=by
   rw [hS2.cell]
   rcases (show r2 = 0∨r2 = 1∨r2 = 2∨r2 = 3 by omega) with rfl|rfl|rfl|rfl
   ·exact ⟨⟨#[97]⟩,rfl,by decide⟩
   ·exact ⟨⟨#[98]⟩,rfl,by decide⟩
   ·exact ⟨⟨#[99]⟩,rfl,by decide⟩
   ·exact ⟨⟨#[100]⟩,rfl,by decide⟩
  have c0:=hR2.cell 0
  have c1:=hR2.cell 1
  have c2:=hR2.cell 2
  have c3:=hR2.cell 3
  have f0:=hR2.frozen 0
  have f1:=hR2.frozen 1
  have f2:=hR2.frozen 2
  have f3:=hR2.frozen 3
  simp only [List.getElem?_toArray,List.getElem?_cons_zero,List.getElem?_cons_succ] at c0 c1 c2 c3
  have HK2:=qh hk2
  clear hk2 hS2
  go_wp2_with fail
  refine bodyPost_ret (v := .agg #[.string ⟨#[109,97,105,108]⟩, .int .i64 2, .int .i64 0, .string t]) (by simp [results,Tryz.results45,go_sem,c0,c1,c2,c3]) rfl ⟨⟨⟨#[109,97,105,108]⟩,2,0,t⟩,rfl,mail_valid htl,show (4:Nat) ≤ 100 by omega,?_,?_⟩
  ·exact (((HK2.out.far smA smA _).far smA smA _).far smA smA _).far smA smA _
  ·have hg:w.grownBy w2 (some g):=grown_trans (grown_alloc hgw1 _) hg2
   exact only_setCell (only_setCell (only_setCell (only_setCell hg (.inr (Nat.le_refl _)) _) (.inr (Nat.le_refl _)) _) (.inr (Nat.le_refl _)) _) (.inr (Nat.le_refl _)) _
 ·have h0':((r1:Int) == 0)=false:=by simp;omega
  go_wp2_with fail
  refine (tape_Next g b 4 _ HK1.out omA omA).mono ?_
  rintro e w2 ⟨r2,rfl,hr2,hk2,hg2⟩
  have hR2:Blk w2 w.heap.size 105 #[.string ⟨#[]⟩, .int .i64 0, .int .i64 0, .string ⟨#[]⟩]:=Blk.grown HR1.out hg2 (fun e=>by injection e with e;omega)
  have hr4:r2 < 4:=by rcases hr2 with h|h <;> omega
  have c0:=hR2.cell 0
  have c1:=hR2.cell 1
  have c2:=hR2.cell 2
  have c3:=hR2.cell 3
  have f0:=hR2.frozen 0
  have f1:=hR2.frozen 1
  have f2:=hR2.frozen 2
  have f3:=hR2.frozen 3
  simp only [List.getElem?_toArray,List.getElem?_cons_zero,List.getElem?_cons_succ] at c0 c1 c2 c3
  have HK2:=qh hk2
  clear hk2
  go_wp2_with fail
  refine bodyPost_ret (v := .agg #[.string ⟨#[112,101,114,115,111,110]⟩, .int .i64 1, .int .i64 (1+(r2:Int)), .string ⟨#[]⟩]) (by simp [results,Tryz.results45,go_sem,c0,c1,c2,c3]) rfl ⟨⟨⟨#[112,101,114,115,111,110]⟩,1,1+(r2:Int),⟨#[]⟩⟩,rfl,person_valid omA,show (6:Nat) ≤ 100 by omega,?_,?_⟩
  ·exact (((HK2.out.far smA smA _).far smA smA _).far smA smA _).far smA smA _
  ·have hg:w.grownBy w2 (some g):=grown_trans hgw1 hg2
   exact only_setCell (only_setCell (only_setCell (only_setCell hg (.inr (Nat.le_refl _)) _) (.inr (Nat.le_refl _)) _) (.inr (Nat.le_refl _)) _) (.inr (Nat.le_refl _)) _
theorem Owns.grown {α : Type} {w w':World} {base:Nat} {e:TypeId} {enc : α → List Value} {k:Nat} {v:Value} {l:List α} (h:Owns w base e enc k v l) {r:Nat} (hg:w.grownBy w' (some r)) (hr:r<base):Owns w' base e enc k v l:=by
 refine ⟨h.1,?_⟩
 rcases h.2 with h1|⟨g,cap,cur,rfl,hbs,hgg,hrest⟩
 ·exact .inl h1
 ·refine .inr ⟨g,cap,cur,rfl,hbs,?_,hrest⟩
  have hlt:g<w.heap.size:=by
   rcases Nat.lt_or_ge g w.heap.size with hlt|hge
   ·exact hlt
   ·rw [Array.getElem?_eq_none hge] at hgg;cases hgg
  rw [hg.block g hlt (fun e=>by injection e with e;omega)]
  exact hgg
theorem valid_name {x:Ident} (h:validId x=true):x.ns.size ≤ 16:=by
 unfold validId nameB at h
 simp only [Bool.and_eq_true,decide_eq_true_eq] at h
 exact h.1.1.2
theorem valid_sane {l:List Link} (h:validLinks l=true):Sane l:=fun x hx=>by
 have h1:=validLinks_mem h x hx
 have h2:=valid_name h1.2.2.1
 have h3:=valid_name h1.2.2.2.1
 omega
theorem Link.blk {w:World} {g:Nat} {y:Link} (h:Blk w g 110 y.cells.toArray):(w.cell? ⟨g,0,none⟩=some (.string y.a.ns)∧w.cell? ⟨g,1,none⟩=some (.int .i64 y.a.val.kind)∧w.cell? ⟨g,2,none⟩=some (.int .i64 y.a.val.num)∧w.cell? ⟨g,3,none⟩=some (.string y.a.val.text)) ∧
 (w.cell? ⟨g,4,none⟩=some (.string y.b.ns)∧w.cell? ⟨g,5,none⟩=some (.int .i64 y.b.val.kind)∧w.cell? ⟨g,6,none⟩=some (.int .i64 y.b.val.num)∧w.cell? ⟨g,7,none⟩=some (.string y.b.val.text)) ∧
 w.cell? ⟨g,8,none⟩=some (.int .i64 y.seq)∧w.cell? ⟨g,9,none⟩=some (.bool y.rev) :=
 ⟨⟨h.cell 0,h.cell 1,h.cell 2,h.cell 3⟩,⟨h.cell 4,h.cell 5,h.cell 6,h.cell 7⟩,h.cell 8,h.cell 9⟩
structure GenLinks (l:List Link) (s:Nat):Prop where
 valid:validFrom 0 l=true
 last:lastOf 0 l≤s
theorem GenLinks.add {l:List Link} {s:Nat} (h:GenLinks l s) {y:Link} (ha:validId y.a=true) (hb:validId y.b=true) (hne:y.a≠y.b) {s':Nat} (hs:y.seq=s') (hss:s<s') (hs2:s' ≤ 1000000):GenLinks (l ++ [y]) s':=by
 constructor
 ·rw [validFrom_snoc,h.valid,linkOk,ha,hb]
  have:=h.last
  have h1:lastOf 0 l<y.seq:=by omega
  have h2:y.seq ≤ 1073741824:=by omega
  simp [h1,h2,hne]
 ·rw [lastOf_snoc,hs]
  exact Int.le_refl _
theorem GenLinks.mono {l:List Link} {s s':Nat} (h:GenLinks l s) (hs:s≤s'):GenLinks l s':=⟨h.valid,by have:=h.last;omega⟩
theorem GenLinks.links {l:List Link} {s:Nat} (h:GenLinks l s) (hl:l.length ≤ 64):validLinks l=true:=by
 unfold validLinks
 rw [h.valid]
 simpa using hl
theorem grown_newO {a b c:World} {g:Nat} {row:Option Nat} (h:a.grownBy b (some g)) (k:b.grownBy c row) (hr : ∀ q,row=some q→a.heap.size≤q):a.grownBy c (some g) :=
 ⟨k.os.trans h.os,k.tape.trans h.tape,k.output.trans h.output,Nat.le_trans h.size k.size,fun i hi hne=>(k.block i (Nat.lt_of_lt_of_le hi h.size) (fun e=>by have:=hr i e.symm;omega)).trans (h.block i hi hne)⟩
theorem IsTape.grownO {w w':World} {g b:Nat} {row:Option Nat} (h:IsTape w g b) (hb:w.grownBy w' row) (hg:some g≠row) (hr:some b≠row):IsTape w' g b:=by
 obtain ⟨n,c,a,zs,hB,h1,h2,h3,h4⟩:=h.is
 exact ⟨h.ne,Nat.lt_of_lt_of_le h.lt hb.size,n,c,a,zs,hB.grown hb hg,h1,h2,h3,fun i hi=>(World.cell?_of_block (hb.block b h.lt hr)).trans (h4 i hi)⟩
theorem Blk.eq {w:World} {g:Nat} {t:TypeId} {cs cs':Array Value} (h:Blk w g t cs) (e:cs=cs'):Blk w g t cs':=e▸h
theorem abs_world {P:World→Prop} {w:World} (R:World→Prop) (hR:R w) (h : ∀ u,R u→P u):P w:=h w hR
theorem tape_Links (g b n:Nat) (w:World) (hk:IsTape w g b) (hn:n ≤ 60) :
 Calls Tryz.prog 13 #[.pointer (some ⟨g,0,none⟩), .int .i64 n] w fun e w' =>
  ∃ v l s,e = .returned v∧Owns w' w.heap.size 110 Link.cells 10 v l∧GenLinks l s∧s ≤ 4*n∧l.length≤n∧IsTape w' g b∧w.grownBy w' (some g):=by
 have hg:Tryz.prog.eqGuardType Tryz.prog.depth 105=false:=by kernel_rfl
 obtain ⟨i0,hi0,hz0,hz1,hz2⟩:=info_parts infoLink
 have hgl:=hk.ltg
 have hbl:=hk.lt
 have HK:=qh hk
 clear hk
 go_enter Tryz.func13,Tryz.ntmps13
 go_wp2_with fail
 refine (tape_Next g b ((n:Int) + 1) _ HK.out omA omA).mono ?_
 rintro e w0 ⟨r0,rfl,hr0,hk0,hg0⟩
 have hr0':r0≤n:=by rcases hr0 with h|h <;> omega
 have HK0:=qh hk0
 clear hk0
 go_wp2_with fail
 go_loopw [5,6,7] (fun vo vs vi wr => ∃ (m s:Nat) (l:List Link),m≤n∧vi = .int .i64 m∧vs = .int .i64 s∧Owns wr w.heap.size 110 Link.cells 10 vo l∧GenLinks l s∧s + 4*m ≤ 4*n∧l.length+m≤n∧IsTape wr g b∧w.grownBy wr (some g)) (fun _ _ vi _=>(intOf vi).toNat)
 case atStart=>exact ⟨r0,0,[],hr0',rfl,rfl,Owns.nil,⟨rfl,by simp [lastOf]⟩,by omega,by simpa using hr0',HK0.out,hg0⟩
 case round =>
  obtain ⟨m,s,l,hm,rfl,rfl,hown,hgen,hsm,hlm,hkr,hgr⟩:=hrel
  have HGL:=qh hgen
  have HKR:=qh hkr
  have hzr:=hgr.size
  by_cases hm0 : 0<m
  ·have hm0':(0:Int)<(m:Int):=by omega
   obtain ⟨A5,c5,rfl,hc5,hsl,hA5⟩:=hown.slice link_len
   have HOR:=qh hown
   have HSL:=qh hsl
   have hrow:=hown.row
   clear hown hgen hkr hsl
   go_wp2_with fail
   refine (tape_Next g b 4 _ HKR.out omA omA).mono ?_
   rintro e w1 ⟨r1,rfl,hr1,hk1,hg1⟩
   have hr1':r1 < 4:=by rcases hr1 with h|h <;> omega
   have HK1:=qh hk1
   clear hk1
   go_wp2_with fail
   refine (tape_Identifier g b _ HK1.out).mono ?_
   rintro e w2 ⟨x1,rfl,hv1,hs1,hk2,hg2⟩
   have HK2:=qh hk2
   clear hk2
   go_wp2_with fail
   refine (tape_Identifier g b _ HK2.out).mono ?_
   rintro e w3 ⟨x2,rfl,hv2,hs2,hk3,hg3⟩
   have HK3:=qh hk3
   have hg03:w.grownBy w3 (some g):=grown_trans (grown_trans (grown_trans hgr hg1) hg2) hg3
   have HO3:Hid (Owns w3 w.heap.size 110 Link.cells 10 (.slice A5 l.length c5) l):=((HOR.out.grown hg1 hgl).grown hg2 hgl).grown hg3 hgl
   have hz3:=hg03.size
   clear hk3
   have HVA:=qh hv1
   have HVB:=qh hv2
   clear hv1 hv2
   by_cases hl0:l.length = 0
   ·have hl0':decide ((0:Int)<(l.length:Int))=false:=by simp [hl0]
    have hl0n:decide (0<l.length)=false:=by simp [hl0]
    have HL0:=qh hl0
    clear hl0
    have HOW:Hid (Owns (w3.alloc (.cells (Link.cells ⟨x1,x2,(s:Int)+(1+(r1:Int)),false⟩).toArray 110)) w.heap.size 110 Link.cells 10 (.slice A5 l.length c5) l):=HO3.out.alloc _
    have HKW:Hid (IsTape (w3.alloc (.cells (Link.cells ⟨x1,x2,(s:Int)+(1+(r1:Int)),false⟩).toArray 110)) g b):=HK3.out.alloc _
    have HGW:Hid (w.grownBy (w3.alloc (.cells (Link.cells ⟨x1,x2,(s:Int)+(1+(r1:Int)),false⟩).toArray 110)) (some g)):=grown_alloc hg03 _
    cases hab:decide (x1=x2)
    ·have heq:=eqlId_of hab
     have hne:x1≠x2:=by simpa using hab
     have HNE:=qh hne
     clear hne
     clear hab
     go_wp2_with (at_builtin;go_must (refine wpList_append_list _ rfl (.tmp 51) (.tmp 53) 42 rfl 110 i0 _ Link.cells 10 112 Tryz.underlying42 hi0 hz0 hz1 hz2 rfl omA link_len link_one w.heap.size (.slice A5 l.length c5) l rfl (HOW.out.alloc _) _ _ _ [(⟨x1,x2,(s:Int)+(1+(r1:Int)),false⟩:Link)] rfl rfl (Blk.one (enc:=Link.cells) (x:=(⟨x1,x2,(s:Int)+(1+(r1:Int)),false⟩:Link)) (Blk.new' spA) spA) smA mxA (by have:=HGW.out.size;simp at this ⊢;omega) ?_);intro v' w6 hown' hg' hat';have HOWN':=qh hown';clear hown';have HK6:Hid (IsTape w6 g b):=(HKW.out.alloc _).grownO hg' (fun e=>by have:=hrow _ e.symm;omega) (fun e=>by have:=hrow _ e.symm;omega);have HG6:Hid (w.grownBy w6 (some g)):=grown_newO (grown_alloc HGW.out _) hg' hrow)
     go_roundw
     case rel=>exact ⟨m - 1,s+(1+r1),l ++ [(⟨x1,x2,(s:Int)+(1+(r1:Int)),false⟩:Link)],by omega,by go_num,by go_num,HOWN'.out,HGL.out.add (y:=(⟨x1,x2,(s:Int)+(1+(r1:Int)),false⟩:Link)) HVA.out HVB.out HNE.out (show (s:Int)+(1+(r1:Int))=((s+(1+r1):Nat):Int) by omega) omA omA,by omega,by simp;omega,HK6.out,HG6.out⟩
     case measure=>simp [intOf];omega
    ·have heq:=eqlId_of hab
     clear hab
     go_wp2
     go_roundw
     case rel=>exact ⟨m - 1,s+(1+r1),l,by omega,by go_num,by go_num,HOW.out,HGL.out.mono omA,by omega,by omega,HKW.out,HGW.out⟩
     case measure=>simp [intOf];omega
   ·have hl1:(0:Int)<(l.length:Int):=by omega
    have hl1n : 0<l.length:=by omega
    go_wp2_with fail
    refine (tape_Next g b 4 _ (HK3.out.alloc _) omA omA).mono ?_
    rintro e w4 ⟨r2,rfl,hr2,hk4,hg4⟩
    have hX4:Blk w4 w3.heap.size 110 (Link.cells ⟨x1,x2,(s:Int)+(1+(r1:Int)),false⟩).toArray:=Blk.grown (Blk.new _ _ _) hg4 (fun e=>by injection e with e;omega)
    have hg04:w.grownBy w4 (some g):=grown_trans (grown_alloc hg03 _) hg4
    have HOW:Hid (Owns w4 w.heap.size 110 Link.cells 10 (.slice A5 l.length c5) l):=(HO3.out.alloc _).grown hg4 hgl
    have HKW:=qh hk4
    have hk4c:=qh hk4
    have HGW:=qh hg04
    have hz4:=hX4.lt
    clear hk4
    by_cases hr20:r2 = 0
    ·subst hr20
     clear HKW HGW
     go_wp2_with fail
     refine (tape_Next g b l.length _ hk4c.out omA omA).mono ?_
     rintro e w5 ⟨r3,rfl,hr3,hk5,hg5⟩
     have hr3':r3<l.length:=by rcases hr3 with h|h <;> omega
     have hX5:Blk w5 w3.heap.size 110 (Link.cells ⟨x1,x2,(s:Int)+(1+(r1:Int)),false⟩).toArray:=Blk.grown hX4 hg5 (fun e=>by injection e with e;omega)
     obtain ⟨⟨a0,a1,a2,a3⟩,⟨b0,b1,b2,b3⟩,s8,r9⟩:=Link.blk hX5
     have f0:=hX5.frozen 0
     have f1:=hX5.frozen 1
     have f2:=hX5.frozen 2
     have f3:=hX5.frozen 3
     have f4:=hX5.frozen 4
     have f5:=hX5.frozen 5
     have f6:=hX5.frozen 6
     have f7:=hX5.frozen 7
     have f8:=hX5.frozen 8
     have f9:=hX5.frozen 9
     have HX5:=qh hX5
     have hsl5:SliceIs w5 w5.heap.size Link.cells 10 A5 l:=by
      have hne : ∀ a,A5=some a→some a.block≠some g:=fun a ha e=>by injection e with e;have:=(hA5 a ha).1;omega
      exact ((((HSL.out.grown hg1 hne).grown hg2 hne).grown hg3 hne).next ((Below.refl _ _).alloc (Nat.le_refl _) _)).grown hg4 hne |>.grown hg5 hne
     have hlv:=validFrom_mem HGL.out.valid l[r3] (List.getElem_mem hr3')
     have HOW5:Hid (Owns w5 w.heap.size 110 Link.cells 10 (.slice A5 l.length c5) l):=HOW.out.grown hg5 hgl
     have hfar : ∀ q,(Value.slice A5 l.length c5).ownBlock=some q→q≠w3.heap.size:=fun q e=>by have:=HO3.out.lt q e;omega
     clear HOW HVA HVB
     have HOW:=HOW5
     have HKW:=qh hk5
     have HGW:=qh (grown_trans hg04 hg5)
     have HVA:=qh hlv.2.2.1
     have HVB:=qh hlv.2.2.2.1
     have HNE:=qh hlv.2.2.2.2
     have hfg:g≠w3.heap.size:=by omega
     have hfb:b≠w3.heap.size:=by omega
     have hfx:w.heap.size≤w3.heap.size:=hz3
     have heq:=eqlId_of (decide_eq_false hlv.2.2.2.2)
     obtain ⟨b5,o5,rfl,hb5,hcl⟩:=hsl5.get hr3'
     obtain ⟨⟨p0,p1,p2,p3⟩,⟨q0,q1,q2,q3⟩,t8,t9⟩:=Link.cells10 hcl
     clear hcl hsl5 hlv hX4 hX5 hk5 HOW5
     have HEQ:=qh heq
     clear heq
     have HFAR:=qh hfar
     have HROW:=qh hrow
     have HFX:=qh (And.intro hfg (And.intro hfb hfx))
     clear hfar hA5 hrow hfg hfb hfx hgr hg1 hg2 hg3 hg4 hg5 hg03 hg04
     go_upto_region 10 with (fail)
     refine abs_world (P:=fun u=>Code.wp _ _ _ _ u) (R:=fun u=>Blk u w3.heap.size 110 (Link.cells l[r3]).toArray∧Owns u w.heap.size 110 Link.cells 10 (.slice (some ⟨b5,o5,none⟩) l.length c5) l∧IsTape u g b∧w.grownBy u (some g)) ⟨?_,?_,?_,?_⟩ ?_
     ·with_reducible refine Blk.eq ((((((((((HX5.out.set_ 0 _).set_ 1 _).set_ 2 _).set_ 3 _).set_ 4 _).set_ 5 _).set_ 6 _).set_ 7 _).set_ 8 _).set_ 9 _) ?_
      simp [Link.cells]
     ·repeat (first|with_reducible exact HOW.out|with_reducible refine Owns.far ?_ HFAR.out _)
     ·repeat (first|with_reducible exact HKW.out|with_reducible refine IsTape.far ?_ HFX.out.1 HFX.out.2.1 _)
     ·repeat (first|with_reducible exact HGW.out|with_reducible refine only_setCell ?_ (.inr HFX.out.2.2) _)
     clear f0 f1 f2 f3 f4 f5 f6 f7 f8 f9 a0 a1 a2 a3 b0 b1 b2 b3 s8 r9 p0 p1 p2 p3 q0 q1 q2 q3 t8 t9 HOW HKW HGW HX5
     rintro U ⟨hXU,hOU,hKU,hGU⟩
     have s8:=hXU.cell 8
     have s9:=hXU.cell 9
     simp only [Link.cells,List.getElem?_toArray,List.getElem?_cons_zero,List.getElem?_cons_succ] at s8 s9
     have f8:=hXU.frozen 8
     have f9:=hXU.frozen 9
     have HXU:=qh hXU
     have HOU:=qh hOU
     have HKU:=qh hKU
     have HGU:=qh hGU
     clear hXU hOU hKU hGU
     go_upto_region 11 with (fail)
     refine abs_world (P:=fun u=>Code.wp _ _ _ _ u) (R:=fun u=>Blk u w3.heap.size 110 (Link.cells ⟨l[r3].a,l[r3].b,(s:Int)+(1+(r1:Int)),true⟩).toArray∧Owns u w.heap.size 110 Link.cells 10 (.slice (some ⟨b5,o5,none⟩) l.length c5) l∧IsTape u g b∧w.grownBy u (some g)) ⟨?_,?_,?_,?_⟩ ?_
     ·with_reducible refine Blk.eq ((HXU.out.set_ 8 _).set_ 9 _) ?_
      simp [Link.cells]
     ·with_reducible exact (HOU.out.far HFAR.out _).far HFAR.out _
     ·with_reducible exact (HKU.out.far HFX.out.1 HFX.out.2.1 _).far HFX.out.1 HFX.out.2.1 _
     ·with_reducible exact only_setCell (only_setCell HGU.out (.inr HFX.out.2.2) _) (.inr HFX.out.2.2) _
     clear s8 s9 f8 f9 HOU HKU HGU HXU
     rintro V ⟨hXU,hOU,hKU,hGU⟩
     obtain ⟨⟨a0,a1,a2,a3⟩,⟨b0,b1,b2,b3⟩,s8,r9⟩:=Link.blk hXU
     have hzU:=hXU.lt
     have HOW:=qh hOU
     have HKW:=qh hKU
     have HGW:=qh hGU
     have heq:=HEQ.out
     have hrow:=HROW.out
     clear hXU hOU hKU hGU HEQ HROW
     go_wp2_with (at_builtin;go_must (refine wpList_append_list _ rfl (.tmp 51) (.tmp 53) 42 rfl 110 i0 _ Link.cells 10 112 Tryz.underlying42 hi0 hz0 hz1 hz2 rfl omA link_len link_one w.heap.size (.slice (some ⟨b5,o5,none⟩) l.length c5) l rfl (HOW.out.alloc _) _ _ _ [(⟨l[r3].a,l[r3].b,(s:Int)+(1+(r1:Int)),true⟩:Link)] rfl rfl (Blk.one (enc:=Link.cells) (x:=(⟨l[r3].a,l[r3].b,(s:Int)+(1+(r1:Int)),true⟩:Link)) (Blk.new' spA) spA) smA mxA (by have:=HGW.out.size;simp at this ⊢;omega) ?_);intro v' w6 hown' hg' hat';have HOWN':=qh hown';clear hown';have HK6:Hid (IsTape w6 g b):=(HKW.out.alloc _).grownO hg' (fun e=>by have:=hrow _ e.symm;omega) (fun e=>by have:=hrow _ e.symm;omega);have HG6:Hid (w.grownBy w6 (some g)):=grown_newO (grown_alloc HGW.out _) hg' hrow)
     go_roundw
     case rel=>exact ⟨m - 1,s+(1+r1),l ++ [(⟨l[r3].a,l[r3].b,(s:Int)+(1+(r1:Int)),true⟩:Link)],by omega,by go_num,by go_num,HOWN'.out,HGL.out.add (y:=(⟨l[r3].a,l[r3].b,(s:Int)+(1+(r1:Int)),true⟩:Link)) HVA.out HVB.out HNE.out (show (s:Int)+(1+(r1:Int))=((s+(1+r1):Nat):Int) by omega) omA omA,by omega,by simp;omega,HK6.out,HG6.out⟩
     case measure=>simp [intOf];omega
    ·have hr20':((r2:Int) == 0)=false:=by simp;omega
     obtain ⟨⟨a0,a1,a2,a3⟩,⟨b0,b1,b2,b3⟩,s8,r9⟩:=Link.blk hX4
     clear hX4
     cases hab:decide (x1=x2)
     ·have heq:=eqlId_of hab
      have hne:x1≠x2:=by simpa using hab
      have HNE:=qh hne
      clear hne hab
      go_wp2_with (at_builtin;go_must (refine wpList_append_list _ rfl (.tmp 51) (.tmp 53) 42 rfl 110 i0 _ Link.cells 10 112 Tryz.underlying42 hi0 hz0 hz1 hz2 rfl omA link_len link_one w.heap.size (.slice A5 l.length c5) l rfl (HOW.out.alloc _) _ _ _ [(⟨x1,x2,(s:Int)+(1+(r1:Int)),false⟩:Link)] rfl rfl (Blk.one (enc:=Link.cells) (x:=(⟨x1,x2,(s:Int)+(1+(r1:Int)),false⟩:Link)) (Blk.new' spA) spA) smA mxA (by have:=HGW.out.size;simp at this ⊢;omega) ?_);intro v' w6 hown' hg' hat';have HOWN':=qh hown';clear hown';have HK6:Hid (IsTape w6 g b):=(HKW.out.alloc _).grownO hg' (fun e=>by have:=hrow _ e.symm;omega) (fun e=>by have:=hrow _ e.symm;omega);have HG6:Hid (w.grownBy w6 (some g)):=grown_newO (grown_alloc HGW.out _) hg' hrow)
      go_roundw
      case rel=>exact ⟨m - 1,s+(1+r1),l ++ [(⟨x1,x2,(s:Int)+(1+(r1:Int)),false⟩:Link)],by omega,by go_num,by go_num,HOWN'.out,HGL.out.add (y:=(⟨x1,x2,(s:Int)+(1+(r1:Int)),false⟩:Link)) HVA.out HVB.out HNE.out (show (s:Int)+(1+(r1:Int))=((s+(1+r1):Nat):Int) by omega) omA omA,by omega,by simp;omega,HK6.out,HG6.out⟩
      case measure=>simp [intOf];omega
     ·have heq:=eqlId_of hab
      clear hab
      go_wp2
      go_roundw
      case rel=>exact ⟨m - 1,s+(1+r1),l,by omega,by go_num,by go_num,HOW.out,HGL.out.mono omA,by omega,by omega,HKW.out,HGW.out⟩
      case measure=>simp [intOf];omega
  ·obtain rfl:m = 0:=by omega
   go_wp2_with fail
   go_ret
   exact ⟨_,l,s,rfl,hown,hgen,by omega,by omega,hkr,hgr⟩
theorem Ident.blk {w:World} {g:Nat} {x:Ident} (h:Blk w g 105 x.cells.toArray):w.cell? ⟨g,0,none⟩=some (.string x.ns)∧w.cell? ⟨g,1,none⟩=some (.int .i64 x.val.kind)∧w.cell? ⟨g,2,none⟩=some (.int .i64 x.val.num)∧w.cell? ⟨g,3,none⟩=some (.string x.val.text) :=
 ⟨h.cell 0,h.cell 1,h.cell 2,h.cell 3⟩
theorem ref16_SubjectN (A:Option Addr) (c n:Nat) (l:List Link) (a:Ident) (seq:Int) (w:World) (hl:SliceIs w w.heap.size Link.cells 10 A l) (hln:l.length=n) (hn:n ≤ 1000000) (hs:Sane l) (hs1:a.ns.size ≤ 1000000) :
 Calls Tryz.prog 159 #[.slice A n c, .agg #[.string a.ns, .int .i64 a.val.kind, .int .i64 a.val.num, .string a.val.text], .int .i64 seq] w fun e w'=>(∃ out A' c',SubjectOut l a seq out∧e = .returned (.slice A' out.length c')∧SliceIs w' w'.heap.size Ident.cells 4 A' out)∧Below w.heap.size w w':=by
 subst hln
 refine (ref16_Subject A c l a.ns a.val.kind a.val.num a.val.text seq w hl hn hs hs1).mono ?_
 rintro e w' ⟨⟨out,A',c',h1,h2,_,h3⟩,hb⟩
 exact ⟨⟨out,A',c',h1,h2,h3⟩,hb⟩
theorem identity_ValidN (A:Option Addr) (c n:Nat) (l:List Link) (w:World) (hl:SliceIs w w.heap.size Link.cells 10 A l) (hln:l.length=n) (hn:n ≤ 1000000) (hs:Sane l) {r:Bool} (hr:validLinks l=r) :
 Calls Tryz.prog 96 #[.slice A n c] w fun e w'=>e = .returned (.bool r)∧Below w.heap.size w w':=by
 subst hln
 exact identity_ValidR hl hn hs hr
theorem ref16_ValidN (A:Option Addr) (c n:Nat) (l:List Link) (w:World) (hl:SliceIs w w.heap.size Link.cells 10 A l) (hln:l.length=n) (hn:n ≤ 1000000) (hs:Sane l) {r:Bool} (hr:validLinks l=r) :
 Calls Tryz.prog 106 #[.slice A n c] w fun e w'=>e = .returned (.bool r)∧Below w.heap.size w w':=by
 subst hln
 exact ref16_ValidR hl hn hs hr
theorem subject_len {l:List Link} {a:Ident} {seq:Int} {out:List Ident} (ho:SubjectOut l a seq out):out.length ≤ 1000000:=by
 unfold SubjectOut at ho
 cases hv:validLinks l
 ·rw [hv] at ho
  rw [show out = [] from ho]
  simp
 ·split at ho
  ·have h:=nodup_le ho.1.nodup (l':=named l a) (fun y hy=>by
    rcases (ho.2 y).1 hy with h|⟨_,_,_,h⟩
    ·exact h.named
    ·exact h.named)
   rw [named_length] at h
   have:=validLinks_len hv
   omega
  ·rw [ho];simp
theorem flat_set1 {α : Type} {enc : α → List Value} {k:Nat} (hk : ∀ x,(enc x).length=k) : ∀ (l:List α) (i j:Nat) (x : α) (u:Value) (hi:i<l.length),j<k→enc x=(enc l[i]).set j u→(l.flatMap enc).set (i*k+j) u=(l.set i x).flatMap enc
 | y::l,0,j,x,u,_,hj,hx=>by
   rw [List.set_cons_zero,List.flatMap_cons,List.flatMap_cons,hx,Nat.zero_mul,Nat.zero_add,List.set_append_left _ _ (by rw [hk];exact hj)]
   rfl
 | y::l,i + 1,j,x,u,hi,hj,hx=>by
   have ih:=flat_set1 hk l i j x u (by simpa using hi) hj hx
   rw [List.set_cons_succ,List.flatMap_cons,List.flatMap_cons,← ih,Nat.add_mul,Nat.one_mul,show i*k+k+j=(enc y).length+(i*k+j) by rw [hk];omega,List.set_append_right _ _ omA,Nat.add_sub_cancel_left]
theorem Owns.store1 {α : Type} {w:World} {base:Nat} {e:TypeId} {enc : α → List Value} {k g cap n:Nat} {l:List α} (hk : ∀ x,(enc x).length=k) (h:Owns w base e enc k (.slice (some ⟨g,0,none⟩) n cap) l) (hn:n=l.length) {i:Nat} (hi:i<l.length) (x : α) {j o:Nat} {u:Value} (hj:j<k) (ho:o=i*k+j) (hx:enc x=(enc l[i]).set j u) :
 Owns (w.setCell ⟨g,o,none⟩ u) base e enc k (.slice (some ⟨g,0,none⟩) n cap) (l.set i x):=by
 subst hn ho
 obtain ⟨h0,_⟩:=World.ownsRow.stored h (i*k+j) u
 rw [flat_set1 hk l i j x u hi hj hx] at h0
 unfold Owns
 rw [List.length_set]
 exact h0
theorem sane_set {l:List Link} (hs:Sane l) (i:Nat) {x:Link} (hx:x.a.ns.size ≤ 1000000∧x.b.ns.size ≤ 1000000):Sane (l.set i x):=by
 intro y hy
 rcases List.mem_or_eq_of_mem_set hy with h|rfl
 ·exact hs y h
 ·exact hx
theorem Owns.one {α : Type} {w:World} {g base k:Nat} {t:TypeId} {enc : α → List Value} {x : α} (h:Blk w g t (enc x).toArray) (hb:base≤g) (hk : ∀ x,(enc x).length=k):Owns w base t enc k (.slice (some ⟨g,0,none⟩) 1 1) [x] :=
 ⟨by simp [hk], .inr ⟨g,1,(enc x).toArray,rfl,hb,h,Nat.le_refl _,by decide,by simp [hk],by simp [← hk x]⟩⟩
def Spoilt (w w':World) (g b n:Nat) (v:Value):Prop := ∃ out:List Link,Owns w' w.heap.size 110 Link.cells 10 v out∧Sane out∧out.length≤n + 1∧IsTape w' g b∧w.grownBy w' (some g)
theorem tape_SpoilLinks (g b:Nat) (A:Option Addr) (c n:Nat) (l:List Link) (w:World) (hk:IsTape w g b) (hl:SliceIs w w.heap.size Link.cells 10 A l) (hln:l.length=n) (hn:n ≤ 1000) (hs:Sane l) :
 Calls Tryz.prog 17 #[.pointer (some ⟨g,0,none⟩), .slice A n c] w fun e w' =>
  ∃ v,e = .returned v∧Spoilt w w' g b n v:=by
 subst hln
 obtain ⟨i0,hi0,hz0,hz1,hz2⟩:=info_parts infoLink
 have hgl:=hk.ltg
 have hbl:=hk.lt
 have HK:=qh hk
 have HL:=qh hl
 have HS:=qh hs
 clear hk hl hs
 by_cases h0:l.length = 0
 ·have h0':((l.length:Int) == 0)=true:=by rw [h0];rfl
  clear hi0 hz0 hz1 hz2
  go_enter Tryz.func17,Tryz.ntmps17
  go_wp2
  go_ret
  refine ⟨_,rfl,[⟨⟨⟨#[]⟩,0,0,⟨#[]⟩⟩,⟨⟨#[]⟩,0,0,⟨#[]⟩⟩,1,false⟩],Owns.one (Blk.new' rfl) (Nat.le_refl _) link_len,?_,by simp,HK.out.alloc _,only_of_below belA _⟩
  intro x hx
  obtain rfl:=List.mem_singleton.1 hx
  exact ⟨Nat.zero_le _,Nat.zero_le _⟩
 ·have h0':((l.length:Int) == 0)=false:=by rw [beq_eq_false_iff_ne];omega
  have hA : ∃ b5 o5,A=some ⟨b5,o5,none⟩:=by
   obtain ⟨b5,o5,h,_⟩:=HL.out omA
   exact ⟨b5,o5,h⟩
  go_enter Tryz.func17,Tryz.ntmps17
  go_upto_region 3 with (fail)
  go_wp2_with ((at_builtin;go_must (refine wpList_append_list _ rfl (.tmp 12) (.tmp 13) 42 rfl 110 i0 _ Link.cells 10 112 Tryz.underlying42 hi0 hz0 hz1 hz2 rfl omA link_len link_one w.heap.size (.slice (some ⟨w.heap.size,0,none⟩) 0 0) [] rfl (Owns.empty (Blk.new' rfl) (Nat.le_refl _)) _ _ _ l rfl rfl (HL.out.next belA) smA mxA spA ?_);intro v' w1 hown' hg' hat';have hbel:Below w.heap.size w w1:=Below.grown belA hg' spA (own_row (Nat.le_refl _));rw [List.nil_append] at hown';obtain ⟨b1,cap,rfl,hbb⟩:=hat'.elim (fun h=>hown'.some_form h) (fun h=>hown'.some_form h);have HOWN':=qh hown';clear hown'))
  have HK1:Hid (IsTape w1 g b):=HK.out.below hbel
  have hG1:w.grownBy w1 (some g):=only_of_below hbel _
  clear hg' hat' HK HL hi0 hz0 hz1 hz2
  with_reducible refine (tape_Next g b (l.length:Int) _ HK1.out omA omA).mono ?_
  rintro e w2 ⟨r1,rfl,hr1,hk2,hg2⟩
  have hr1':r1<l.length:=by rcases hr1 with h|h <;> omega
  have HO2:=qh (HOWN'.out.grown hg2 omA)
  have hG2:=grown_trans hG1 hg2
  have HK2:=qh hk2
  clear HOWN' hg2 hk2 HK1 hG1 hr1
  go_wp2_with fail
  with_reducible refine (tape_Next g b 6 _ HK2.out omA omA).mono ?_
  rintro e w3 ⟨r2,rfl,hr2,hk3,hg3⟩
  have hr2':r2 < 6:=by rcases hr2 with h|h <;> omega
  have HO3:=qh (HO2.out.grown hg3 omA)
  have hG3:=grown_trans hG2 hg3
  have HK3:=qh hk3
  have hb1:=HO3.out.blk_lt
  clear HO2 hg3 hk3 HK2 hG2 hr2
  rcases (show r2 = 0∨r2 = 1∨r2 = 2∨r2 = 3∨r2 = 4∨r2 = 5 by omega) with rfl|rfl|rfl|rfl|rfl|rfl
  ·go_wp2_with fail
   refine (tape_Next g b 5 _ (HK3.out.alloc _) omA omA).mono ?_
   rintro e w4 ⟨r3,rfl,hr3,hk4,hg4⟩
   have hr3':r3 < 5:=by rcases hr3 with h|h <;> omega
   have HO4:=qh ((HO3.out.alloc _).grown hg4 omA)
   have hG4:=grown_trans (grown_alloc hG3 _) hg4
   have HK4:=qh hk4
   have hS4:=Blk.grown (Blk.new _ _ _) hg4 (fun e=>by injection e with e;have:=hG3.size;omega)
   have hz4:=hS4.lt
   obtain ⟨⟨a0,a1,a2,a3⟩,⟨e0,e1,e2,e3⟩,s8,r9⟩:=Link.cells10 (b:=b1) (o:=r1 * 10) (x:=l[r1]) (fun j u hu=>HO4.out.getc link_len hr1' hu)
   have hfz : ∀ j,w4.frozen? ⟨b1,j,none⟩=false:=fun j=>HO4.out.frz j
   clear hk4 hr3
   obtain ⟨z,hz⟩ : ∃ z:Int,w4.cell? ⟨w3.heap.size,r3,none⟩=some (.int .i64 z):=by
    rw [hS4.cell]
    rcases (show r3 = 0∨r3 = 1∨r3 = 2∨r3 = 3∨r3 = 4 by omega) with rfl|rfl|rfl|rfl|rfl
    all_goals exact ⟨_,rfl⟩
   clear hS4 hg4
   go_wp2_with fail
   go_ret
   have hsx:=HS.out _ (List.getElem_mem hr1')
   exact ⟨_,rfl,l.set r1 ⟨l[r1].a,l[r1].b,z,l[r1].rev⟩,HO4.out.store1 link_len rfl hr1' _ (j := 8) omA rfl rfl,sane_set HS.out _ ⟨hsx.1,hsx.2⟩,by simp,HK4.out.far smA smA _,only_setCell hG4 (.inr smA) _⟩
  ·obtain ⟨⟨a0,a1,a2,a3⟩,⟨e0,e1,e2,e3⟩,s8,r9⟩:=Link.cells10 (b:=b1) (o:=r1 * 10) (x:=l[r1]) (fun j u hu=>HO3.out.getc link_len hr1' hu)
   have hfz : ∀ j,w3.frozen? ⟨b1,j,none⟩=false:=fun j=>HO3.out.frz j
   go_wp2_with fail
   go_ret
   have hsx:=HS.out _ (List.getElem_mem hr1')
   refine ⟨_,rfl,_,Owns.store1 link_len (Owns.store1 link_len (Owns.store1 link_len (Owns.store1 link_len HO3.out rfl hr1' ⟨⟨l[r1].b.ns,l[r1].a.val⟩,l[r1].b,l[r1].seq,l[r1].rev⟩ (j := 0) omA rfl rfl) spA (i:=r1) (by simpa using hr1') ⟨⟨l[r1].b.ns,⟨l[r1].b.val.kind,l[r1].a.val.num,l[r1].a.val.text⟩⟩,l[r1].b,l[r1].seq,l[r1].rev⟩ (j := 1) omA rfl (by simp [Link.cells])) spA (i:=r1) (by simpa using hr1') ⟨⟨l[r1].b.ns,⟨l[r1].b.val.kind,l[r1].b.val.num,l[r1].a.val.text⟩⟩,l[r1].b,l[r1].seq,l[r1].rev⟩ (j := 2) omA rfl (by simp [Link.cells])) spA (i:=r1) (by simpa using hr1') ⟨l[r1].b,l[r1].b,l[r1].seq,l[r1].rev⟩ (j := 3) omA rfl (by simp [Link.cells]),?_,by simp,?_,?_⟩
   ·refine sane_set (sane_set (sane_set (sane_set HS.out _ ?_) _ ?_) _ ?_) _ ?_ <;> exact ⟨hsx.2,hsx.2⟩
   ·exact (((HK3.out.far smA smA _).far smA smA _).far smA smA _).far smA smA _
   ·exact only_setCell (only_setCell (only_setCell (only_setCell hG3 (.inr smA) _) (.inr smA) _) (.inr smA) _) (.inr smA) _
  ·go_wp2_with fail
   refine (tape_Next g b 3 _ (HK3.out.alloc _) omA omA).mono ?_
   rintro e w4 ⟨r3,rfl,hr3,hk4,hg4⟩
   have hr3':r3 < 3:=by rcases hr3 with h|h <;> omega
   have HO4:=qh ((HO3.out.alloc _).grown hg4 omA)
   have hG4:=grown_trans (grown_alloc hG3 _) hg4
   have HK4:=qh hk4
   have hS4:=Blk.grown (Blk.new _ _ _) hg4 (fun e=>by injection e with e;have:=hG3.size;omega)
   have hz4:=hS4.lt
   obtain ⟨⟨a0,a1,a2,a3⟩,⟨e0,e1,e2,e3⟩,s8,r9⟩:=Link.cells10 (b:=b1) (o:=r1 * 10) (x:=l[r1]) (fun j u hu=>HO4.out.getc link_len hr1' hu)
   have hfz : ∀ j,w4.frozen? ⟨b1,j,none⟩=false:=fun j=>HO4.out.frz j
   clear hk4 hr3
   obtain ⟨z,hz,hzl⟩ : ∃ z:ByteArray,w4.cell? ⟨w3.heap.size,r3,none⟩=some (.string z)∧z.size ≤ 1000000:=by
    rw [hS4.cell]
    rcases (show r3 = 0∨r3 = 1∨r3 = 2 by omega) with rfl|rfl|rfl
    all_goals exact ⟨_,rfl,by decide⟩
   clear hS4 hg4
   go_wp2_with fail
   go_ret
   exact ⟨_,rfl,l.set r1 ⟨⟨z,l[r1].a.val⟩,l[r1].b,l[r1].seq,l[r1].rev⟩,HO4.out.store1 link_len rfl hr1' _ (j := 0) omA rfl rfl,sane_set HS.out _ ⟨hzl,(HS.out _ (List.getElem_mem hr1')).2⟩,by simp,HK4.out.far smA smA _,only_setCell hG4 (.inr smA) _⟩
  ·go_wp2_with fail
   refine (tape_Next g b 2 _ (HK3.out.alloc _) omA omA).mono ?_
   rintro e w4 ⟨r3,rfl,hr3,hk4,hg4⟩
   have hr3':r3 < 2:=by rcases hr3 with h|h <;> omega
   have HO4:=qh ((HO3.out.alloc _).grown hg4 omA)
   have hG4:=grown_trans (grown_alloc hG3 _) hg4
   have HK4:=qh hk4
   have hS4:=Blk.grown (Blk.new _ _ _) hg4 (fun e=>by injection e with e;have:=hG3.size;omega)
   have hz4:=hS4.lt
   obtain ⟨⟨a0,a1,a2,a3⟩,⟨e0,e1,e2,e3⟩,s8,r9⟩:=Link.cells10 (b:=b1) (o:=r1 * 10) (x:=l[r1]) (fun j u hu=>HO4.out.getc link_len hr1' hu)
   have hfz : ∀ j,w4.frozen? ⟨b1,j,none⟩=false:=fun j=>HO4.out.frz j
   clear hk4 hr3
   obtain ⟨z0,z1,z2,hz0,hz1,hz2⟩ : ∃ (z0 z1:Int) (z2:ByteArray),w4.cell? ⟨w3.heap.size,r3 * 3,none⟩=some (.int .i64 z0)∧w4.cell? ⟨w3.heap.size,r3 * 3 + 1,none⟩=some (.int .i64 z1)∧w4.cell? ⟨w3.heap.size,r3 * 3 + 2,none⟩=some (.string z2):=by
    rw [hS4.cell,hS4.cell,hS4.cell]
    rcases (show r3 = 0∨r3 = 1 by omega) with rfl|rfl
    all_goals exact ⟨_,_,_,rfl,rfl,rfl⟩
   clear hS4 hg4
   go_wp2_with fail
   go_ret
   have hsx:=HS.out _ (List.getElem_mem hr1')
   refine ⟨_,rfl,_,Owns.store1 link_len (Owns.store1 link_len (Owns.store1 link_len HO4.out rfl hr1' ⟨l[r1].a,⟨l[r1].b.ns,⟨z0,l[r1].b.val.num,l[r1].b.val.text⟩⟩,l[r1].seq,l[r1].rev⟩ (j := 5) omA rfl rfl) spA (i:=r1) (by simpa using hr1') ⟨l[r1].a,⟨l[r1].b.ns,⟨z0,z1,l[r1].b.val.text⟩⟩,l[r1].seq,l[r1].rev⟩ (j := 6) omA rfl (by simp [Link.cells])) spA (i:=r1) (by simpa using hr1') ⟨l[r1].a,⟨l[r1].b.ns,⟨z0,z1,z2⟩⟩,l[r1].seq,l[r1].rev⟩ (j := 7) omA rfl (by simp [Link.cells]),?_,by simp,?_,?_⟩
   ·refine sane_set (sane_set (sane_set HS.out _ ?_) _ ?_) _ ?_ <;> exact ⟨hsx.1,hsx.2⟩
   ·exact ((HK4.out.far smA smA _).far smA smA _).far smA smA _
   ·exact only_setCell (only_setCell (only_setCell hG4 (.inr smA) _) (.inr smA) _) (.inr smA) _
  ·obtain ⟨⟨a0,a1,a2,a3⟩,⟨e0,e1,e2,e3⟩,s8,r9⟩:=Link.cells10 (b:=b1) (o:=r1 * 10) (x:=l[r1]) (fun j u hu=>HO3.out.getc link_len hr1' hu)
   have hfz : ∀ j,w3.frozen? ⟨b1,j,none⟩=false:=fun j=>HO3.out.frz j
   go_wp2_with fail
   go_ret
   have hsx:=HS.out _ (List.getElem_mem hr1')
   exact ⟨_,rfl,l.set r1 ⟨l[r1].a,l[r1].b,l[r1].seq,!l[r1].rev⟩,HO3.out.store1 link_len rfl hr1' _ (j := 9) omA rfl rfl,sane_set HS.out _ ⟨hsx.1,hsx.2⟩,by simp,HK3.out.far smA smA _,only_setCell hG3 (.inr smA) _⟩
  ·obtain ⟨⟨a0,a1,a2,a3⟩,⟨e0,e1,e2,e3⟩,s8,r9⟩:=Link.cells10 (b:=b1) (o:=r1 * 10) (x:=l[r1]) (fun j u hu=>HO3.out.getc link_len hr1' hu)
   obtain ⟨i0,hi0,hz0,hz1,hz2⟩:=info_parts infoLink
   go_wp2_with (at_builtin;go_must (refine wpList_append_list _ rfl (.tmp 21) (.tmp 26) 42 rfl 110 i0 _ Link.cells 10 112 Tryz.underlying42 hi0 hz0 hz1 hz2 rfl omA link_len link_one w.heap.size (.slice (some ⟨b1,0,none⟩) l.length cap) l rfl (HO3.out.alloc _) _ _ _ [l[r1]] rfl rfl (Blk.one (enc:=Link.cells) (x:=l[r1]) (Blk.new' spA) spA) smA mxA (by have:=hG3.size;simp at this ⊢;omega) ?_);intro v' w6 hown' hg' hat';have HOWN':=qh hown';clear hown';have HK6:Hid (IsTape w6 g b):=(HK3.out.alloc _).grownO hg' (ne_row omA) (ne_row omA);have HG6:Hid (w.grownBy w6 (some g)):=grown_newO (grown_alloc hG3 _) hg' (own_row hbb))
   go_ret
   refine ⟨_,rfl,_,HOWN'.out,?_,by simp,HK6.out,HG6.out⟩
   intro x hx
   rcases List.mem_append.1 hx with hx|hx
   ·exact HS.out x hx
   ·obtain rfl:=List.mem_singleton.1 hx
    exact HS.out _ (List.getElem_mem hr1')
end Go.Proofs.YtlpgmdhnjckplaaGreat
