/-
  Contracts and plain laws of this seat, part 17: Within, GrowM, Grow, HolP.
-/
import Derived.Test.YtmckeeegphgekaaGreatU1
import Derived.Test.YtmckeeegphgekaaGreatU2
import Derived.Test.YtmckeeegphgekaaGreatU4
set_option linter.unusedVariables false
set_option linter.unusedSimpArgs false
namespace Go.Proofs.YtmckeeegphgekaaGreat
open Go.RowKit
theorem edge_take {l:List Link} {n:Nat} {s:Int} (hn : ∀ i (h:i<l.length),n≤i→s<l[i].seq) {u v:Ident} (h:EdgeAt (l.take n) s u v):EdgeAt l s u v:=by
 obtain ⟨i,hi,hd,h2⟩:=h
 have hil:i<l.length:=by simp at hi;omega
 have hin:i<n:=by simp at hi;omega
 have e:(l.take n)[i]=l[i]:=List.getElem_take
 refine ⟨i,hil,?_,by rw [e] at h2;exact h2⟩
 rw [e] at hd
 have key:(l.drop (i + 1)).takeWhile (fun y=>decide (y.seq≤s))=((l.take n).drop (i + 1)).takeWhile (fun y=>decide (y.seq≤s)):=by
  have e1:l.drop (i + 1)=(l.take n).drop (i + 1)++l.drop n:=by
   conv=>lhs;rw [← List.take_append_drop n l]
   rw [List.drop_append]
   rcases Nat.lt_or_ge n l.length with h3|h3
   ·rw [List.length_take_of_le (by omega),show i + 1 - n = 0 by omega];simp
   ·rw [List.drop_eq_nil_of_le h3];simp
  have e2:(l.drop n).takeWhile (fun y=>decide (y.seq≤s)) = []:=by
   rcases Nat.lt_or_ge n l.length with h3|h3
   ·rw [List.drop_eq_getElem_cons h3,List.takeWhile_cons_of_neg]
    have:=hn n h3 (Nat.le_refl _)
    simp;omega
   ·rw [List.drop_eq_nil_of_le h3];rfl
  rw [e1,List.takeWhile_append]
  split
  ·rename_i h4
   rw [e2,List.append_nil]
   exact (List.IsPrefix.eq_of_length (List.takeWhile_prefix _) h4).symm
  ·rfl
 unfold directB at hd ⊢
 rw [key]
 exact hd
theorem subject_take {l:List Link} (hp:l.Pairwise (fun x y=>x.seq<y.seq)) {n:Nat} {f:Int} (hn : ∀ i (h:i<l.length),n≤i→f<l[i].seq) {u v:Ident} (h:InSubject (l.take n) u f v):InSubject l u f v:=by
 have lift : ∀ s,(∀ i (h:i<l.length),n≤i→s<l[i].seq) → ∀ {v},Reach (l.take n) s u v→Reach l s u v:=by
  intro s hs v hr
  induction hr with
  | refl=>exact .refl
  | step _ e ih=>exact .step ih (edge_take hs e)
 rcases h with h|⟨x,hx,hxf,h⟩
 ·exact .inl (lift f hn h)
 ·refine .inr ⟨x,List.mem_of_mem_take hx,hxf,lift x.seq (fun i hi hni => ?_) h⟩
  obtain ⟨j,hj,rfl⟩:=List.getElem_of_mem hx
  rw [List.getElem_take]
  exact List.pairwise_iff_getElem.1 hp j i (by simp at hj;omega) hi (by simp at hj;omega)
theorem IsTape.drew {w:World} {g b:Nat} (h:IsTape w g b):IsTape w.drew g b:=h.below (Below.refl _ _).drew
theorem valid_take {l:List Link} (h:validLinks l=true) (n:Nat):validLinks (l.take n)=true:=by
 simp only [validLinks,Bool.and_eq_true,decide_eq_true_eq] at h ⊢
 refine ⟨by simp;omega,?_⟩
 cases h1:validFrom 0 (l.take n)
 ·have h2:=validFrom_app 0 _ (l.drop n) h1
  rw [List.take_append_drop] at h2
  rw [h2] at h
  exact h.2
 ·rfl
theorem subj_take {l:List Link} {who:Ident} {f:Int} {n:Nat} {o o':List Ident} (hv:validLinks l=true) (ha:validId who=true) (ho:SubjectOut (l.take n) who f o) (ho':SubjectOut l who f o') (hn : ∀ i (h:i<l.length),n≤i→f<l[i].seq) : ∀ x∈o,x∈o':=by
 intro x hx
 unfold SubjectOut at ho ho'
 rw [valid_take hv,ha] at ho
 rw [hv,ha] at ho'
 have ho:IsSubject (l.take n) who f o:=ho
 have ho':IsSubject l who f o':=ho'
 exact (ho'.2 x).2 (subject_take (validLinks_asc hv) hn ((ho.2 x).1 hx))
theorem after_exit {l:List Link} (hv:validLinks l=true) {m r:Nat} {f:Int} (hm:m<l.length) (hf:f<l[m].seq) : ∀ i (h:i<l.length),m+r≤i→f<l[i].seq:=by
 intro i hi hmi
 rcases Nat.lt_or_ge m i with h|h
 ·have:=List.pairwise_iff_getElem.1 (validLinks_asc hv) m i hm hi h
  omega
 ·obtain rfl:i=m:=by omega
  omega
theorem block_some {hs:List Hold} {l:List Link} {t c:Int} {own:List Ident} {d:Int} (hv:(validHolds hs&&validLinks l)=true):(blocking hs l t c own d).length ≠ 0 ↔ ∃ x∈hs,activeOn x d=true∧coversB x l t c own=true:=by
 unfold blocking blockTo
 rw [if_pos hv,List.length_map]
 constructor
 ·intro h
  obtain ⟨i,hi⟩:=List.exists_mem_of_length_pos (Nat.pos_of_ne_zero h)
  obtain ⟨h1,h2⟩:=List.mem_filter.1 hi
  have hil:=List.mem_range.1 h1
  rw [List.getElem?_eq_getElem hil] at h2
  simp only [Bool.and_eq_true] at h2
  exact ⟨hs[i],List.getElem_mem hil,h2.1,h2.2⟩
 ·rintro ⟨x,hx,ha,hc⟩
  obtain ⟨i,hi,rfl⟩:=List.getElem_of_mem hx
  refine Nat.ne_of_gt (List.length_pos_of_mem (a:=i) (List.mem_filter.2 ⟨List.mem_range.2 hi,?_⟩))
  rw [List.getElem?_eq_getElem hi]
  simp only [ha,hc]
  rfl
structure UntilLaw (hs:List Hold) (l:List Link) (t c:Int) (own:List Ident) (day r:Int):Prop where
 zero:r = 0↔(blocking hs l t c own day).length = 0
 top:r ≤ 1048576
 later:r ≠ 0→day<r
 held : ∀ d,day≤d→d<r→(blocking hs l t c own d).length ≠ 0
 free : 0<r→(blocking hs l t c own r).length = 0
theorem until_law {hs:List Hold} {l:List Link} {t c:Int} {own:List Ident} {day r:Int} (h:UntilIs hs l t c own day r) (hd : 0≤day):UntilLaw hs l t c own day r:=by
 unfold UntilIs at h
 by_cases hv:(validHolds hs&&validLinks l)=true
 ·rw [if_pos hv] at h
  obtain ⟨u,hU,hf,hr⟩:=h
  have hle:=hU.le
  have hcov : ∀ x,x∈covering hs l t c own day↔x∈hs∧day<x.day1∧coversB x l t c own=true:=fun x=>by
   unfold covering
   rw [List.mem_filter]
   simp
  have hblk : ∀ d,day≤d→((blocking hs l t c own d).length ≠ 0 ↔ ∃ x∈covering hs l t c own day,activeOn x d=true):=fun d hdd=>by
   rw [block_some hv]
   constructor
   ·rintro ⟨x,hx,ha,hc⟩
    have:=active_iff.1 ha
    exact ⟨x,(hcov x).2 ⟨hx,by omega,hc⟩,ha⟩
   ·rintro ⟨x,hx,ha⟩
    have:=(hcov x).1 hx
    exact ⟨x,this.1,ha,this.2.2⟩
  have hfree : ¬ (blocking hs l t c own u).length ≠ 0:=fun hn=>by
   obtain ⟨x,hx,ha⟩:=(hblk u hle).1 hn
   rw [hf x hx] at ha
   cases ha
  have hfree:(blocking hs l t c own u).length = 0:=by omega
  by_cases hu:u=day
  ·rw [if_pos hu] at hr
   subst hr
   rw [hu] at hfree
   exact ⟨⟨fun _=>hfree,fun _=>rfl⟩,by omega,fun h=>absurd rfl h,fun d h1 h2=>by omega,fun h=>by omega⟩
  ·rw [if_neg hu] at hr
   subst hr
   have hheld : ∀ d,day≤d→d<r→(blocking hs l t c own d).length ≠ 0:=fun d h1 h2=>(hblk d h1).2 (hU.held d h1 h2)
   refine ⟨⟨fun h=>by omega,fun h=>absurd h (hheld day (Int.le_refl _) (by omega))⟩,?_,fun _=>by omega,hheld,fun _=>hfree⟩
   obtain ⟨x,hx,ha⟩:=hU.held (r - 1) (by omega) (by omega)
   have h1:=active_iff.1 ha
   have hxs:=((hcov x).1 hx).1
   simp only [Bool.and_eq_true] at hv
   have h2:=hv.1
   unfold validHolds at h2
   simp only [Bool.and_eq_true,List.all_eq_true] at h2
   have h3:=(holdOk_iff x).1 (h2.2 x hxs)
   omega
 ·rw [if_neg hv] at h
  subst h
  have hb : ∀ d,(blocking hs l t c own d).length = 0:=fun d=>by
   unfold blocking
   rw [if_neg hv]
   rfl
  exact ⟨⟨fun _=>hb _,fun _=>rfl⟩,by omega,fun h=>absurd rfl h,fun d h1 h2=>by omega,fun h=>by omega⟩
theorem some_sorted (P:Ident→Prop) : ∀ m:List Ident,(∀ y∈m,validId y=true) → ∃ o,Asc o∧AllValid o ∧ ∀ y,y∈o↔y∈m∧P y
 | [],_=>⟨[],List.Pairwise.nil,(fun y hy=>by cases hy),(fun y=>by simp)⟩
 | x::m,hm=>by
   obtain ⟨o,h1,h2,h3⟩:=some_sorted P m fun y hy=>hm y (List.mem_cons_of_mem _ hy)
   have hx:=hm x (List.mem_cons_self ..)
   by_cases hp:P x
   ·obtain ⟨g1,g2,_⟩:=insertId_spec h1 h2 hx
    refine ⟨insertId o x,g1,fun y hy => ?_,fun y => ?_⟩
    ·rcases (g2 y).1 hy with rfl|h
     ·exact hx
     ·exact h2 y h
    ·rw [g2,h3,List.mem_cons]
     constructor
     ·rintro (rfl|⟨h,k⟩)
      ·exact ⟨.inl rfl,hp⟩
      ·exact ⟨.inr h,k⟩
     ·rintro ⟨rfl|h,k⟩
      ·exact .inl rfl
      ·exact .inr ⟨h,k⟩
   ·refine ⟨o,h1,h2,fun y => ?_⟩
    rw [h3,List.mem_cons]
    constructor
    ·rintro ⟨h,k⟩
     exact ⟨.inr h,k⟩
    ·rintro ⟨rfl|h,k⟩
     ·exact absurd k hp
     ·exact ⟨h,k⟩
theorem some_subject {l:List Link} {who:Ident} (hv:validLinks l=true) (ha:validId who=true) (f:Int) : ∃ o,SubjectOut l who f o:=by
 obtain ⟨o,h1,_,h3⟩:=some_sorted (InSubject l who f) (named l who) fun y hy=>named_valid hv ha hy
 refine ⟨o,?_⟩
 unfold SubjectOut
 rw [hv,ha,Bool.true_and,if_pos rfl]
 refine ⟨h1,fun y=>(h3 y).trans ⟨fun h=>h.2,fun h=>⟨?_,h⟩⟩⟩
 rcases h with h|⟨x,_,_,h⟩
 ·exact h.named
 ·exact h.named
theorem covers_take {x:Hold} {l:List Link} {t c:Int} {own:List Ident} {n:Nat} (hv:validLinks l=true) (hn : ∀ i (h:i<l.length),n≤i→x.seq<l[i].seq) (hw:x.who≠noId→validId x.who=true) (h:coversB x (l.take n) t c own=true):coversB x l t c own=true:=by
 unfold coversB at h ⊢
 simp only [Bool.and_eq_true,Bool.or_eq_true,decide_eq_true_eq] at h ⊢
 refine ⟨h.1,?_⟩
 rcases h.2 with h2|h2
 ·exact .inl h2
 ·by_cases hx:x.who=noId
  ·exact .inl hx
  ·refine .inr ?_
   have ha:=hw hx
   unfold inSubject at h2
   rw [@decide_eq_true_iff _ (Classical.propDecidable _)] at h2
   obtain ⟨o,ho,hany⟩:=h2
   obtain ⟨o',ho'⟩:=some_subject hv ha x.seq
   rw [inSubject_eq ho',List.any_eq_true]
   obtain ⟨y,hy,hyo⟩:=List.any_eq_true.1 hany
   exact ⟨y,hy,by simpa using subj_take hv ha ho ho' hn y (by simpa using hyo)⟩
end Go.Proofs.YtmckeeegphgekaaGreat
