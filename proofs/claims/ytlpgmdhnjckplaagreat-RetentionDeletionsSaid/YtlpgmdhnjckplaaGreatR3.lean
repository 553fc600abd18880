/-
  Contracts and plain laws of this seat, part 3: Hold, Cover, Block, Until, HAwake, Src, Rec, SortSrc, CompSrc, RefHold, RefCov.
-/
import Derived.Test.YtlpgmdhnjckplaaGreatR2
import Derived.Test.YtlpgmdhnjckplaaGreatR1
set_option linter.unusedVariables false
set_option linter.unusedSimpArgs false
set_option maxRecDepth 100000
set_option maxHeartbeats 16000000
namespace Go.Proofs.YtlpgmdhnjckplaaGreat
open Go.RowKit
structure Hold where
 table:Int
 column:Int
 who:Ident
 seq:Int
 day0:Int
 day1:Int
def noId:Ident:=⟨⟨#[]⟩,0,0,⟨#[]⟩⟩
theorem Owned.blk {w:World} {g:Nat} {a b c d e f g' h:Value} (k:Blk w g 55 #[a,b,c,d,e,f,g',h]) :
 w.cell? ⟨g,0,none⟩=some a∧w.cell? ⟨g,1,none⟩=some b∧w.cell? ⟨g,2,none⟩=some c∧w.cell? ⟨g,3,none⟩=some d∧w.cell? ⟨g,4,none⟩=some e∧w.cell? ⟨g,5,none⟩=some f∧w.cell? ⟨g,6,none⟩=some g'∧w.cell? ⟨g,7,none⟩=some h :=
 ⟨k.cell 0,k.cell 1,k.cell 2,k.cell 3,k.cell 4,k.cell 5,k.cell 6,k.cell 7⟩
theorem Blk.all {α : Type} {w:World} {g B k:Nat} {t:TypeId} {enc : α → List Value} {l:List α} (hk : ∀ x,(enc x).length=k) (h:Blk w g t (l.flatMap enc).toArray) (hB:g<B):SliceIs w B enc k (some ⟨g,0,none⟩) l :=
 fun _=>⟨g,0,rfl,hB,fun i hi j u hu=>by rw [h.cell,Nat.zero_add];simpa using flat_get hk l i hi j u hu⟩
def hA:Hold:=⟨-1,-1,noId,1,3,5⟩
def hB:Hold:=⟨-1,-1,noId,1,5,9⟩
structure Src where
 tab:Int
 seq:Int
instance:DecidableEq Src:=fun a b =>
 if h:a.tab=b.tab∧a.seq=b.seq then isTrue (by obtain ⟨_,_⟩:=a;obtain ⟨_,_⟩:=b;simp at h;simp [h])
 else isFalse (fun e=>h (by simp [e]))
instance:Inhabited Src:=⟨⟨0,0⟩⟩
def Src.cells (x:Src):List Value := [.int .i64 x.tab, .int .i64 x.seq]
theorem src_len : ∀ x:Src,(Src.cells x).length = 2:=fun _=>rfl
theorem src_one : ∀ x:Src,∀ u∈Src.cells x,u.oneCell'=true:=by
 intro x u hu
 simp only [Src.cells,List.mem_cons,List.not_mem_nil,or_false] at hu
 rcases hu with rfl|rfl <;> rfl
theorem infoSrc:(Tryz.prog.info? 68).map (fun i=>(i.zero,i.size,i.bytes))=some (some (.agg #[.int .i64 0, .int .i64 0]),2,16):=by kernel_rfl
def lessS (a b:Src):Prop:=a.tab<b.tab∨a.tab=b.tab∧a.seq<b.seq
instance (a b:Src):Decidable (lessS a b):=by unfold lessS;infer_instance
def cmpSrc (a b:Src):Int:=if cmpInt a.tab b.tab = 0 then cmpInt a.seq b.seq else cmpInt a.tab b.tab
theorem lessS_trans {a b c:Src} (h:lessS a b) (k:lessS b c):lessS a c:=by unfold lessS at *;omega
theorem lessS_irrefl (a:Src) : ¬ lessS a a:=by unfold lessS;omega
theorem src_ext {a b:Src} (h1:a.tab=b.tab) (h2:a.seq=b.seq):a=b:=by
 obtain ⟨_,_⟩:=a
 obtain ⟨_,_⟩:=b
 simp at h1 h2
 simp [h1,h2]
theorem lessS_tri (a b:Src):lessS a b∨a=b∨lessS b a:=by
 by_cases h:a=b
 ·exact .inr (.inl h)
 ·have : ¬ (a.tab=b.tab∧a.seq=b.seq):=fun e=>h (src_ext e.1 e.2)
  unfold lessS
  omega
theorem cmpInt_neg {a b:Int}:cmpInt a b < 0↔a<b:=by unfold cmpInt;split <;> (try split) <;> omega
theorem cmpInt_zero {a b:Int}:cmpInt a b = 0↔a=b:=by unfold cmpInt;split <;> (try split) <;> omega
theorem cmpSrc_lt {a b:Src}:cmpSrc a b < 0↔lessS a b:=by
 unfold cmpSrc lessS
 split
 ·rename_i h
  rw [cmpInt_zero] at h
  rw [cmpInt_neg]
  omega
 ·rename_i h
  rw [cmpInt_zero] at h
  rw [cmpInt_neg]
  omega
theorem Blk.two {w:World} {g B:Nat} {t:TypeId} {a b:Int} (h:Blk w g t #[.int .i64 a, .int .i64 b]) (hB:g<B):SliceIs w B intCells 1 (some ⟨g,0,none⟩) [a,b]:=Blk.all int_len (l := [a,b]) h hB
/-! A sorted list without its doubles. -/
section
variable {α : Type} [DecidableEq α]
end
def orOf:List Int→Int
 | [] => 0
 | x::l=>if x = 0 then orOf l else x
theorem orOf_at : ∀ {l:List Int} {m:Nat} (h:m<l.length),(∀ i (h:i<l.length),i<m→l[i] = 0)→l[m] ≠ 0→orOf l=l[m]
 | x::l,0,_,_,hx=>by simp only [orOf];rw [if_neg (by simpa using hx)];rfl
 | x::l,m + 1,h,h0,hx=>by
   have e:x = 0:=h0 0 spA omA
   simp only [orOf]
   rw [if_pos e]
   have:=orOf_at (l:=l) (m:=m) (by simpa using h) (fun i hi hm=>h0 (i + 1) (by simpa using hi) omA) (by simpa using hx)
   simpa using this
theorem orOf_none : ∀ {l:List Int},(∀ i (h:i<l.length),l[i] = 0)→orOf l = 0
 | [],_=>rfl
 | x::l,h=>by
   have e:x = 0:=h 0 spA
   simp only [orOf]
   rw [if_pos e]
   exact orOf_none (fun i hi=>h (i + 1) (by simpa using hi))
theorem orOf_two (a b:Int):orOf [a,b]=if a = 0 then b else a:=by
 simp only [orOf]
 by_cases h:a = 0
 ·rw [if_pos h,if_pos h]
  by_cases k:b = 0
  ·rw [if_pos k,k]
  ·rw [if_neg k]
 ·rw [if_neg h,if_neg h]
theorem cmp_Or (A:Option Addr) (c n:Nat) (l:List Int) (w:World) (hl:SliceIs w w.heap.size intCells 1 A l) (hln:l.length=n) (hn:n ≤ 1000000) :
 Calls Tryz.prog 132 #[.slice A n c] w fun e w'=>e = .returned (.int .i64 (orOf l))∧w=w':=by
 subst hln
 have HL:=qh hl
 clear hl
 go_enter Tryz.func132,Tryz.ntmps132
 go_wp2_with fail
 go_loopw [8] (fun vi wr => ∃ m:Nat,m≤l.length∧vi = .int .i64 m∧w=wr∧(∀ i (h:i<l.length),i<m→l[i] = 0)) (fun vi _=>l.length - (intOf vi).toNat)
 case atStart=>exact ⟨0,Nat.zero_le _,rfl,rfl,fun i _ h=>by omega⟩
 case round =>
  obtain ⟨m,hm,rfl,rfl,hok⟩:=hrel
  have HOK:=qh hok
  clear hok
  by_cases hlt:m<l.length
  ·obtain ⟨b5,o5,rfl,hb5,hc5⟩:=HL.out.get hlt
   have x0:=hc5 0 _ rfl
   simp only [Nat.mul_one,Nat.add_zero] at x0
   clear hc5
   by_cases hz:l[m] = 0
   ·have hz':(l[m] != 0)=false:=by simpa using hz
    have HZ:=qh hz
    clear hz
    go_wp2_with fail
    go_roundw
    case rel=>exact ⟨m + 1,by omega,by go_num,trivial,fun i h hi=>by
     rcases Nat.lt_or_ge i m with h1|h1
     ·exact HOK.out i h h1
     ·obtain rfl:i=m:=by omega
      exact HZ.out⟩
    case measure=>simp [intOf];omega
   ·have hz':(l[m] != 0)=true:=by simpa using hz
    have HF:=qh (orOf_at hlt HOK.out hz)
    clear hz
    go_wp2_with fail
    go_ret
    exact ⟨ret_int HF.out.symm,rfl⟩
  ·have hlt':decide (m<l.length)=false:=by simpa using hlt
   have HF:=qh (orOf_none (l:=l) (fun i h=>HOK.out i h omA))
   go_wp2_with fail
   go_ret
   exact ⟨ret_int HF.out.symm,rfl⟩
open Go.RowKit Go.Shelf Go.Sort
theorem eqlSrc (x y:Src) (w:World):(Op.equalIn 10000 68 (.agg #[.int .i64 x.tab, .int .i64 x.seq]) (.agg #[.int .i64 y.tab, .int .i64 y.seq])).run Tryz.prog w = .ok (decide (x=y)) w:=by
 have hS:Tryz.prog.underlying 68=some (.struct (Tryz.prog.fieldsOf 68)):=by kernel_rfl
 have hp:Tryz.prog.stoodInHeld 68=false:=by kernel_rfl
 have u3:=Tryz.underlying3
 rw [show (10000:Nat) = 9999 + 1 from rfl,run_equalIn_agg w _ 68 _ _ hS hp]
 simp only [Program.fieldsOf,Tryz.underlying68]
 go_simp
 obtain ⟨a,b⟩:=x
 obtain ⟨a',b'⟩:=y
 simp only [Src.mk.injEq]
 by_cases h0:a=a' <;> by_cases h1:b=b' <;> simp [h0,h1]
theorem eqlSrc_of {x y:Src} {b:Bool} (h:decide (x=y)=b) : ∀ w:World,(Op.equalIn 10000 68 (.agg #[.int .i64 x.tab, .int .i64 x.seq]) (.agg #[.int .i64 y.tab, .int .i64 y.seq])).run Tryz.prog w = .ok b w :=
 fun w=>by rw [eqlSrc,h]
end Go.Proofs.YtlpgmdhnjckplaaGreat
