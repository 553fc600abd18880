/-
  Contracts and plain laws of this seat, part 70.
-/
import Derived.Test.YtjidligipoldeaaGreatT64
import Derived.DeepKeys4
set_option linter.unusedVariables false
set_option linter.unusedSimpArgs false
set_option maxRecDepth 100000
set_option maxHeartbeats 16000000
namespace Go.Proofs.YtjidligipoldeaaGreat
open Go.RowKit Go
theorem aj.QX{w:World}{base g n cap i:Nat}{l:List Val}(h:aj w base 50 Val.cells 3 (.slice (some ⟨g,0,none⟩) n cap) l)(hn:n=l.length)(hi:i<l.length)(x:Val):
 aj (((w.setCell ⟨g,i*3,none⟩ (.int .i64 x.kind)).setCell ⟨g,i*3+1,none⟩ (.int .i64 x.num)).setCell ⟨g,i*3+2,none⟩ (.string x.text)) base 50 Val.cells 3 (.slice (some ⟨g,0,none⟩) n cap) (l.set i x):=by
 have h0:=h.gV bC hn hi ⟨x.kind,l[i].num,l[i].text⟩ (j:= 0) (o:=i*3) (u:= .int .i64 x.kind) omA rfl rfl
 have h1:=h0.gV bC (by simpa using hn) (i:=i) (by simpa using hi) ⟨x.kind,x.num,l[i].text⟩ (j:= 1) (o:=i*3+1) (u:= .int .i64 x.num) omA rfl (by simp[Val.cells])
 have h2:=h1.gV bC (by simpa using hn) (i:=i) (by simpa using hi) x (j:= 2) (o:=i*3+2) (u:= .string x.text) omA rfl (by simp[Val.cells])
 simpa only[List.set_set]using h2
def og(R l:List Val)(j:Nat):List Val:=R.take j++l.drop j
theorem Lj{R l:List Val}(h:R.length=l.length){j:Nat}(hj:j≤l.length):(og R l j).length=l.length:=by
 unfold og
 rw[List.length_append,List.length_take,List.length_drop]
 omega
theorem Ii(R l:List Val):og R l 0=l:=by simp[og]
theorem Lm{R l:List Val}(h:R.length=l.length):og R l l.length=R:=by
 unfold og
 rw[List.drop_length,List.append_nil,←h,List.take_length]
theorem Li{R l:List Val}(h:R.length=l.length){j:Nat}(hj:j<l.length)(hR:j<R.length):(og R l j).set j R[j]=og R l (j+1):=by
 unfold og
 rw[List.set_append_right _ _ (by rw[List.length_take];omega),List.length_take,Nat.min_eq_left omA,Nat.sub_self,List.drop_eq_getElem_cons hj,List.set_cons_zero,List.take_succ_eq_append_getElem hR,List.append_assoc,List.singleton_append]
theorem Ij{R l:List Val}(h:R.length=l.length){j:Nat}(hj:j<l.length)(hR:j<R.length)(he:R[j]=l[j]):og R l j=og R l (j+1):=by
 unfold og
 rw[List.drop_eq_getElem_cons hj,List.take_succ_eq_append_getElem hR,List.append_assoc,List.singleton_append,he]
open Go.RowKit Go
theorem MB{ts:List Tab}{l:List Chg}{n:Nat}(hok:aN ts)(hh:Gl ts n l)(hl:l.length≤1024):bK ts l:=by
 obtain⟨⟨pl,hc⟩,_,hp⟩:=hh
 exact Jk hok hc hp hl
end Go.Proofs.YtjidligipoldeaaGreat
