/-
  Contracts and plain laws of this seat, part 70.
-/
import Derived.DeepKeys4
import Derived.Test.YtjidligipoldeaaGreatS64
set_option linter.unusedVariables false
set_option linter.unusedSimpArgs false
set_option maxRecDepth 100000
set_option maxHeartbeats 16000000
namespace Go.Proofs.YtjidligipoldeaaGreat
open Go.RowKit
abbrev UpS(l:List Src):Prop:=l.Pairwise (fun a b=>oO a b∨a=b)
def EE(ts:List Tab)(rt:List RTab)(gone:List Src)(seq day:Int)(l:List Chg):Prop:=
 (Qe ts rt gone seq day ∧ ∃L,L.Perm (PH rt gone)∧UpS L∧l=R6 rt seq day L)∨(¬ Qe ts rt gone seq day∧l=[])
theorem EE.one{ts:List Tab}{rt:List RTab}{gone:List Src}{seq day:Int}{l l':List Chg}(h:EE ts rt gone seq day l)(h':EE ts rt gone seq day l'):l=l':=by
 rcases h with ⟨h1,L,h2,h3,rfl⟩|⟨h1,rfl⟩<;>rcases h' with ⟨k1,L',k2,k3,rfl⟩|⟨k1,rfl⟩
 ·rw[xm (h2.trans k2.symm) h3 k3]
 ·exact absurd h1 k1
 ·exact absurd k1 h1
 ·rfl
theorem MX{rt:List RTab}{seq day:Int}{l:List Src}:∀x∈R6 rt seq day l,x.row=[]:=fun x hx=>by
 unfold R6 at hx
 obtain⟨i,h,rfl⟩:=List.mem_mapIdx.1 hx
 rfl
theorem EE.row{ts:List Tab}{rt:List RTab}{gone:List Src}{seq day:Int}{l:List Chg}(h:EE ts rt gone seq day l):∀x∈l,x.row=[]:=by
 rcases h with ⟨h1,L,h2,h3,rfl⟩|⟨h1,rfl⟩
 ·exact MX
 ·intro x hx;cases hx
def VT(s:Src):Value:= .agg #[.int .i64 s.tab,.int .i64 s.seq]
open Go.RowKit Go
theorem Aq{d:Nat}{a:Int}(ha:-1≤a∧a≤1073741824):Tryz.prog.keyLits (d+1) 3 [.int .i64 a]=some [.int .i64 a]:=by
 have hw:(Lit.int .i64 a).wf=true:=by
  have h1:IntKind.i64.min≤a:=Int.le_trans (by decide) ha.1
  simp[Lit.wf,h1];omega
 unfold Program.keyLits
 rw[Tryz.underlying3]
 simp[hw]
theorem KR{a b:Int}(ha:-1≤a∧a≤1073741824)(hb:0≤b∧b≤1073741824):∃kl,Go.keyOf Tryz.prog 133 (.agg #[.int .i64 a,.int .i64 b])=some kl:=by
 have hsz:Tryz.prog.cellsOf 133=2:=by kernel_rfl
 have hs3:Tryz.prog.cellsOf 3=1:=by kernel_rfl
 have hkt:Tryz.prog.keyType 133=true:=by kernel_rfl
 obtain⟨n,hn⟩:∃n,Tryz.prog.types.size=n+1:=⟨Tryz.prog.types.size-1,by kernel_rfl⟩
 have hf:(Value.agg #[.int .i64 a,.int .i64 b]).formed Tryz.prog 133=true:=by
  unfold Value.formed
  rw[Tryz.underlying133,hsz]
  rfl
 have hl:Tryz.prog.keyLits (Tryz.prog.types.size+1) 133 [.int .i64 a,.int .i64 b]=some [.int .i64 a,.int .i64 b]:=by
  rw[hn]
  unfold Program.keyLits
  rw[Tryz.underlying133]
  simp[hsz,hs3,Aq ha,Aq (a:=b) ⟨by omega,hb.2⟩]
 refine⟨.string (keyBytes [.int .i64 a,.int .i64 b]),?_⟩
 unfold Go.keyOf
 rw[Tryz.underlying133,hkt,hf]
 show Option.map (fun ls=>Lit.string (keyBytes ls)) (Tryz.prog.keyLits (Tryz.prog.types.size+1) 133 [.int .i64 a,.int .i64 b])=_
 rw[hl]
 rfl
def zh(l:List Src):Prop:= ∀s∈l,-1≤s.tab∧s.tab≤1000 ∧ 0≤s.seq∧s.seq≤1073741824
theorem zh.snoc{l:List Src}(h:zh l){s:Src}(hs:-1≤s.tab∧s.tab≤1000 ∧ 0≤s.seq∧s.seq≤1073741824):zh (l ++ [s]):=fun x hx=>by
 rcases List.mem_append.1 hx with h1|h1
 ·exact h x h1
 ·rw[List.mem_singleton.1 h1];exact hs
theorem zh.key{l:List Src}(h:zh l){s:Src}(hs:s∈l):∃kl,Go.keyOf Tryz.prog 133 (VT s)=some kl:=by
 obtain⟨h1,h2,h3,h4⟩:=h s hs
 exact KR ⟨h1,by omega⟩ ⟨h3,h4⟩
open Go.RowKit Go
section
variable {P:Program}{ops:Array Oper}{Q:Exit→Act→World→Prop}{md:Region.Mode}{S:World→Prop}
end
theorem ah.QQ{w:World}{base g n cap i:Nat}{l:List Val}(h:ah w base 50 Val.cells 3 (.slice (some ⟨g,0,none⟩) n cap) l)(hn:n=l.length)(hi:i<l.length)(x:Val):
 ah (((w.setCell ⟨g,i*3,none⟩ (.int .i64 x.kind)).setCell ⟨g,i*3+1,none⟩ (.int .i64 x.num)).setCell ⟨g,i*3+2,none⟩ (.string x.text)) base 50 Val.cells 3 (.slice (some ⟨g,0,none⟩) n cap) (l.set i x):=by
 have h0:=h.gJ bn hn hi ⟨x.kind,l[i].num,l[i].text⟩ (j:= 0) (o:=i*3) (u:= .int .i64 x.kind) omA rfl rfl
 have h1:=h0.gJ bn (by simpa using hn) (i:=i) (by simpa using hi) ⟨x.kind,x.num,l[i].text⟩ (j:= 1) (o:=i*3+1) (u:= .int .i64 x.num) omA rfl (by simp[Val.cells])
 have h2:=h1.gJ bn (by simpa using hn) (i:=i) (by simpa using hi) x (j:= 2) (o:=i*3+2) (u:= .string x.text) omA rfl (by simp[Val.cells])
 simpa only[List.set_set]using h2
def nM(R l:List Val)(j:Nat):List Val:=R.take j++l.drop j
theorem Lg{R l:List Val}(h:R.length=l.length){j:Nat}(hj:j≤l.length):(nM R l j).length=l.length:=by
 unfold nM
 rw[List.length_append,List.length_take,List.length_drop]
 omega
theorem Iu(R l:List Val):nM R l 0=l:=by simp[nM]
theorem Lh{R l:List Val}(h:R.length=l.length):nM R l l.length=R:=by
 unfold nM
 rw[List.drop_length,List.append_nil,←h,List.take_length]
theorem Lf{R l:List Val}(h:R.length=l.length){j:Nat}(hj:j<l.length)(hR:j<R.length):(nM R l j).set j R[j]=nM R l (j+1):=by
 unfold nM
 rw[List.set_append_right _ _ (by rw[List.length_take];omega),List.length_take,Nat.min_eq_left omA,Nat.sub_self,List.drop_eq_getElem_cons hj,List.set_cons_zero,List.take_succ_eq_append_getElem hR,List.append_assoc,List.singleton_append]
theorem Iw{R l:List Val}(h:R.length=l.length){j:Nat}(hj:j<l.length)(hR:j<R.length)(he:R[j]=l[j]):nM R l j=nM R l (j+1):=by
 unfold nM
 rw[List.drop_eq_getElem_cons hj,List.take_succ_eq_append_getElem hR,List.append_assoc,List.singleton_append,he]
open Go.RowKit Go
theorem Ms{ts:List Tab}{l:List Chg}{n:Nat}(hok:aR ts)(hh:GA ts n l)(hl:l.length≤1024):dh ts l:=by
 obtain⟨⟨pl,hc⟩,_,hp⟩:=hh
 exact Jl hok hc hp hl
theorem iT.cells{w:World}{base:Nat}{A:Option Addr}{c:Nat}{l:List Chg}(h:iT w base A c l):ag w w.heap.size Chg.cells 12 A l:=h.read.1
end Go.Proofs.YtjidligipoldeaaGreat
