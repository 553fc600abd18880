/-
  Contracts and plain laws of this seat, part 26: RetF, DelP, PDel, EndE.
-/
import Derived.Test.YtkiglflbngfelaaGreatQ18
import Derived.Test.YtkiglflbngfelaaGreatQ6
import Derived.Test.YtkiglflbngfelaaGreatQ22
import Derived.Test.YtkiglflbngfelaaGreatQ24
import Derived.Test.YtkiglflbngfelaaGreatQ25
set_option linter.unusedVariables false
set_option linter.unusedSimpArgs false
set_option maxRecDepth 100000
set_option maxHeartbeats 16000000
namespace Go.Proofs.YtkiglflbngfelaaGreat
open Go.RowKit
abbrev UpS (l:List Src):Prop:=l.Pairwise (fun a b=>iY a b∨a=b)
theorem pg {rt:List RTab} {s:Src} : ∀ {n:Nat},s∈cz rt n → ∃ i r,i<n∧r∈qj rt i∧s=gL i r
 | 0,h=>by cases h
 | n + 1,h=>by
   rw [cz] at h
   rcases List.mem_append.1 h with h|h
   ·obtain ⟨i,r,h1,h2,h3⟩:=pg h
    exact ⟨i,r,by omega,h2,h3⟩
   ·obtain ⟨r,h1,h2⟩:=List.mem_map.1 h
    exact ⟨n,r,by omega,h1,h2.symm⟩
noncomputable def gW (gone l:List Src):List Src:=l.filter fun s=>decide (s∈gone)
theorem E9 {rt:List RTab} {gone l:List Src} (h:l.Perm (cz rt rt.length)):(gW gone l).Perm (CP rt gone):=h.filter _
theorem Bl (gone l l':List Src):gW gone (l++l')=gW gone l++gW gone l':=List.filter_append ..
theorem CO (gone l:List Src):(gW gone l).length≤l.length:=List.length_filter_le ..
def uK (ts:List Tab) (rt:List RTab) (gone:List Src) (seq day:Int) (l:List Chg):Prop :=
 (zo ts rt gone seq day ∧ ∃ L,L.Perm (CP rt gone)∧UpS L∧l=rq rt seq day L)∨(¬ zo ts rt gone seq day∧l = [])
theorem tq {rt:List RTab} (h : ∀ i (h:i<rt.length),rt[i].recs.length ≤ 64) : ∀ n,(cz rt n).length ≤ 64*n
 | 0=>by simp [cz]
 | n + 1=>by
   have h1:=tq h n
   have h2:(qj rt n).length ≤ 64:=by
    unfold qj
    by_cases hn:n<rt.length
    ·rw [List.getElem?_eq_getElem hn];exact h n hn
    ·rw [List.getElem?_eq_none omA];simp
   rw [cz,List.length_append,List.length_map]
   omega
theorem NT {rt:List RTab} {i j:Nat} (hi:i<rt.length) (hj:j<rt[i].recs.length) (hown : ∀ m (hm:m<j),bJ rt[i].recs[m]≠bJ rt[i].recs[j]):keyS rt (gL i rt[i].recs[j])=dB rt[i].recs[j]:=by
 unfold keyS gL
 simp only [Int.toNat_natCast]
 rw [iC hi]
 have e:rt[i].recs.find? (fun r=>bJ r==bJ rt[i].recs[j])=some rt[i].recs[j]:=by
  rw [List.find?_eq_some_iff_getElem]
  exact ⟨by simp,j,hj,rfl,fun m hm=>by simpa using hown m hm⟩
 rw [e]
def oG (s:Src):Value := .agg #[.int .i64 s.tab, .int .i64 s.seq]
theorem Dt {a b:Src} (h:oG a=oG b):a=b:=by
 obtain ⟨a1,a2⟩:=a
 obtain ⟨b1,b2⟩:=b
 unfold oG at h
 injection h with h
 simp only [Array.mk.injEq,List.cons.injEq,Value.int.injEq,true_and,and_true] at h
 rw [h.1,h.2]
noncomputable def mR (g:Src→Value) (l:List Src):Value→Option Value:=fun v=>(l.find? fun s=>pb (oG s=v)).map g
theorem xW {g:Src→Value} {l:List Src} {s:Src} (h:s∈l):mR g l (oG s)=some (g s):=by
 unfold mR
 cases hf:l.find? (fun s'=>pb (oG s'=oG s)) with
 | none =>
   rw [List.find?_eq_none] at hf
   exact absurd (aT rfl) (hf s h)
 | some s' =>
   have h1:=List.find?_some hf
   have h2:s'=s:=Dt (eF.1 h1)
   rw [h2]
   rfl
theorem KX {g:Src→Value} {l:List Src} {v:Value} (h : ∀ s∈l,oG s≠v):mR g l v=none:=by
 unfold mR
 rw [List.find?_eq_none.2 fun s hs=>by rw [eF];exact h s hs]
 rfl
theorem DY (g:Src→Value) (l:List Src) (s:Src):mR g (l ++ [s]) (oG s)=some (g s):=xW spA
theorem DX {g:Src→Value} {l:List Src} {s:Src} {u:Value} (h:u≠oG s):mR g (l ++ [s]) u=mR g l u:=by
 unfold mR
 rw [List.find?_append]
 have e : [s].find? (fun s'=>pb (oG s'=u))=none:=by
  rw [List.find?_eq_none]
  intro x hx
  rw [List.mem_singleton.1 hx,eF]
  exact fun e=>h e.symm
 rw [e,Option.or_none]
theorem Jb {gone:List Src} (s:Src):(mR (fun _ => .bool true) gone (oG s)).getD (.bool false) = .bool (decide (s∈gone)):=by
 by_cases h:s∈gone
 ·rw [xW h];simp [h]
 ·rw [KX fun x hx e=>h (by rw [← Dt e];exact hx)];simp [h]
theorem AB (w:World) (g:Src→Value):fQ Tryz.prog 119 (w.alloc (.map #[] 0)) w.heap.size 0 (mR g []):=(fQ.made w _ _).eqf fun x kl _=>rfl
open Go.RowKit Go
theorem GK {ts:List Tab} {rt:List RTab} (hok:aO ts rt) {s:Src} (h:s∈cz rt rt.length) :
 ∃ i r,∃ hi:i<rt.length,s.tab=(i:Int)∧r∈rt[i].recs∧s.seq=bJ r∧rt[i].recs.find? (fun r=>bJ r==s.seq)=some r∧keyS rt s=dB r ∧ 0<r.row.length:=by
 obtain ⟨i,r0,hi,hr,rfl⟩:=pg h
 rw [iC hi] at hr
 cases hf:rt[i].recs.find? (fun r=>bJ r==bJ r0) with
 | none =>
   rw [List.find?_eq_none] at hf
   exact absurd spA (hf r0 hr)
 | some r =>
   have hm:=List.mem_of_find?_eq_some hf
   have hs:=List.find?_some hf
   have hits:i<ts.length:=by have:=hok.len;omega
   obtain ⟨j,hj,rfl⟩:=List.getElem_of_mem hm
   have hat:=((hok.tab i hi hits).at_ j hj).ok
   refine ⟨i,rt[i].recs[j],hi,rfl,hm,(by simpa using hs:bJ rt[i].recs[j]=bJ r0).symm,hf,?_,by rw [hat.len];exact (hok.cat.ae hits).1⟩
   unfold keyS gL
   simp only [Int.toNat_natCast]
   rw [iC hi,hf]
theorem zo.yes {ts:List Tab} {rt:List RTab} {gone l:List Src} {seq day:Int} (hok:aO ts rt) (hd : 0≤day∧day ≤ 1048576) (hs : 1≤seq∧seq ≤ 1073741824) (hp:l.Perm (cz rt rt.length)) (h:seq+(gW gone l).length ≤ 1073741825):zo ts rt gone seq day :=
 ⟨hok,hd,hs,by rw [← (E9 hp).length_eq];exact h⟩
theorem AO {d:Nat} {a:Int} (ha : -1≤a∧a ≤ 1073741824):Tryz.prog.keyLits (d + 1) 3 [.int .i64 a]=some [.int .i64 a]:=by
 have hw:(Lit.int .i64 a).wf=true:=by
  have h1:IntKind.i64.min≤a:=Int.le_trans (by decide) ha.1
  simp [Lit.wf,h1];omega
 unfold Program.keyLits
 rw [Tryz.underlying3]
 simp [hw]
theorem KE {a b:Int} (ha : -1≤a∧a ≤ 1073741824) (hb : 0≤b∧b ≤ 1073741824) : ∃ kl,Go.keyOf Tryz.prog 119 (.agg #[.int .i64 a, .int .i64 b])=some kl:=by
 have hsz:Tryz.prog.cellsOf 119 = 2:=by kernel_rfl
 have hs3:Tryz.prog.cellsOf 3 = 1:=by kernel_rfl
 have hkt:Tryz.prog.keyType 119=true:=by kernel_rfl
 obtain ⟨n,hn⟩ : ∃ n,Tryz.prog.types.size=n + 1:=⟨Tryz.prog.types.size - 1,by kernel_rfl⟩
 have hf:(Value.agg #[.int .i64 a, .int .i64 b]).formed Tryz.prog 119=true:=by
  unfold Value.formed
  rw [Tryz.underlying119,hsz]
  rfl
 have hl:Tryz.prog.keyLits (Tryz.prog.types.size + 1) 119 [.int .i64 a, .int .i64 b]=some [.int .i64 a, .int .i64 b]:=by
  rw [hn]
  unfold Program.keyLits
  rw [Tryz.underlying119]
  simp [hsz,hs3,AO ha,AO (a:=b) ⟨by omega,hb.2⟩]
 refine ⟨.string (keyBytes [.int .i64 a, .int .i64 b]),?_⟩
 unfold Go.keyOf
 rw [Tryz.underlying119,hkt,hf]
 show Option.map (fun ls=>Lit.string (keyBytes ls)) (Tryz.prog.keyLits (Tryz.prog.types.size + 1) 119 [.int .i64 a, .int .i64 b])=_
 rw [hl]
 rfl
def CB (l:List Src):Prop := ∀ s∈l,-1≤s.tab∧s.tab ≤ 1000 ∧ 0≤s.seq∧s.seq ≤ 1073741824
theorem CB.key {l:List Src} (h:CB l) {s:Src} (hs:s∈l) : ∃ kl,Go.keyOf Tryz.prog 119 (oG s)=some kl:=by
 obtain ⟨h1,h2,h3,h4⟩:=h s hs
 exact KE ⟨h1,by omega⟩ ⟨h3,h4⟩
def Ns (x:Val):Value := .agg #[.int .i64 x.kind, .int .i64 x.num, .string x.text]
theorem Ii {gone:List Src} (l:List Src) (i:Nat) {recs:List Rcd} {j:Nat} (hj:j<recs.length):gW gone (l++(recs.take (j + 1)).map (gL i))=gW gone (l++(recs.take j).map (gL i))++(if decide (gL i recs[j]∈gone)=true then [gL i recs[j]] else []):=by
 rw [List.take_succ_eq_append_getElem hj,List.map_append,List.map_singleton,← List.append_assoc,Bl _ (l++_)]
 congr 1
 unfold gW
 split
 ·rename_i h
  simp only [List.filter_cons,h,List.filter_nil,if_true]
 ·rename_i h
  simp only [List.filter_cons,h,List.filter_nil]
  rfl
open Go.RowKit Go
theorem sJ {P:Program} {fn:Func} {t t':Array Value} {R:Ending→World→Prop} (ht:results fn t=results fn t') : ∀ (ds:List Deferred) (u:FrameMode) (w:World),Leaves P fn t R ds u w→Leaves P fn t' R ds u w
 | [], .returning,w,h=>by obtain ⟨v,h1,h2⟩:=h;exact ⟨v,by rw [← ht];exact h1,h2⟩
 | [], .panicking _,w,h=>h
 | [], .run,w,h=>h
 | d::ds,u,w,h=>by
   obtain ⟨h1,fv,cap,f,args,h2,h3,h4⟩:=h
   refine ⟨h1,fv,cap,f,args,h2,h3,h4.mono fun e u' w' h5 => ?_⟩
   cases e with
   | returned _=>exact sJ ht ds _ _ h5
   | panicked _=>exact sJ ht ds _ _ h5
   | outgrown=>exact h5
theorem jY {P:Program} {fn:Func} {R:Ending→World→Prop} {d:Nat} {v:Value} (hd : ∀ t:Array Value,results fn (t.setIfInBounds d v)=results fn t) (c:List PanicEntry) (a:Act) (w:World) (h:bodyPostD P fn R (.panic c) (a.put (some d) v) w):bodyPostD P fn R (.panic c) a w:=sJ (hd a.tmps) _ _ _ h
theorem ig {d:Nat} {v:Value} (hd:d ≠ 10) (t:Array Value):results Tryz.f28 (t.setIfInBounds d v)=results Tryz.f28 t:=by
 simp [results,Tryz.results28,Array.getElem?_setIfInBounds_ne hd]
theorem zx (n:Nat) (hn:n = 0) (w:World) :
 Calls Tryz.prog 66 #[.slice none n 0, .func (.func 67) #[] #[]] w fun e w'=>e = .returned (.tuple #[])∧w=w':=by
 subst hn
 exact tF w
theorem J8 (u:World):(zeroValue 51).run Tryz.prog u = .ok (.agg #[.int .i64 0, .int .i64 0, .string ⟨#[]⟩]) u:=by kernel_rfl
def zM (rt:List RTab) (s:Src):Value:=Ns (keyS rt s)
theorem Ij {rt:List RTab} (gone:List Src) {i:Nat} (hi:i<rt.length):gW gone (cz rt i++(rt[i].recs.take rt[i].recs.length).map (gL i))=gW gone (cz rt (i + 1)):=by
 rw [List.take_length,cz,iC hi]
theorem uK.no {ts:List Tab} {rt:List RTab} {gone:List Src} {seq day:Int} (h : ¬ zo ts rt gone seq day):uK ts rt gone seq day [] := .inr ⟨h,rfl⟩
theorem fK (w:World):CallsD Tryz.prog 68 #[] .returning w fun e u' w'=>e = .returned (.tuple #[])∧u' = .returning∧w'=w:=by
 refine callsD_of_wpS Tryz.func68 rfl fun c₀ cs hu => ?_
 apply wpS_region
 cases c₀
 simp_all [wpOpsS,go_sem,recoverD,Tryz.ntmps68,bodyPostS,results,Tryz.results68]
theorem zy (A:Option Addr) (c m:Nat) (ts:List Tab) (RA:Option Addr) (rc n:Nat) (rt:List RTab) (GA:Option Addr) (gc gn:Nat) (gone:List Src) (seq day:Int) (w:World) (ht:aK w w.heap.size A ts) (hm:ts.length=m) (hs:aQ ts) (hok:aV ts) (hR:aP w w.heap.size RA rt) (hn:rt.length=n) (hsr:fV rt) (hG:ag w w.heap.size Src.cells 2 GA gone) (hgl:gone.length=gn) (hg6:gn ≤ 1000000) (hgk:CB gone) :
 Calls Tryz.prog 28 #[.agg #[.slice A m c, .slice none 0 0, .slice none 0 0, .slice none 0 0, .slice none 0 0, .slice none 0 0, .slice none 0 0, .slice none 0 0], .slice RA n rc, .slice GA gn gc, .int .i64 seq, .int .i64 day] w fun e w' =>
  (∃ EA ec l,e = .returned (.slice EA l.length ec)∧ag w' w'.heap.size Chg.cells 12 EA l∧uK ts rt gone seq day l)∧Below w.heap.size w w':=by
 subst hm hn hgl
 obtain ⟨i0,hi0,hz0,hz1,hz2⟩:=info_parts Hq
 obtain ⟨j0,hj0,hy0,hy1,hy2⟩:=info_parts Hr
 have h8:=hok.len
 have HT:=qh ht
 have HS:=qh hs
 have HOK:=qh hok
 have HR:=qh hR
 have HR1:=qh hR.1
 have HR2:=qh hR.2
 have HSR:=qh hsr
 have HG:=qh hG
 have HGK:=qh hgk
 have hmm := @run_makeMap Tryz.prog
 clear ht hs hok hR hsr hG hgk
 go_enter_defers Tryz.func28,Tryz.ntmps28
 go_upto_region 2 with (fail)
 refine ah (P:=fun u=>Code.wp _ _ _ _ u) (R:=fun u=>Blk u w.heap.size 34 #[.slice A ts.length c, .slice none 0 0, .slice none 0 0, .slice none 0 0, .slice none 0 0, .slice none 0 0, .slice none 0 0, .slice none 0 0]∧Below w.heap.size w u) ⟨?_,?_⟩ ?_
 ·exact Blk.new _ _ _
 ·exact au
 rintro W ⟨hB,hbW⟩
 have hzW:=hB.lt
 obtain ⟨p0,p1,p2,p3,p4,p5,p6,p7⟩:=Cat.blk hB
 clear hB
 obtain ⟨r0,hr0⟩ : ∃ b,pb (aO ts rt)=b:=⟨_,rfl⟩
 obtain ⟨r1,hr1⟩ : ∃ b,decide (day < 0)=b:=⟨_,rfl⟩
 obtain ⟨r2,hr2⟩ : ∃ b,decide (1048576<day)=b:=⟨_,rfl⟩
 have M0:=qh fun (u:World) (hu:Below W.heap.size W u)=>uN A c ts.length ts RA rc rt.length rt u (HT.out.next (aa hbW hu hbW.size)) rfl HS.out HOK.out (HR.out.next (aa hbW hu hbW.size)) rfl HSR.out hr0
 have Ad:Hid ((r0 && !r1 && !r2)=false→uK ts rt gone seq day []):=qh fun h=>uK.no fun hd=>by
  have h1:=hd.U6
  have e0:r0=true:=by rw [← hr0];exact aT hd.tabs
  have e1:r1=false:=by rw [← hr1];exact decide_eq_false omA
  have e2:r2=false:=by rw [← hr2];exact decide_eq_false omA
  rw [e0,e1,e2] at h
  cases h
 have HR0:=qh hr0
 clear hr0
 cases r0
 ·clear hmm
  go_wp2_with (go_at_call 21;(with_reducible refine (M0.out _ brf).mono ?_);rintro e w1 ⟨rfl,hb1⟩;have hx1:Below w.heap.size w w1:=aa hbW hb1 hbW.size)
  refine leaves_cons (f := 68) (args := #[]) spA (by simp [go_sem]) ?_;refine (fK _).mono ?_;rintro e u' w'' ⟨rfl,rfl,rfl⟩;refine ⟨_,results_tmp rfl _ _ _,?_⟩
  exact ⟨⟨none,0,[],rfl,ag.nil,Ad.out rfl⟩,hx1⟩
 cases r1
 case true => clear hmm
              go_wp2_with (go_at_call 21;(with_reducible refine (M0.out _ brf).mono ?_);rintro e w1 ⟨rfl,hb1⟩;have hx1:Below w.heap.size w w1:=aa hbW hb1 hbW.size)
              refine leaves_cons (f := 68) (args := #[]) spA (by simp [go_sem]) ?_;refine (fK _).mono ?_;rintro e u' w'' ⟨rfl,rfl,rfl⟩;refine ⟨_,results_tmp rfl _ _ _,?_⟩
              exact ⟨⟨none,0,[],rfl,ag.nil,Ad.out rfl⟩,hx1⟩
 cases r2
 case true => clear hmm
              go_wp2_with (go_at_call 21;(with_reducible refine (M0.out _ brf).mono ?_);rintro e w1 ⟨rfl,hb1⟩;have hx1:Below w.heap.size w w1:=aa hbW hb1 hbW.size)
              refine leaves_cons (f := 68) (args := #[]) spA (by simp [go_sem]) ?_;refine (fK _).mono ?_;rintro e u' w'' ⟨rfl,rfl,rfl⟩;refine ⟨_,results_tmp rfl _ _ _,?_⟩
              exact ⟨⟨none,0,[],rfl,ag.nil,Ad.out rfl⟩,hx1⟩
 have HVV:=qh (eF.1 HR0.out)
 have hd0 : 0≤day:=by rw [decide_eq_false_iff_not] at hr1;omega
 have hd1:day ≤ 1048576:=by rw [decide_eq_false_iff_not] at hr2;omega
 go_upto_region 4 with (go_at_call 21;(with_reducible refine (M0.out _ brf).mono ?_);rintro e w1 ⟨rfl,hb1⟩)
 refine ah (P:=fun u=>Code.wp _ _ _ _ u) (R:=fun u=>Below W.heap.size W u) hb1 ?_
 clear hb1 p0 p1 p2 p3 p4 p5 p6 p7 hr1 hr2 M0 Ad
 rintro W1 hb1
 have hx1:=aa hbW hb1 hbW.size
 have hz1':=hb1.size
 have zV:rt.length ≤ 8:=by rw [HVV.out.len];exact h8
 go_upto_region 6 with (fail)
 clear hmm
 go_loopw [39] (fun vi wr => ∃ i:Nat,i≤gone.length∧vi = .int .i64 i∧fQ Tryz.prog 119 wr W1.heap.size i (mR (fun _ => .bool true) (gone.take i))∧Below W1.heap.size W1 wr) (fun vi _=>gone.length - (intOf vi).toNat)
 case atStart=>exact ⟨0,Nat.zero_le _,rfl,AB W1 _,by exact au⟩
 case round =>
  obtain ⟨i,hi,rfl,hM,hbr⟩:=hrel
  have hwz:=hbr.size
  have hMl:=hM.lt
  have HM:=qh hM
  have hxr:=aa hx1 hbr hx1.size
  clear hM
  by_cases hlt:i<gone.length
  ·obtain ⟨b5,o5,rfl,hb5,hc5⟩:=(HG.out.below hxr).get hlt
   obtain ⟨s0,s1⟩:=Src.MU hc5
   obtain ⟨kl,hkl⟩:=HGK.out.key (lgm hlt)
   have hts:=List.take_succ_eq_append_getElem hlt
   obtain ⟨⟨tb,sq⟩,hs⟩ : ∃ x,gone[i]=x:=⟨_,rfl⟩
   rw [hs] at s0 s1 hkl hts
   have uJ:Hid (mR (fun _ => .bool true) (gone.take (i + 1)) (.agg #[.int .i64 tb, .int .i64 sq])=some (.bool true)):=qh (by rw [hts];exact DY _ _ ⟨tb,sq⟩)
   have HOLD:Hid (∀ u,u ≠ .agg #[.int .i64 tb, .int .i64 sq]→mR (fun _ => .bool true) (gone.take (i + 1)) u=mR (fun _ => .bool true) (gone.take i) u):=qh fun u hu=>by rw [hts];exact DX hu
   simp only at s0 s1
   unfold oG at hkl
   simp only at hkl
   clear hc5 hs hts
   go_upto_region 8 with (fail)
   refine ah (P:=fun u=>Code.wp _ _ _ _ u) (R:=fun u=>Blk u wr.heap.size 119 #[.int .i64 tb, .int .i64 sq]∧Below wr.heap.size wr u) ⟨?_,?_⟩ ?_
   ·exact Blk.new _ _ _
   ·exact au
   rintro U ⟨hD,hbU⟩
   have hDl:=hD.lt
   have hyU:=aa hbr hbU hwz
   have HMU:=qh (HM.out.below hbU hMl)
   have v0:=hD.cell 0
   have v1:=hD.cell 1
   simp only [gE3] at v0 v1
   clear s0 s1 hD
   go_wp2_with (at_mapUpdate;refine zq _ rfl _ _ _ _ rfl 119 4 lS Tryz.underlying115 W1.heap.size i _ rfl HMU.out (by unfold maxLen;omega) (.agg #[.int .i64 tb, .int .i64 sq]) _ rfl hkl (.bool true) rfl (mR (fun _ => .bool true) (gone.take (i + 1))) uJ.out HOLD.out ?_;intro w3 hM3 hg3)
   go_roundw
   case rel=>exact ⟨i + 1,by omega,by go_num,hM3,Below.grown hyU hg3 omA (fun q e=>by injection e with e;omega)⟩
   case measure=>exact meA
  ·have hlt':decide (i<gone.length)=false:=by simpa using hlt
   obtain rfl:i=gone.length:=by omega
   have HMW:Hid (fQ Tryz.prog 119 wr W1.heap.size gone.length (mR (fun _ => .bool true) gone)):=qh (by have h:=HM.out;rwa [List.take_length] at h)
   obtain ⟨X1,rfl⟩ : ∃ V:World,V=wr:=⟨_,rfl⟩
   have hmm := @run_makeMap Tryz.prog
   clear hlt hi HM
   go_upto_region 12 with (fail)
   clear hmm
   refine ah (P:=fun u=>Code.wp _ _ _ _ u) (R:=fun u=>fQ Tryz.prog 119 u X1.heap.size 0 (mR (zM rt) [])∧Below X1.heap.size X1 u) ⟨AB _ _,by exact au⟩ ?_
   rintro V ⟨hKM,hbV⟩
   have hKl:=hKM.lt
   have HKM:=qh hKM
   clear hKM
   go_upto_region 13 with (fail)
   go_loopw [14,49] (fun vo vi wr => ∃ i:Nat,i≤rt.length∧vi = .int .i64 i∧av wr V.heap.size 119 Src.cells 2 vo (gW gone (cz rt i))∧fQ Tryz.prog 119 wr X1.heap.size (64*i) (mR (zM rt) (gW gone (cz rt i)))∧Below X1.heap.size X1 wr∧V.heap.size≤wr.heap.size) (fun _ vi _=>rt.length - (intOf vi).toNat)
   case atStart=>exact ⟨0,Nat.zero_le _,rfl,av.nil,HKM.out,hbV,Nat.le_refl _⟩
   case round =>
    obtain ⟨i,hi,rfl,hown,hK,hbi,hvz⟩:=hrel
    have hiz:=hbi.size
    have hxi:=aa hxr hbi hxr.size
    have HOWN:=qh hown
    have HK:=qh hK
    clear hown hK
    have hall:(cz rt i).length ≤ 64*i:=tq (rt:=rt) (fun i h=>(HVV.out.tab i h (by have:=HVV.out.len;omega)).len) i
    by_cases hlt:i<rt.length
    ·have hlts:i<ts.length:=by have:=HVV.out.len;omega
     obtain ⟨b6,o6,rfl,hb6,hc6⟩:=(HR1.out.below hxi).get hlt
     have q0:=hc6 0 _ rfl
     simp only [Nat.mul_one,Nat.add_zero] at q0
     have nA:fF w w.heap.size rt[i].A rt[i].recs:=HR2.out rt[i] (lgm hlt)
     have htab:=HVV.out.tab i hlt hlts
     have Ph:=qh (Ij gone hlt)
     have HKEY:Hid (∀ j (hj:j<rt[i].recs.length),keyS rt (gL i rt[i].recs[j])=dB rt[i].recs[j]):=qh fun j hj=>NT hlt hj (htab.at_ j hj).own
     obtain ⟨recs,bg⟩ : ∃ l,rt[i].recs=l:=⟨_,rfl⟩
     obtain ⟨RI,hRI⟩ : ∃ a,rt[i].A=a:=⟨_,rfl⟩
     rw [bg] at q0 nA htab Ph HKEY
     rw [hRI] at q0 nA
     have HRI:=qh nA.1
     have O5:=qh nA.2
     have RF:=qh htab
     have h64:=htab.len
     have AU:=(HOK.out.ae hlts).1
     clear hc6 nA bg htab hRI
     go_upto_region 16 with (fail)
     obtain ⟨Y,rfl⟩ : ∃ Y:World,Y=wr:=⟨_,rfl⟩
     go_loopw [14,56] (fun vo vj wi => ∃ j:Nat,j≤recs.length∧vj = .int .i64 j∧av wi V.heap.size 119 Src.cells 2 vo (gW gone (cz rt i++(recs.take j).map (gL i)))∧fQ Tryz.prog 119 wi X1.heap.size (64*i+j) (mR (zM rt) (gW gone (cz rt i++(recs.take j).map (gL i))))∧Below X1.heap.size X1 wi∧V.heap.size≤wi.heap.size) (fun _ vj _=>recs.length - (intOf vj).toNat)
     case atStart=>exact ⟨0,Nat.zero_le _,rfl,by (have h:=HOWN.out;simpa using h),by (have h:=HK.out;simpa using h),hbi,hvz⟩
     case round =>
      obtain ⟨j,hj,rfl,hown,hKj,hbj,hvj⟩:=hrel
      have hjz:=hbj.size
      have hxj:=aa hxr hbj hxr.size
      have V6:=hxj.size
      have hrow:=hown.row
      have hDl:(gW gone (cz rt i++(recs.take j).map (gL i))).length ≤ 64*i+j:=by
       refine Nat.le_trans (CO _ _) ?_
       rw [List.length_append,List.length_map,List.length_take]
       omega
      obtain ⟨D,hD⟩ : ∃ D,gW gone (cz rt i++(recs.take j).map (gL i))=D:=⟨_,rfl⟩
      rw [hD] at hown hKj hDl
      have HDD:=qh hD
      have HOW:=qh hown
      have HKJ:=qh hKj
      clear hown hKj hD
      by_cases hjl:j<recs.length
      ·obtain ⟨b7,o7,rfl,hb7,hc7⟩:=(HRI.out.below hxj).get hjl
       obtain ⟨g0,g1,g2⟩:=Rcd.cells3 hc7
       have hat:=(RF.out.at_ j hjl).ok
       have hsl : 0<recs[j].seq.length:=by rw [hat.qW];exact AU
       have hrl : 0<recs[j].row.length:=by rw [hat.len];exact AU
       have hpos:=(hat.cell 0 AU).pos hsl
       rw [aB,Bool.and_eq_true,decide_eq_true_iff,decide_eq_true_iff] at hpos
       obtain ⟨b8,o8,hA8,hb8,hc8⟩:=((O5.out recs[j] (lgm hjl)).2.below hxj).get hsl
       obtain ⟨b9,o9,hA9,hb9,hc9⟩:=((O5.out recs[j] (lgm hjl)).1.below hxj).get hrl
       have s0:=hc8 0 _ rfl
       obtain ⟨y0,y1,y2⟩:=Val.cells3 hc9
       rw [hA8] at g1
       rw [hA9] at g0
       have hhd:recs[j].seq[0]=bJ recs[j]:=l7 hsl
       have hhv:recs[j].row[0]=dB recs[j]:=ma hrl
       rw [hhd] at s0 hpos
       rw [hhv] at y0 y1 y2
       simp only [Nat.zero_mul,Nat.add_zero] at s0 y0 y1 y2
       have mU:=qh (Ii (gone:=gone) (cz rt i) i hjl)
       have hkey:=HKEY.out j hjl
       obtain ⟨hd,hhe⟩ : ∃ q,bJ recs[j]=q:=⟨_,rfl⟩
       obtain ⟨y,hy⟩ : ∃ q,dB recs[j]=q:=⟨_,rfl⟩
       obtain ⟨rl,Qx⟩ : ∃ q,recs[j].row.length=q:=⟨_,rfl⟩
       obtain ⟨sl,Qw⟩ : ∃ q,recs[j].seq.length=q:=⟨_,rfl⟩
       obtain ⟨cp,hcp⟩ : ∃ q,recs[j].cap=q:=⟨_,rfl⟩
       obtain ⟨sp,hsp⟩ : ∃ q,recs[j].tH=q:=⟨_,rfl⟩
       obtain ⟨dy,hdy⟩ : ∃ q,recs[j].day=q:=⟨_,rfl⟩
       rw [hhe] at s0 hpos
       rw [hy] at y0 y1 y2
       rw [Qx,hcp] at g0
       rw [Qw,hsp] at g1
       rw [hdy] at g2
       rw [Qx] at hrl
       rw [Qw] at hsl
       have hsrc:gL i recs[j]=⟨(i:Int),hd⟩:=by unfold gL;rw [hhe]
       rw [hsrc,hy] at hkey
       have HKY:=qh hkey
       have M5:=qh hsrc
       have HY:=qh (And.intro y0 (And.intro y1 y2))
       clear hc7 hc8 hc9 hat hhd hhv hA8 hA9 hhe hy Qx Qw hcp hsp hdy hsrc hkey y0 y1 y2
       go_upto_region 18 with (fail)
       refine ah (P:=fun u=>Code.wp _ _ _ _ u) (R:=fun u=>Blk u wr.heap.size 43 #[.slice (some ⟨b9,o9,none⟩) rl cp, .slice (some ⟨b8,o8,none⟩) sl sp, .int .i64 dy]∧Below wr.heap.size wr u) ⟨?_,?_⟩ ?_
       ·exact Blk.new _ _ _
       ·exact au
       rintro U0 ⟨hD,Gj⟩
       have w1:=hD.cell 1
       simp only [gE3] at w1
       replace s0:=(Gj.cell (p:=⟨b8,o8,none⟩) (show b8<wr.heap.size by omega)).trans s0
       have HD:=qh hD
       have hDlt:=hD.lt
       clear g0 g1 g2 hD
       go_upto_region 19 with (fail)
       refine ah (P:=fun u=>Code.wp _ _ _ _ u) (R:=fun u=>Blk u wr.heap.size 43 #[.slice (some ⟨b9,o9,none⟩) rl cp, .slice (some ⟨b8,o8,none⟩) sl sp, .int .i64 dy]∧Blk u U0.heap.size 119 #[.int .i64 i, .int .i64 hd]∧Below wr.heap.size wr u) ⟨?_,?_,?_⟩ ?_
       ·exact HD.out.alloc _
       ·exact Blk.new _ _ _
       ·exact Gj.alloc Gj.size _
       rintro U ⟨hD,hS,hbU⟩
       have hSl:=hS.lt
       have hUz:=hbU.size
       have hyU:=aa hbj hbU hjz
       have v0:=hS.cell 0
       have v1:=hS.cell 1
       simp only [gE3] at v0 v1
       have HD2:=qh hD
       have HS2:=qh hS
       obtain ⟨kl,hkl⟩:=Bu (a:=(i:Int)) (b:=hd) ⟨by omega,by omega⟩ ⟨by omega,by omega⟩
       have hlk:(Instr.lookup 115 (.map (some W1.heap.size)) (.agg #[.int .i64 i, .int .i64 hd]) false).run Tryz.prog U = .ok (.bool (decide (⟨(i:Int),hd⟩∈gone))) U:=by
        have h:=(HMW.out.below hyU hMl).look lS Tryz.underlying115 (nG U) hkl
        have h2:=Jb (gone:=gone) ⟨(i:Int),hd⟩
        unfold oG at h2
        rw [h2] at h
        exact h
       have HOU:=qh (HOW.out.below hbU nlr)
       have HKU:=qh (HKJ.out.below hbU omA)
       clear s0 hS hD w1
       cases hmem:decide ((⟨(i:Int),hd⟩:Src)∈gone)
       ·rw [hmem] at hlk
        have HNO:Hid (gW gone (cz rt i++(recs.take (j + 1)).map (gL i))=D):=qh (by rw [mU.out,M5.out,hmem,HDD.out];simp)
        clear hmem
        go_wp2_with fail
        go_roundw
        case rel=>exact ⟨j + 1,by omega,by go_num,by rw [HNO.out];exact HOU.out,by rw [HNO.out];exact HKU.out.mono omA,hyU,by omega⟩
        case measure=>exact meA
       ·rw [hmem] at hlk
        have iy:Hid (gW gone (cz rt i++(recs.take (j + 1)).map (gL i))=D ++ [⟨(i:Int),hd⟩]):=qh (by rw [mU.out,M5.out,hmem,HDD.out];simp)
        clear hmem
        go_upto_region 21 with (at_builtin;go_must (refine aR _ rfl (.tmp 69) (.tmp 71) 71 rfl 119 i0 _ Src.cells 2 16 Tryz.underlying71 hi0 hz0 hz1 hz2 rfl omA iG Bt V.heap.size u14 D rfl (HOU.out.alloc _) _ _ _ [⟨(i:Int),hd⟩] rfl rfl (Blk.one (enc:=Src.cells) (x:=⟨(i:Int),hd⟩) (Blk.new' rfl) spA) smA mxA smA ?_);intro v' w3 hown' hg' hat';have HOWN':=qh hown';clear hown')
        have Oh:=HOW.out.lt
        have Mh:Below V.heap.size wr w3:=Below.grown ((hbU.mono omA).alloc omA _) hg' smA hrow
        have hD3:=(HD2.out.alloc _).grown hg' (fun e=>by have:=Oh _ e.symm;omega)
        have hS3:=(HS2.out.alloc _).grown hg' (fun e=>by have:=Oh _ e.symm;omega)
        have hK3:=(HKU.out.alloc _).kept hg' (fun e=>by have:=hrow _ e.symm;omega)
        have hX3:=hbj.trans (Mh.mono omA)
        have hz3:=Mh.size
        obtain ⟨w4,hrun,hst,hg4⟩:=(hK3.drew).store lS Tryz.underlying122 (by unfold maxLen;omega) hkl (y:=Ns y)
        unfold Ns at hrun
        have a0:=hS3.cell 0
        have a1:=hS3.cell 1
        have a2:=hD3.cell 0
        simp only [gE3] at a0 a1 a2
        obtain ⟨y0,y1,y2⟩:=HY.out
        have yC:b9<V.heap.size:=by have:=hxr.size;omega
        replace y0:=(Mh.cell (p:=⟨b9,o9,none⟩) yC).trans y0
        replace y1:=(Mh.cell (p:=⟨b9,o9 + 1,none⟩) yC).trans y1
        replace y2:=(Mh.cell (p:=⟨b9,o9 + 2,none⟩) yC).trans y2
        have HST:=qh hst
        have HG4:=qh hg4
        have hz4:w3.heap.size≤w4.heap.size:=hg4.size
        clear hg' hat' hD3 hS3 hK3 hst hg4 hlk v0 v1
        go_region
        all_goals trace_state
        clear hrun
        go_wp2_with fail
        go_roundw
        case rel=>exact ⟨j + 1,by omega,by go_num,by rw [iy.out];exact HOWN'.out.drew.grown HG4.out hKl,by
         rw [iy.out]
         exact HST.out _ (by have h:=DY (zM rt) D ⟨(i:Int),hd⟩;unfold oG zM at h;rw [HKY.out] at h;exact h) (fun u hu=>DX hu),Below.grown (hX3.trans brf.drew) HG4.out (by show X1.heap.size≤w3.heap.size;omega) (fun q e=>by injection e with e;omega),by omega⟩
        case measure=>exact meA
      ·have Gg:decide (j<recs.length)=false:=by simpa using hjl
       obtain rfl:j=recs.length:=by omega
       have wT:Hid (D=gW gone (cz rt (i + 1))):=qh (by rw [← HDD.out];exact Ph.out)
       clear hjl
       go_wp2_with fail
       go_roundw
       case rel=>exact ⟨i + 1,by omega,by go_num,by rw [← wT.out];exact HOW.out,by rw [← wT.out];exact HKJ.out.mono omA,hbj,hvj⟩
       case measure=>exact meA
    ·have hlt':decide (i<rt.length)=false:=by simpa using hlt
     obtain rfl:i=rt.length:=by omega
     obtain ⟨L,hL⟩ : ∃ L,gW gone (cz rt rt.length)=L:=⟨_,rfl⟩
     have hLl:L.length ≤ 1000:=by have:=CO gone (cz rt rt.length);rw [hL] at this;omega
     have ho:=HOWN.out
     have hkm:=HK.out
     rw [hL] at ho hkm
     have HLE:=qh hL
     have HO2:=qh ho
     have VC:=qh hkm
     have Xi:=hkm.lt
     have VD:Hid (∀ s∈L,∃ kl,Go.keyOf Tryz.prog 119 (oG s)=some kl):=qh fun s hs=>by
      rw [← hL] at hs
      exact HGK.out.key (by have h:=(List.mem_filter.1 hs).2;simpa using h)
     obtain ⟨Y,rfl⟩ : ∃ Y:World,Y=wr:=⟨_,rfl⟩
     obtain ⟨r3,hr3⟩ : ∃ b,decide (seq < 1)=b:=⟨_,rfl⟩
     obtain ⟨r4,hr4⟩ : ∃ b,decide (1073741824<seq)=b:=⟨_,rfl⟩
     obtain ⟨r5,hr5⟩ : ∃ b,decide (1073741824<seq+(L.length:Int) - 1)=b:=⟨_,rfl⟩
     have Ad:Hid ((!r3&&(!r4 && !r5))=false→uK ts rt gone seq day []):=qh fun h=>uK.no fun hd=>by
      have h1:=hd.SF
      have h2:=hd.fit
      have e2:(CP rt gone).length=L.length:=by rw [← HLE.out];rfl
      have e0:r3=false:=by rw [← hr3];exact decide_eq_false omA
      have e1:r4=false:=by rw [← hr4];exact decide_eq_false omA
      have e3:r5=false:=by rw [← hr5];exact decide_eq_false omA
      rw [e0,e1,e3] at h
      cases h
     obtain ⟨A5,c5,rfl,hc5,hs5,hA5⟩:=ho.slice iG
     clear ho hkm hL HOWN HK hlt' hlt hall hs5 hA5
     cases r3
     case true => go_wp2_with fail
                  refine leaves_cons (f := 68) (args := #[]) spA (by simp [go_sem]) ?_;refine (fK _).mono ?_;rintro e u' w'' ⟨rfl,rfl,rfl⟩;refine ⟨_,results_tmp rfl _ _ _,?_⟩
                  exact ⟨⟨none,0,[],rfl,ag.nil,Ad.out rfl⟩,hxi⟩
     cases r4
     case true => go_wp2_with fail
                  refine leaves_cons (f := 68) (args := #[]) spA (by simp [go_sem]) ?_;refine (fK _).mono ?_;rintro e u' w'' ⟨rfl,rfl,rfl⟩;refine ⟨_,results_tmp rfl _ _ _,?_⟩
                  exact ⟨⟨none,0,[],rfl,ag.nil,Ad.out rfl⟩,hxi⟩
     have hq0 : 1≤seq:=by rw [decide_eq_false_iff_not] at hr3;omega
     have hq1:seq ≤ 1073741824:=by rw [decide_eq_false_iff_not] at hr4;omega
     have Tg:IntKind.i64.wrap (seq+(L.length:Int))=seq+(L.length:Int):=IntWalk.i64_in _ omA
     have hwr2:IntKind.i64.wrap (seq+(L.length:Int) - 1)=seq+(L.length:Int) - 1:=IntWalk.i64_in _ omA
     cases r5
     case true => go_wp2_with fail
                  refine leaves_cons (f := 68) (args := #[]) spA (by simp [go_sem]) ?_;refine (fK _).mono ?_;rintro e u' w'' ⟨rfl,rfl,rfl⟩;refine ⟨_,results_tmp rfl _ _ _,?_⟩
                  exact ⟨⟨none,0,[],rfl,ag.nil,Ad.out rfl⟩,hxi⟩
     have hq2:seq+(L.length:Int) ≤ 1073741825:=by rw [decide_eq_false_iff_not] at hr5;omega
     have iy:Hid (∀ l',l'.Perm L→UpS l'→uK ts rt gone seq day (rq rt seq day l')):=qh fun l' hp hu => .inl ⟨zo.yes HVV.out ⟨hd0,hd1⟩ ⟨hq0,hq1⟩ (List.Perm.refl _) (by rw [HLE.out];omega),l',(by rw [← HLE.out] at hp;exact hp),hu,rfl⟩
     rcases HO2.out.2 with ⟨hv,hz⟩|⟨g,cap,cur,hv,hgb,_,_⟩
     ·injection hv with e1 e2 e3
      subst e1 e3
      have hL0:L = []:=List.eq_nil_of_length_eq_zero hz
      have HL0:=qh hL0
      have HZ:=qh hz
      clear hL0 e2 hz
      go_upto_region 27 with (go_at_call 66;(with_reducible refine (zx L.length HZ.out _).mono ?_);rintro e w3 ⟨rfl,rfl⟩)
      clear hr3 hr4 hr5 Tg hwr2
      refine ah (P:=fun u=>Code.wp _ _ _ _ u) (R:=fun u=>Below Y.heap.size Y u) brf ?_
      rintro Z hbZ
      have hKZ:=VC.out.below hbZ Xi
      have hxZ:=aa hxi hbZ hxi.size
      obtain ⟨l',hl'⟩ : ∃ l':List Src,l'=L:=⟨_,rfl⟩
      have hPZ:l'.Perm L:=by rw [hl']
      have Rb:UpS l':=by rw [hl',HL0.out];exact List.Pairwise.nil
      have hSZ:ag Z Z.heap.size Src.cells 2 none l':=by rw [hl',HL0.out];exact ag.nil
      clear hl'
      have HKZ:Hid (fQ Tryz.prog 119 Z X1.heap.size (64*rt.length) (mR (zM rt) L)):=qh hKZ
      have HSZ:=qh hSZ
      have HPZ:=qh hPZ
      have WA:l'.length=L.length:=hPZ.length_eq
      have hlZ:=hKZ.lt
      clear hKZ hSZ hPZ
      go_upto_region 29 with (fail)
      go_loopw [21,99] (fun vo vi wr => ∃ i:Nat,i≤l'.length∧vi = .int .i64 i∧av wr Z.heap.size 53 Chg.cells 12 vo (rq rt seq day (l'.take i))∧Below Z.heap.size Z wr) (fun _ vi _=>l'.length - (intOf vi).toNat)
      case atStart=>exact ⟨0,Nat.zero_le _,rfl,av.nil,Below.refl _ _⟩
      case round =>
       obtain ⟨i,hi,rfl,hown,hbr⟩:=hrel
       have hwz:=hbr.size
       have hxr:=aa hxZ hbr hxZ.size
       have HOWN:=qh hown
       clear hown
       by_cases hlt:i<l'.length
       ·exfalso
        have h:=HPZ.out.length_eq
        rw [HL0.out] at h
        simp at h
        rw [h] at hlt
        simp at hlt
       ·have hlt':decide (i<l'.length)=false:=by simpa using hlt
        obtain rfl:i=l'.length:=by omega
        have ho:=HOWN.out
        rw [List.take_length] at ho
        obtain ⟨A6,c6,rfl,hc6,hs6,_⟩:=ho.slice qP
        have HS6:=qh hs6
        clear ho hs6 HOWN
        go_wp2_with fail
        refine leaves_cons (f := 68) (args := #[]) spA (by simp [go_sem]) ?_;refine (fK _).mono ?_;rintro e u' w'' ⟨rfl,rfl,rfl⟩;refine ⟨_,results_tmp rfl _ _ _,?_⟩
        exact ⟨⟨A6,c6,_,rfl,HS6.out,iy.out l' HPZ.out Rb⟩,hxr⟩
     ·injection hv with e1 e2 e3
      subst e1 e3
      go_upto_region 27 with (go_at_call 66;(with_reducible refine (Ag V.heap.size g c5 L.length L _ rfl HO2.out omA).mono ?_);rintro e w3 ⟨rfl,l',hp,hso,hO3,hg3⟩;have HP:=qh hp;have HSO:=qh hso;have HO3:=qh hO3;have HG3:=qh hg3;clear hp hso hO3 hg3)
      clear hr3 hr4 hr5 Tg hwr2
      refine ah (P:=fun u=>Code.wp _ _ _ _ u) (R:=fun u=>Below w3.heap.size w3 u) brf ?_
      rintro Z hbZ
      have hgl:=HO2.out.GH
      have hxZ:Below w.heap.size w Z:=aa (Below.grown hxi HG3.out hxi.size (fun q e=>by injection e with e;have:=hxr.size;omega)) hbZ (by have:=hxi.size;have:=HG3.out.size;omega)
      have hKZ:=(VC.out.kept HG3.out (fun e=>by injection e with e;omega)).below hbZ (by have:=HG3.out.size;omega)
      have hSZ:ag Z Z.heap.size Src.cells 2 (some ⟨g,0,none⟩) l':=(dw (base:=V.heap.size) (c:=c5) (e := 119) iG (by rw [HP.out.length_eq];exact HO3.out)).next hbZ
      have hPZ:=HP.out
      have Rb:UpS l':=HSO.out
      have HKZ:Hid (fQ Tryz.prog 119 Z X1.heap.size (64*rt.length) (mR (zM rt) L)):=qh hKZ
      have HSZ:=qh hSZ
      have HPZ:=qh hPZ
      have WA:l'.length=L.length:=hPZ.length_eq
      have hlZ:=hKZ.lt
      clear hKZ hSZ hPZ
      go_upto_region 29 with (fail)
      go_loopw [21,99] (fun vo vi wr => ∃ i:Nat,i≤l'.length∧vi = .int .i64 i∧av wr Z.heap.size 53 Chg.cells 12 vo (rq rt seq day (l'.take i))∧Below Z.heap.size Z wr) (fun _ vi _=>l'.length - (intOf vi).toNat)
      case atStart=>exact ⟨0,Nat.zero_le _,rfl,av.nil,Below.refl _ _⟩
      case round =>
       obtain ⟨i,hi,rfl,hown,hbr⟩:=hrel
       have hwz:=hbr.size
       have hxr:=aa hxZ hbr hxZ.size
       have HOWN:=qh hown
       clear hown
       by_cases hlt:i<l'.length
       ·obtain ⟨b5,o5,he5,hb5,hc5⟩:=(HSZ.out.below hbr).get hlt
        injection he5 with he5
        injection he5 with h51 h52
        subst h51 h52
        obtain ⟨s0,s1⟩:=Src.MU hc5
        have hmem:l'[i]∈L:=HPZ.out.mem_iff.1 (lgm hlt)
        have hdl:=JL rt seq day hlt
        obtain ⟨⟨tb,sq⟩,hs⟩ : ∃ x,l'[i]=x:=⟨_,rfl⟩
        rw [hs] at s0 s1 hmem hdl
        simp only [Nat.zero_add] at s0 s1
        obtain ⟨kl,hkl⟩:=VD.out _ hmem
        unfold oG at hkl
        simp only at hkl
        obtain ⟨y,hy⟩ : ∃ y,keyS rt ⟨tb,sq⟩=y:=⟨_,rfl⟩
        have Px : ∀ u,fQ Tryz.prog 119 u X1.heap.size (64*rt.length) (mR (zM rt) L)→(Instr.lookup 122 (.map (some X1.heap.size)) (.agg #[.int .i64 tb, .int .i64 sq]) false).run Tryz.prog u = .ok (.agg #[.int .i64 y.kind, .int .i64 y.num, .string y.text]) u:=fun u hu=>by
         have h:=hu.look lS Tryz.underlying122 (J8 u) hkl
         have h2:=xW (g:=zM rt) hmem
         unfold oG at h2
         rw [h2] at h
         unfold zM Ns at h
         rw [hy] at h
         exact h
        obtain ⟨cd,hcd⟩ : ∃ x:Chg,x=⟨3,seq+(i:Int),day,tb,none,0,[],y,0,⟨0,0,⟨#[]⟩⟩⟩:=⟨_,rfl⟩
        have HDL:Hid (rq rt seq day (l'.take (i + 1))=rq rt seq day (l'.take i) ++ [cd]):=qh (by rw [hdl,hcd];unfold yT;rw [hy])
        have HCD:=qh hcd
        have HLK:=qh Px
        have hDl:(rq rt seq day (l'.take i)).length=i:=by rw [EI,List.length_take];omega
        obtain ⟨D,hD⟩ : ∃ D,rq rt seq day (l'.take i)=D:=⟨_,rfl⟩
        have ho:=HOWN.out
        rw [hD] at ho hDl HDL
        obtain ⟨A6,c6,rfl,hc6,_,_⟩:=ho.slice qP
        rw [hDl] at ho
        have HO6:=qh ho
        have Yn:IntKind.i64.wrap (seq+(i:Int))=seq+(i:Int):=IntWalk.i64_in _ omA
        clear hc5 hs hmem hdl hkl hcd Px hD ho HOWN hy
        go_upto_region 31 with (fail)
        refine ah (P:=fun u=>Code.wp _ _ _ _ u) (R:=fun u=>Blk u wr.heap.size 119 #[.int .i64 tb, .int .i64 sq]∧Below wr.heap.size wr u) ⟨?_,?_⟩ ?_
        ·first|exact Blk.new _ _ _|exact Blk.new' rfl
        ·exact au
        rintro U ⟨hBU,hbU⟩
        have hUl:=hBU.lt
        have v0:=hBU.cell 0
        have v1:=hBU.cell 1
        simp only [gE3] at v0 v1
        have hyU:=aa hbr hbU hwz
        have hUz:=hyU.size
        have HOU:=qh (HO6.out.below hbU nlr)
        have HMU:=qh (HKZ.out.below hyU hlZ)
        have hrow:=HOU.out.row
        have Oh:=HO6.out.lt
        have HBU:=qh hBU
        clear s0 s1 hBU
        refine wp_region_held_drew (S:=fun u=>u.cell? ⟨wr.heap.size,0,none⟩=some (.int .i64 tb)∧u.cell? ⟨wr.heap.size,1,none⟩=some (.int .i64 sq)∧(Instr.lookup 122 (.map (some X1.heap.size)) (.agg #[.int .i64 tb, .int .i64 sq]) false).run Tryz.prog u = .ok (.agg #[.int .i64 y.kind, .int .i64 y.num, .string y.text]) u) krA ⟨v0,v1,HLK.out _ HMU.out.drew⟩ (fun hHeld => ?_)
        refine tkH 0 hHeld ?_ (hQ:=by exact fun c a w h=>jY (d := 104) (ig (by decide)) c a w h)
        refine tkH 1 hHeld ?_ (hQ:=by exact fun c a w h=>jY (d := 105) (ig (by decide)) c a w h)
        refine tkH 2 hHeld ?_ (hQ:=by exact fun c a w h=>jY (d := 106) (ig (by decide)) c a w h)
        refine tkH 3 hHeld ?_ (hQ:=by exact fun c a w h=>jY (d := 107) (ig (by decide)) c a w h)
        refine tkH 4 hHeld ?_ (hQ:=by exact fun c a w h=>jY (d := 108) (ig (by decide)) c a w h)
        refine tkH 5 hHeld ?_ (hQ:=by exact fun c a w h=>jY (d := 109) (ig (by decide)) c a w h)
        refine tkH 6 hHeld ?_ (hQ:=by exact fun c a w h=>jY (d := 110) (ig (by decide)) c a w h)
        refine tkH 7 hHeld ?_ (hQ:=by exact fun c a w h=>jY (d := 111) (ig (by decide)) c a w h)
        refine tkH 8 hHeld ?_ (hQ:=by exact fun c a w h=>jY (d := 112) (ig (by decide)) c a w h)
        refine tkH 9 hHeld ?_ (hQ:=by exact fun c a w h=>jY (d := 113) (ig (by decide)) c a w h)
        refine tkH 10 hHeld ?_ (hQ:=by exact fun c a w h=>jY (d := 114) (ig (by decide)) c a w h)
        refine wpAnyH_ready (rs := [11]) krA spA ?_
        refine AllReadyH.cons rfl (fun K hK => ?_) AllReadyH.nil
        go_simp
        refine hK.out _ _ ⟨by go_simp,by go_simp,HLK.out _ (HMU.out.drew.alloc _)⟩ (fun hHeld => ?_)
        clear hK K
        (try simp only [Act.put,gP6])
        refine wpAnyH_ready (rs := [12]) krA spA ?_
        refine AllReadyH.cons rfl (fun K hK => ?_) AllReadyH.nil
        (refine ai _ rfl (.tmp 104) (.tmp 115) 36 rfl 53 j0 _ Chg.cells 12 128 Tryz.underlying36 hj0 hy0 hy1 hy2 rfl omA qP H7 Z.heap.size (.slice A6 i c6) D rfl (HOU.out.drew.alloc _) _ _ _ [cd] rfl rfl (Blk.one (enc:=Chg.cells) (x:=cd) (by rw [HCD.out];exact Blk.new' rfl) spA) smA mxA smA ?_;intro v6 w6 hown' hg' hat')
        have HOWN':=qh hown'
        have hb6:Below Z.heap.size U w6:=Below.grown ((brf.drew).alloc (by show Z.heap.size≤U.heap.size;omega) _) hg' smA hrow
        have hblk:Blk w6 wr.heap.size 119 #[.int .i64 tb, .int .i64 sq]:=(HBU.out.drew.alloc _).grown hg' (fun e=>by have:=Oh _ e.symm;omega)
        have b0:=hblk.cell 0
        have b1:=hblk.cell 1
        simp only [gE3] at b0 b1
        clear hown' hg' hat' hblk
        refine hK.out _ _ ⟨b0,b1,HLK.out _ (HMU.out.below hb6 omA)⟩ (fun hHeld => ?_)
        clear hK K b0 b1 v0 v1
        (try simp only [Act.put,gP6])
        refine tkH 13 hHeld ?_ (hQ:=by exact fun c a w h=>jY (d := 21) (ig (by decide)) c a w h)
        refine wpAnyH_done krA ?_ _
        clear hHeld
        go_wp2_with fail
        go_roundw
        case rel=>exact ⟨i + 1,by omega,by go_num,by rw [HDL.out];exact HOWN'.out,hyU.trans hb6⟩
        case measure=>exact meA
       ·have hlt':decide (i<l'.length)=false:=by simpa using hlt
        obtain rfl:i=l'.length:=by omega
        have ho:=HOWN.out
        rw [List.take_length] at ho
        obtain ⟨A6,c6,rfl,hc6,hs6,_⟩:=ho.slice qP
        have HS6:=qh hs6
        clear ho hs6 HOWN
        go_wp2_with fail
        refine leaves_cons (f := 68) (args := #[]) spA (by simp [go_sem]) ?_;refine (fK _).mono ?_;rintro e u' w'' ⟨rfl,rfl,rfl⟩;refine ⟨_,results_tmp rfl _ _ _,?_⟩
        exact ⟨⟨A6,c6,_,rfl,HS6.out,iy.out l' HPZ.out Rb⟩,hxr⟩
def ja (S:List Src) (k:Nat) (l:List bB):List bB:=l.filter fun y => !decide ((⟨(k:Int),eX y⟩:Src)∈S)
def fu (pl:List (List bB)) (S:List Src):List (List bB):=pl.mapIdx (ja S)
theorem MK (pl:List (List bB)):fu pl []=pl:=by
 unfold fu ja
 apply List.ext_getElem
 ·simp
 ·intro i h1 h2
  simp
theorem EJ (pl:List (List bB)) (S:List Src):(fu pl S).length=pl.length:=by simp [fu]
theorem oU {pl:List (List bB)} {S:List Src} {i:Nat} (h:i<(fu pl S).length):(fu pl S)[i]=ja S i (pl[i]'(by rw [EJ] at h;exact h)):=List.getElem_mapIdx ..
theorem fH.sub {ae:List Col} {l l':List bB} (h:fH ae l) (hs:l'.Sublist l):fH ae l':=⟨Nat.le_trans hs.length_le h.len,fun r hr=>h.rcd r (hs.subset hr),h.asc.sublist hs,h.own.sublist hs⟩
theorem POk.fu {ts:List Tab} {pl:List (List bB)} (h:POk ts pl) (S:List Src):POk ts (fu pl S):=by
 refine ⟨by simpa [Go.Proofs.YtkiglflbngfelaaGreat.fu] using h.len,fun i hi hi' => ?_⟩
 have hip:i<pl.length:=by simpa [Go.Proofs.YtkiglflbngfelaaGreat.fu] using hi
 rw [oU]
 exact (h.tab i hip hi').sub List.filter_sublist
theorem Gt {l:List bB} (h:l.Pairwise (fun a b=>eX a≠eX b)) {j:Nat} (hj:j<l.length):iW l j=l.filter fun y => !decide (eX y=eX l[j]):=by
 have e:l=l.take j++l[j]::l.drop (j + 1):=by rw [List.getElem_cons_drop,List.take_append_drop]
 have h1:(l.take j).filter (fun y => !decide (eX y=eX l[j]))=l.take j:=by
  rw [List.filter_eq_self]
  intro y hy
  obtain ⟨i,hi,rfl⟩:=List.getElem_of_mem hy
  rw [List.length_take] at hi
  rw [List.getElem_take]
  have:=List.pairwise_iff_getElem.1 h i j omA hj omA
  simpa using this
 have h2:(l.drop (j + 1)).filter (fun y => !decide (eX y=eX l[j]))=l.drop (j + 1):=by
  rw [List.filter_eq_self]
  intro y hy
  obtain ⟨i,hi,rfl⟩:=List.getElem_of_mem hy
  rw [List.length_drop] at hi
  rw [List.getElem_drop]
  have:=List.pairwise_iff_getElem.1 h j (j + 1+i) hj omA omA
  simpa using fun e=>this e.symm
 obtain ⟨z,hz⟩ : ∃ z,l[j]=z:=⟨_,rfl⟩
 rw [hz] at e h1 h2 ⊢
 have e2:l.filter (fun y => !decide (eX y=eX z))=(l.take j++z::l.drop (j + 1)).filter (fun y => !decide (eX y=eX z)):=by rw [← e]
 rw [e2,List.filter_append,List.filter_cons,h1,h2]
 simp [iW]
theorem KQ {ae:List Col} {l:List bB} (h:fH ae l) (h0 : 0<ae.length) {r:bB} (hr:r∈l) {x:Chg} (hx3:x.kind = 3) (hxk:keyOf x=aJ r):dn l x=l.filter fun y => !decide (eX y=eX r):=by
 have hK:=h.keys h0
 obtain ⟨j,hj,rfl⟩:=List.getElem_of_mem hr
 have hv:=hK.val _ hr
 have hk:(aJ l[j]).kind ≠ 0:=by
  have h1:=h.rcd _ hr
  have hl : 0<l[j].1.length:=by rw [h1.len];exact h0
  rw [oP hl]
  exact h1.key hl
 have hpl:eU l (aJ l[j])=j:=nO omA (fun i hi hij=>by
  have h2:=List.pairwise_iff_getElem.1 h.asc i j hi hj hij
  have h3:=bN.pQ (aJ l[j]) (aJ l[i])
  omega) (fun _=>by rw [bN.refl];exact Int.le_refl _)
 have hf:df l (aJ l[j])=true:=(jq hK hv hpl).2 ⟨hj,bN.refl _⟩
 rw [tY hK hx3 (by rw [hxk];exact hv) (by rw [hxk];exact hk) (by rw [hxk];exact hf),hxk,hpl]
 exact Gt h.own hj
theorem MJ {ts:List Tab} {pl:List (List bB)} {S:List Src} {k:Nat} (hp:POk ts pl) (hok:aV ts) (hk:k<pl.length) {r:bB} (hr:r∈ja S k pl[k]) {x:Chg} (hx3:x.kind = 3) (hxt:x.table=(k:Int)) (hxk:keyOf x=aJ r):aU (fu pl S) x=fu pl (S ++ [⟨(k:Int),eX r⟩]):=by
 have hk':k<ts.length:=by have:=hp.len;omega
 have hkc:k<(fu pl S).length:=by simpa [fu] using hk
 have e1:(fu pl S)[k]=ja S k pl[k]:=oU hkc
 have htab:=(hp.fu S).tab k hkc hk'
 rw [e1] at htab
 unfold aU
 rw [hxt,Int.toNat_natCast,gX hkc,e1,KQ htab (hok.ae hk').1 hr hx3 hxk]
 apply List.ext_getElem
 ·simp [fu]
 ·intro i h1 h2
  have hi:i<pl.length:=by simpa [fu] using h2
  rw [List.getElem_set,oU,oU]
  split
  ·rename_i e
   subst e
   unfold ja
   rw [List.filter_filter]
   congr 1
   funext y
   simp [Bool.and_comm]
  ·rename_i e
   unfold ja
   congr 1
   funext y
   have : ¬ ((i:Int)=(k:Int)):=by omega
   simp [this]
theorem JK {ts:List Tab} {rt:List RTab} (hok:aO ts rt) {k:Nat} (hk:k<rt.length) {r:bB} (hr:r∈(rt.map ax)[k]'(by simpa using hk)) {q d:Int} (hq : 1≤q∧q ≤ 1073741824) (hd : 0≤d∧d ≤ 1048576) (hlast:dJ rt<q):dZ ts rt ⟨3,q,d,(k:Int),none,0,[],aJ r,0,⟨0,0,⟨#[]⟩⟩⟩ = 0:=by
 have hlt:k<ts.length:=by have:=hok.len;omega
 have hkp:k<(rt.map ax).length:=by simpa using hk
 have htab:=hok.pure.tab k hkp hlt
 have h0:=(hok.cat.ae hlt).1
 have hK:=htab.keys h0
 have hv:=hK.val r hr
 have hrc:=htab.rcd r hr
 have hl : 0<r.1.length:=by rw [hrc.len];exact h0
 have hkd:(aJ r).kind ≠ 0:=by rw [oP hl];exact hrc.key hl
 have hty:bT (aJ r) ts[k].ae[0].ty=true:=by rw [oP hl];exact (hrc.cell 0 h0).typ hl h0
 have hm:(aB (k:Int) 0 ((ts.length:Int) - 1))=true:=by
  simp only [aB,Bool.and_eq_true,decide_eq_true_eq]
  omega
 have hw1:aB q 1 1073741824=true:=by simp only [aB,Bool.and_eq_true,decide_eq_true_eq];exact hq
 have hw2:aB d 0 1048576=true:=by simp only [aB,Bool.and_eq_true,decide_eq_true_eq];exact hd
 have e1:bG ts ⟨3,q,d,(k:Int),none,0,[],aJ r,0,⟨0,0,⟨#[]⟩⟩⟩=false:=by
  have e0:aB 3 1 3=true:=by decide
  unfold bG fA eG gM
  simp [hm,hw1,hw2,hv,e0]
 have ek:keyOf ⟨3,q,d,(k:Int),none,0,[],aJ r,0,⟨0,0,⟨#[]⟩⟩⟩=aJ r:=rfl
 have e2:iR (dh ts (k:Int)) ⟨3,q,d,(k:Int),none,0,[],aJ r,0,⟨0,0,⟨#[]⟩⟩⟩=false:=by
  unfold iR
  rw [ek,bI hlt,show (0:Int)=((0:Nat):Int) from rfl,jC h0,hty]
  rfl
 have e3:pb (fZ (dh ts (k:Int)) [])=true:=aT fun i h _=>by simp at h
 have ef:cu ts ⟨3,q,d,(k:Int),none,0,[],aJ r,0,⟨0,0,⟨#[]⟩⟩⟩ = 0:=by
  unfold cu
  rw [e1,ek]
  simp only [e2,e3]
  rw [if_neg (by decide),if_neg (by simpa using hkd),if_neg (by decide),if_neg (by decide),if_neg spA]
 have hfd:df (rt.map ax)[k] (aJ r)=true:=by
  obtain ⟨j,hj,rfl⟩:=List.getElem_of_mem hr
  have hpl:eU (rt.map ax)[k] (aJ (rt.map ax)[k][j])=j:=nO omA (fun i hi hij=>by
   have h2:=List.pairwise_iff_getElem.1 htab.asc i j hi hj hij
   have h3:=bN.pQ (aJ (rt.map ax)[k][j]) (aJ (rt.map ax)[k][i])
   omega) (fun _=>by rw [bN.refl];exact Int.le_refl _)
  exact (jq hK hv hpl).2 ⟨hj,bN.refl _⟩
 have e4:iP (iK rt (k:Int)) (aJ r)=(eU (rt.map ax)[k] (aJ r):Int):=by
  rw [vI,gX hkp]
  exact jI hK hv hkd hfd
 have e5:pb (ik ts rt (dh ts (k:Int)) [])=true:=aT fun i h _=>by simp at h
 have es:iF ts rt ⟨3,q,d,(k:Int),none,0,[],aJ r,0,⟨0,0,⟨#[]⟩⟩⟩ = 0:=by
  unfold iF
  rw [ek]
  simp only [e4,e5]
  rw [if_neg spA,if_neg spA,if_neg (by decide),if_neg spA,if_neg spA]
 unfold dZ
 rw [aT hok,ef,es]
 simp only
 rw [if_neg (by decide),if_neg (by decide),if_neg (by simpa using hlast)]
theorem sw {ts:List Tab} {rt:List RTab} (hok:aO ts rt) : ∀ n,n≤rt.length→(cz rt n).Nodup
 | 0,_=>List.nodup_nil
 | n + 1,hn=>by
   have hlt:n<rt.length:=by omega
   have hts:n<ts.length:=by have:=hok.len;omega
   rw [cz,iC hlt]
   refine List.nodup_append.2 ⟨sw hok n omA,?_,fun a ha b hb e => ?_⟩
   ·rw [List.nodup_iff_pairwise_ne,List.pairwise_map]
    have h1:=(hok.tab n hlt hts).pure.own
    rw [List.pairwise_map] at h1
    refine h1.imp fun {a b} h e=>h ?_
    unfold gL at e
    injection e
   ·obtain ⟨i,r,h3,_,rfl⟩:=pg ha
    obtain ⟨r',_,rfl⟩:=List.mem_map.1 hb
    unfold gL at e
    injection e with e1 _
    omega
theorem xh (ts:List Tab) (rt:List RTab) (o:List aD) (day:Int) : ∀ n,(expE ts rt o day n).Sublist (cz rt n)
 | 0=>List.Sublist.refl _
 | n + 1=>by
   rw [expE,cz]
   refine (xh ts rt o day n).append ?_
   unfold uB rf
   split
   ·exact List.nil_sublist _
   ·exact List.filter_sublist.map _
theorem Ka {ts:List Tab} {rt:List RTab} (hok:aO ts rt) {o:List aD} {day:Int} {gone:List Src} (hp:gone.Perm (expE ts rt o day rt.length)):(CP rt gone).Perm gone:=by
 have hs:=xh ts rt o day rt.length
 have hn:=sw hok rt.length nlr
 have hg:gone.Nodup:=hp.nodup_iff.2 (hn.sublist hs)
 refine (List.perm_ext_iff_of_nodup (hn.sublist List.filter_sublist) hg).2 fun s => ?_
 show s∈(cz rt rt.length).filter (fun s=>decide (s∈gone))↔_
 rw [List.mem_filter]
 refine ⟨fun h=>by simpa using h.2,fun h=>⟨hs.subset (hp.mem_iff.1 h),by simpa using h⟩⟩
theorem MF {ts:List Tab} {rt rt':List RTab} {o:List aD} {day:Int} {S:List Src} (hS : ∀ s∈expE ts rt o day rt.length,s∈S) (hp:rt'.map ax=fu (rt.map ax) S):expE ts rt' o day rt'.length = []:=by
 have hlen:rt'.length=rt.length:=by
  have:=congrArg List.length hp
  simpa [fu] using this
 rw [List.eq_nil_iff_forall_not_mem]
 intro s hs
 obtain ⟨i,hi,h1⟩:=xV.1 hs
 obtain ⟨h2,r',h3,h4,h5,rfl⟩:=AA.1 h1
 rw [iC hi] at h3
 have hi2:i<rt.length:=by omega
 have e:rt'[i].recs.map aG=ja S i (rt[i].recs.map aG):=by
  have h6:(rt'.map ax)[i]'(by simpa using hi)=(fu (rt.map ax) S)[i]'(by simpa [fu] using hi2):=by simp only [hp]
  rw [oU,List.getElem_map,List.getElem_map] at h6
  exact h6
 have h7:aG r'∈ja S i (rt[i].recs.map aG):=by rw [← e];exact List.mem_map_of_mem h3
 unfold ja at h7
 rw [List.mem_filter] at h7
 obtain ⟨h8,h9⟩:=h7
 obtain ⟨r,h10,h11⟩:=List.mem_map.1 h8
 have hd:r.day=r'.day:=congrArg (fun p:bB=>p.2.2) h11
 have hh:bJ r=bJ r':=congrArg eX h11
 have hsr:gL i r=gL i r':=by unfold gL;rw [hh]
 have h12:gL i r'∈expE ts rt o day rt.length:=xV.2 ⟨i,hi2,AA.2 ⟨h2,r,by rw [iC hi2];exact h10,by rw [hd];exact h4,by rw [hsr];exact h5,hsr⟩⟩
 have h13:=hS _ h12
 have h14:decide ((⟨(i:Int),eX (aG r')⟩:Src)∈S)=true:=decide_eq_true h13
 rw [h14] at h9
 cases h9
theorem MI {ts:List Tab} {rt rt':List RTab} (hok:aO ts rt) {L:List Src} (hL : ∀ s∈L,s∈cz rt rt.length) (hn:L.Nodup) {i:Nat} (hi:i<L.length) (hp:rt'.map ax=fu (rt.map ax) (L.take i)) {q d:Int} (hq : 1≤q∧q+L.length ≤ 1073741825) (hd : 0≤d∧d ≤ 1048576) (hlast:dJ rt'<q) :
 dZ ts rt' (yT rt q d i L[i]) = 0∧aU (rt'.map ax) (yT rt q d i L[i])=fu (rt.map ax) (L.take (i + 1)):=by
 obtain ⟨k,r,hk,htab,hr,hseq,hfind,hkey,hrow⟩:=GK hok (hL _ (lgm hi))
 have hkp:k<(rt.map ax).length:=by simpa using hk
 have hlen:rt'.length=rt.length:=by
  have:=congrArg List.length hp
  simpa [fu] using this
 have hk':k<rt'.length:=by omega
 have e1:(rt'.map ax)[k]'(by simpa using hk')=ja (L.take i) k ((rt.map ax)[k]):=by
  have h6:(rt'.map ax)[k]'(by simpa using hk')=(fu (rt.map ax) (L.take i))[k]'(by simpa [fu] using hk):=by simp only [hp]
  rw [h6,oU]
 have hsrc:L[i]=(⟨(k:Int),eX (aG r)⟩:Src):=by
  obtain ⟨a,b⟩ : ∃ a b,L[i]=(⟨a,b⟩:Src):=⟨L[i].tab,L[i].seq,rfl⟩
  rw [show L[i]=(⟨L[i].tab,L[i].seq⟩:Src) from rfl,htab,hseq]
  rfl
 have hrm:aG r∈ja (L.take i) k (rt.map ax)[k]:=by
  unfold ja
  rw [List.mem_filter,List.getElem_map]
  refine ⟨List.mem_map_of_mem hr,?_⟩
  rw [← hsrc]
  have:L[i] ∉ L.take i:=fun hm=>by
   obtain ⟨j,hj,he⟩:=List.getElem_of_mem hm
   rw [List.length_take] at hj
   rw [List.getElem_take] at he
   exact (List.pairwise_iff_getElem.1 hn j i omA hi omA) he
  simpa using this
 have hc:yT rt q d i L[i]=⟨3,q+i,d,(k:Int),none,0,[],aJ (aG r),0,⟨0,0,⟨#[]⟩⟩⟩:=by
  unfold yT
  rw [hkey,htab]
  rfl
 have hok':aO ts rt':=POk.back hok.cat (by rw [hp];exact hok.pure.fu _)
 rw [hc]
 refine ⟨JK hok' hk' (by rw [e1];exact hrm) omA hd omA,?_⟩
 rw [hp,MJ hok.pure hok.cat hkp hrm rfl rfl rfl,← hsrc,List.take_succ_eq_append_getElem hi]
theorem K4 {rt rt':List RTab} {S:List Src} (hp:rt'.map ax=fu (rt.map ax) S) {B:Int} (h0 : 0≤B) (h : ∀ t∈rt,∀ r∈t.recs,∀ s∈r.seq,s≤B):dJ rt'≤B:=by
 have key : ∀ (l:List Int) (a:Int),a≤B→(∀ x∈l,x≤B)→l.foldl max a≤B:=by
  intro l
  induction l with
  | nil=>exact fun a h _=>h
  | cons x l ih =>
    intro a ha hx
    rw [List.foldl_cons]
    exact ih _ (by have:=hx x spA;omega) fun y hy=>hx y (by simp [hy])
 unfold dJ nI
 refine key _ 0 h0 fun x hx => ?_
 rw [IY,hp] at hx
 obtain ⟨t,ht,hx⟩:=List.mem_flatMap.1 hx
 obtain ⟨r,hr,hs⟩:=List.mem_flatMap.1 hx
 unfold fu at ht
 obtain ⟨k,hk,rfl⟩:=List.mem_mapIdx.1 ht
 unfold ja at hr
 have hr:=(List.mem_filter.1 hr).1
 rw [List.getElem_map] at hr
 obtain ⟨y,hy,rfl⟩:=List.mem_map.1 hr
 exact h _ (lgm (by simpa using hk)) y hy x hs
end Go.Proofs.YtkiglflbngfelaaGreat
