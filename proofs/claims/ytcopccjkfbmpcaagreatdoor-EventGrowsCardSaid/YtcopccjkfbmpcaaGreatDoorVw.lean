/-
  The variables of a term: walking over it.
-/
import Derived.Test.YtcopccjkfbmpcaaGreatDoorRv
set_option maxHeartbeats 0
set_option maxRecDepth 100000
namespace Go.Vm.Seat
variable {b:Bool} {es nt o:Nat} {L:List (List PV)} {out:PV} {lv:List Nat} {t:Tm} {rest:List Box}
open Go.Proofs
theorem ZbX (t:Tm):Za [t]= [t.cells]:=by obtain ⟨k,nm,s,b,kz⟩:=t;rfl
theorem ZaJ (h:ApV b es L out lv nt) (k:Int) (nm:List UInt8) (s:Int):[PV.int .i64 k,.str nm,.int .i64 s,out].all ZX=true:=by cases h<;>rfl
theorem WT (h:ApV true es L out lv nt) (hL:L≠ []):∃ k,out= .sl (.tok k) es L:=by
 cases h with
 |nil=>exact absurd rfl hL
 |full _ _ _ h=>cases h
 |tok L k=>exact ⟨k,rfl⟩
theorem ZS (m:Nat) (H:Heap) (k:Int) (nm:List UInt8) (s:Int) (b:Bool) (l:List (List PV)):frz3 m H (.agg [.int .i64 k,.str nm,.int .i64 s,slV b 4 l])=some (.agg [.int .i64 k,.str nm,.int .i64 s,slV b 4 l]):=by
 rw [Zcw]
 simp only [WH,VN]
 rfl
theorem Zkq (h:ApV b 4 L out lv nt) (m:Nat) (H:Heap) (k:Int) (nm:List UInt8) (s:Int):frz3 m H (.agg [.int .i64 k,.str nm,.int .i64 s,out])=some (.agg [.int .i64 k,.str nm,.int .i64 s,slV b 4 L]):=by
 rw [Zcw]
 simp only [WH,h.frzC]
 rfl
theorem ZtZ (ht:t.Ok):t.size≤100000→∀ H,CallOk E0 Tryz.prog 205 [.agg t.cells] H (.agg t.cl.cells) H:=by
 induction ht with
 | @mk k nm s b kz hk hs hn hl hok ih=>
 intro hsz
 simp only [Tm.size] at hsz
 have hkl:kz.length≤Zl kz:=by
  rw [← U0]
  have:∀ l:List Tm,l.length≤(Vj l).length:=by
   intro l
   induction l with
   | nil=>simp
   | cons a r ih =>
     have:=a.all_len
     have:=Q9 a
     simp only [Vj,List.length_append,List.length_cons]
     omega
  exact this kz
 simp only [Tm.cl,Tm.cells]
 refine Jw tOk fe205.ok (ZS _ _ _ _ _ _ _) ?_
 repeat' first|refine Jl ?_|refine Jo ?_|fail
 refine Wp.while (fun m tm H => ∃ (i : Nat) (base : TM) (out : PV) (lv : List Nat) (nt : Nat), i + m = kz.length ∧ ApV true 4 (Za (clL (kz.take i))) out lv nt ∧
   tm=ovr base [(1,.ptr 0 4 0 0),(2,.ptr 1 4 0 0),(9,slV b 4 (Za kz)),(10,.int .i64 (kz.length:Int)),(11,.int .i64 (i:Int))]∧H=⟨[.cells 4 [[.int .i64 k,.str nm,.int .i64 s,out]],.cells 4 [[.int .i64 0,.str [],.int .i64 0,.nils]]],0,lv,nt⟩)
  (fun m tm H hI=>Wp.drop ?_) kz.length _ _ ⟨0,_,_,_,_,by omega,.nil _ _ rfl,Zf ⟨rfl,rfl,rfl,Ze (by rw [Zb]),rfl,trivial⟩,rfl⟩
 obtain ⟨i,base,out,lv,nt,hi,hA,rfl,rfl⟩:=hI
 by_cases hlt:i<kz.length
 · obtain ⟨t', ht'⟩ : ∃ t', kz[i]? = some t' := ⟨kz[i], by simp⟩
   have hm:t'∈kz:=List.mem_of_getElem? ht'
   have hle:=XG hm
   have hs:=Zc0 ht'
   have hc:=ih t' hm (by omega)
   have hlen1:(clL (kz.take i)).length≤kz.length:=by
    rw [WD,List.length_take];omega
   obtain ⟨out',lv',nt',hap,hA', -⟩:=hA.app Yh (.sl .full 4 (Za [t'.cl])) (Zn _) (ZD (by simp only [Zb,List.length_cons,List.length_nil];omega) (by decide)) (ZO _)
   rw [← Zt, ← hs] at hA'
   obtain ⟨kc,nc,sc,bc,lc,ec⟩:∃ kc nc sc bc lc,t'.cl= .mk kc nc sc bc lc:=by
    obtain ⟨k',nm',s',b',kz'⟩:=t'
    exact ⟨_,_,_,_,_,rfl⟩
   rw [ec] at hc hap
   rw [WP] at hap
   obtain ⟨kt,rfl⟩:=WT hA' (by rw [hs,Zt,ZbX];simp)
   obtain ⟨k',nm',s',b',kz'⟩:=t'
   have hj:=Zk ht'
   repeat' first|refine Jx ?_|refine Jz ?_ ?_|refine Jo ?_|refine Jd (hc _) ?_|refine JB ?_|(apply dAp;rfl;rfl;rfl;rfl;rfl;(first|assumption|solve_by_elim);rfl)|refine Jh ?_|(apply Wp.drawS tOk follows;kernel_rfl;rfl)|intro hb
   · exact DropQ.go [(1, .ptr 0 4 0 0), (2, .ptr 1 4 0 0), (9, slV b 4 (Za kz)), (10, .int .i64 (kz.length : Int)), (11, .int .i64 ((i + 1 : Nat) : Int))] ⟨rfl, rfl, rfl, rfl, Ze (Zd (n := i + 1) (by omega)), trivial⟩
       (by simp [Zh,under]) rfl (by simp [YJ,ZM,under]) (LoopI.go (m-1) (by omega) ⟨i+1,_,_,lv',nt',by omega,hA',rfl,rfl⟩)
   · exfalso;simp at hb;omega
 · have e : i = kz.length := by omega
   subst e
   rw [List.take_length] at hA
   have hco:=ZaJ hA k nm s
   repeat' first|refine Jz ?_ ?_|refine Jo ?_|intro hb
   · exfalso;simp at hb
   · exact Zkq hA _ _ _ _ _
theorem ZU (m:Nat) (H:Heap) (t:Tm) (e:Int):frz3 m H (.tup [.agg t.cells,.int .i64 e])=some (.tup [.agg t.cells,.int .i64 e]):=by
 obtain ⟨k,nm,s,b,kz⟩:=t
 simp only [Tm.cells]
 rw [WW]
 simp only [Wn,frz2,WH,VN]
 rfl
theorem Zuq (ht:t.Ok) (hs:t.size≤100000):∀ H,CallOk E0 Tryz.prog 225 [.agg t.cells,.nils,.agg t.cells] H (.tup [.agg t.cl.cells,.int .i64 0]) H:=by
 have hc:=ZtZ ht hs
 have hfr:=ZU 0 hNil t.cl 0
 generalize t.cl=u at hc hfr ⊢
 obtain ⟨k,nm,s,b,kz⟩:=t
 obtain ⟨k',nm',s',b',kz'⟩:=u
 simp only [Tm.cells] at hc hfr ⊢
 refine Jw tOk fe225.ok hfr ?_
 repeat' first|refine Jc (hc _) ?_|refine Jo ?_|fail
 refine Wp.while (fun m tm H=>∃ base:TM,tm=ovr base [(5,.ptr 1 4 0 0),(6,.ptr 2 4 0 0),(8,.ptr 3 4 0 0),(9,.ptr 3 4 0 0),(15,.int .i64 0),(16,.int .i64 0)]∧H=⟨[.cells 4 [[.int .i64 k,.str nm,.int .i64 s,slV b 4 (Za kz)]],.cells 4 [[.int .i64 k,.str nm,.int .i64 s,slV b 4 (Za kz)]],.cells 4 [[.int .i64 0,.str [],.int .i64 0,.nils]],.cells 4 [[.int .i64 k',.str nm',.int .i64 s',slV b' 4 (Za kz')]]],0,[],0⟩)
  (fun m tm H hI=>?_) 0 _ _ ⟨_,Zf ⟨rfl,rfl,rfl,rfl,rfl,rfl,trivial⟩,rfl⟩
 obtain ⟨base,rfl,rfl⟩:=hI
 repeat' first|refine Jc (hc _) ?_|(apply qF (ty:=0);rfl;rfl;rfl)|refine Jo ?_|fail
 all_goals exact ZU _ _ (.mk k' nm' s' b' kz') 0
def zcT:List PV:=[.int .i64 0,.str [],.int .i64 0,.nils]
theorem Zsm {D R : List (List PV)} {c : List PV} {bx : List Box} {i : Nat} {vs : List PV} (hi : D.length = i) (ho : o + vs.length ≤ c.length) :
  Heap.wr ⟨.cells 4 (D++c::R)::bx,0,[],0⟩ (.ptr 0 4 (0+i) o) vs=some ⟨.cells 4 (D++(c.take o++vs++c.drop (o+vs.length))::R)::bx,0,[],0⟩:=by
 have hn:nth (D++c::R) (0+i)=some c:=by
  rw [Zo,Nat.zero_add, ← hi]
  simp
 have hs:∀ y,(D++c::R).set (0+i) y=D++y::R:=fun y=>by
  rw [← hi,Nat.zero_add]
  simp
 have h0:nth (Box.cells 4 (D++c::R)::bx) 0=some (.cells 4 (D++c::R)):=rfl
 rw [Nat.zero_add] at hn hs ⊢
 simp only [Heap.wr,h0,if_true,hn,if_pos ho]
 simp only [Heap.put,Nat.not_lt_zero,if_false,hs,List.set_cons_zero,List.append_assoc]
theorem ZgN (n:Nat) (l:List Tm) (m:Nat):YJ n (.cells 4 (Za l++List.replicate m zcT))=true:=by
 simp only [YJ,List.all_append,Bool.and_eq_true]
 constructor
 · rw [YD, List.all_map, List.all_eq_true]
   rintro ⟨k,nm,s,b,kz⟩ _
   simp [Tm.cells,ZM,under,Zh]
 · rw [List.all_eq_true]
   intro x hx
   rw [(List.mem_replicate.1 hx).2]
   rfl
theorem Zaj:∀ l:List Tm,Z8 (Za l)=some (Za l)
 | []=>rfl
 | .mk k nm s b kz :: r => by
   simp only [Za,Tm.cells,Z8,Xq,Zaj r]
theorem ZlY (H:Heap) (l:List Tm) (k:Nat) (hk:k=l.length) (hH:nth H.bx 0=some (.cells 4 (Za l))):frz3 0 H (.own 0 4 0 k)=some (slV false 4 (Za l)):=by
 have hl:(Za l).length=k:=by rw [Zb,hk]
 have h1:((Za l).drop 0).take k=Za l:=by rw [List.drop_zero, ← hl,List.take_length]
 rw [Yb]
 show frzC 0 H (.own 0 4 0 k)=_
 simp only [frzC,Nat.not_lt_zero,if_false,hH,true_and,Nat.zero_add,hl,Nat.le_refl,if_true,h1,Zaj]
theorem ZuY (n:Nat):∀ {l:List Tm},SmL l→Zl l<n→Zl l≤100000→∀ b H,CallOk E0 Tryz.prog 217 [slV b 4 (Za l)] H (slV false 4 (Za (clL l))) H:=by
 induction n with
 |zero=>intro l _ h;omega
 |succ n ih=>
 intro l hl hn hsz b
 have hlen:=Yy l
 have eT:E0.T 29=some ⟨.slice 48,1,24,.nils⟩:=by kernel_rfl
 have eE:E0.T 48=some ⟨.struct [(0,3),(1,9),(2,3),(3,29)],4,56,.agg zcT⟩:=by kernel_rfl
 have hmk:Xy E0 29 (.int .i64 (Int.ofNat (Za l).length)) (.int .i64 (Int.ofNat (Za l).length)) hNil=some (.own 0 4 0 l.length,⟨[.cells 4 (List.replicate l.length zcT)],0,[],0⟩):=by
  have en:nat? (.int .i64 (Int.ofNat (Za l).length))=some l.length:=by rw [Zb];rfl
  simp only [Xy,eT,eE,en]
  rw [if_pos ⟨rfl,by decide,by omega,by omega⟩]
  simp [Heap.push,hNil,PV.cells]
 have hia:∀ i:Nat,i<l.length→Zv E0 29 (.own 0 4 0 l.length) (.int .i64 (i:Int))=some (.ptr 0 4 (0+i) 0):=fun i hi=>by
  have en:nat? (.int .i64 (i:Int))=some i:=rfl
  simp only [Zv,eT,en,eE,if_true]
  rw [if_pos hi]
 refine ZH (own:=fun d=>Nat.beq d 8) tOk fe217.ok (by simp only [Zx,Z5]) (ZK _ _ _ _ _) ?_
 refine Wp.seq ?_
 repeat' first|(apply qMk;rfl;rfl;rfl;rfl;rfl;assumption)|refine Jl ?_|refine Jo ?_|fail
 have hl0:Za (clL (l.take 0))++List.replicate l.length zcT=List.replicate l.length zcT:=by simp [clL,Za]
 refine Wp.while (fun m tm H => ∃ (i : Nat) (base : TM), i + m = l.length ∧
   tm=ovr base [(3,.own 0 4 0 l.length),(9,slV b 4 (Za l)),(10,.int .i64 (l.length:Int)),(11,.int .i64 (i:Int))]∧H=⟨[.cells 4 (Za (clL (l.take i))++List.replicate m zcT)],0,[],0⟩)
  (fun m tm H hI=>Wp.drop ?_) l.length _ _ ⟨0,_,by omega,Zf ⟨rfl,rfl,Ze (by rw [Zb]),rfl,trivial⟩,by rw [hl0]⟩
 obtain ⟨i,base,hi,rfl,rfl⟩:=hI
 clear hmk hl0
 by_cases hlt:i<l.length
 · obtain ⟨t, ht⟩ : ∃ t, l[i]? = some t := ⟨l[i], by simp⟩
   obtain ⟨m,rfl⟩:∃ m',m=m'+1:=⟨m-1,by omega⟩
   have hm:t∈l:=List.mem_of_getElem? ht
   have hle:=Z7 hm
   have hsn:=Zc0 ht
   have hrep:=Zuq (hl t hm).1 (hl t hm).2
   have hDl:(Za (clL (l.take i))).length=i:=by rw [Zb,WD,List.length_take];omega
   have hia1:=hia i hlt
   obtain ⟨k',nm',s',b',kz'⟩:=t
   have hj:=Zk ht
   rw [Tm.size] at hle
   have hown:=ih (l:=kz') (fun x hx=>⟨(hl _ hm).1.kid hx,by have:=Z7 hx;omega⟩) (by omega) (by omega) b'
   have hfin:Za (clL (l.take (i+1)))=Za (clL (l.take i))++ [[.int .i64 k',.str nm',.int .i64 s',slV true 4 (Za (clL kz'))]]:=by
    rw [hsn,Zt]
    rfl
   generalize Za (clL (l.take i))=D at hDl hfin ⊢
   rw [List.replicate_succ]
   obtain ⟨R,hR⟩:∃ R,R=List.replicate m zcT:=⟨_,rfl⟩
   rw [← hR]
   have w1:Heap.wr ⟨[.cells 4 (D++zcT::R),.cells 4 [[.int .i64 k',.str nm',.int .i64 s',slV b' 4 (Za kz')]]],0,[],0⟩ (.ptr 0 4 (0+i) 0) [.int .i64 k',.str nm',.int .i64 s',slV true 4 (Za (clL kz'))]=some ⟨[.cells 4 (D++ [.int .i64 k',.str nm',.int .i64 s',slV true 4 (Za (clL kz'))]::R),.cells 4 [[.int .i64 k',.str nm',.int .i64 s',slV b' 4 (Za kz')]]],0,[],0⟩:=Zsm (c:=zcT) (o:=0) (vs:=[.int .i64 k',.str nm',.int .i64 s',slV true 4 (Za (clL kz'))]) hDl (Nat.le_refl 4)
   simp only [Yb] at hown
   have w2:Heap.wr ⟨[.cells 4 (D++ [.int .i64 k',.str nm',.int .i64 s',slV true 4 (Za (clL kz'))]::R),.cells 4 [[.int .i64 k',.str nm',.int .i64 s',slV b' 4 (Za kz')]]],0,[],0⟩ (.ptr 0 4 (0+i) 3) [.sl .none 4 (Za (clL kz'))]=some ⟨[.cells 4 (D++ [.int .i64 k',.str nm',.int .i64 s',.sl .none 4 (Za (clL kz'))]::R),.cells 4 [[.int .i64 k',.str nm',.int .i64 s',slV b' 4 (Za kz')]]],0,[],0⟩:=Zsm (c:=[.int .i64 k',.str nm',.int .i64 s',slV true 4 (Za (clL kz'))]) (o:=3) (vs:=[.sl .none 4 (Za (clL kz'))]) hDl (Nat.le_refl 4)
   have w3:Heap.wr ⟨[.cells 4 (D++ [.int .i64 k',.str nm',.int .i64 s',.sl .none 4 (Za (clL kz'))]::R),.cells 4 [[.int .i64 k',.str nm',.int .i64 s',slV b' 4 (Za kz')]]],0,[],0⟩ (.ptr 0 4 (0+i) 3) [.nils]=some ⟨[.cells 4 (D++ [.int .i64 k',.str nm',.int .i64 s',.nils]::R),.cells 4 [[.int .i64 k',.str nm',.int .i64 s',slV b' 4 (Za kz')]]],0,[],0⟩:=Zsm (c:=[.int .i64 k',.str nm',.int .i64 s',.sl .none 4 (Za (clL kz'))]) (o:=3) (vs:=[.nils]) hDl (Nat.le_refl 4)
   have hlK:=Zb kz'
   simp only [Tm.cells,Tm.cl] at hrep
   have e1:kz'= []→D++ [.int .i64 k',.str nm',.int .i64 s',.nils]::R=Za (clL (l.take (i+1)))++List.replicate m zcT:=fun e=>by
    rw [hfin, ← hR,e]
    simp only [clL,Za,Zg,List.append_assoc,List.singleton_append]
   have e2:kz'≠ []→D++ [.int .i64 k',.str nm',.int .i64 s',.sl .none 4 (Za (clL kz'))]::R=Za (clL (l.take (i+1)))++List.replicate m zcT:=fun e=>by
    rw [hfin, ← hR]
    cases kz' with
    | nil=>exact absurd rfl e
    | cons x r=>simp only [clL,Za,Zm,List.append_assoc,List.singleton_append]
   have eB:=ZgN 1 (clL (l.take (i+1))) m
   repeat' first|refine Jc (hrep _) ?_|refine Jc (hown _) ?_|refine JJ ?_|refine Jl ?_|refine Jx ?_|refine Jb ?_ ?_|refine Jz ?_ ?_|refine Jo ?_|intro hb
   · have ek : kz' = [] := by
       rw [hlK] at hb
       exact List.length_eq_zero_iff.1 (by simpa using hb)
     rw [e1 ek]
     exact DropQ.go [(3,.own 0 4 0 l.length),(9,slV b 4 (Za l)),(10,.int .i64 (l.length:Int)),(11,.int .i64 ((i+1:Nat):Int))] ⟨rfl,rfl,rfl,Ze (Zd (n:=i+1) (by omega)),trivial⟩
      (by simp [Zh,under]) rfl (by show (YJ 1 _&&true)=true;rw [eB];rfl) (LoopI.go m (by omega) ⟨i+1,_,by omega,rfl,rfl⟩)
   · have ek : kz' ≠ [] := fun e => by
       rw [hlK,e] at hb
       simp at hb
     rw [e2 ek]
     exact DropQ.go [(3,.own 0 4 0 l.length),(9,slV b 4 (Za l)),(10,.int .i64 (l.length:Int)),(11,.int .i64 ((i+1:Nat):Int))] ⟨rfl,rfl,rfl,Ze (Zd (n:=i+1) (by omega)),trivial⟩
      (by simp [Zh,under]) rfl (by show (YJ 1 _&&true)=true;rw [eB];rfl) (LoopI.go m (by omega) ⟨i+1,_,by omega,rfl,rfl⟩)
   · exfalso
     simp at hb
     omega
 · have e : i = l.length := by omega
   subst e
   have em:m=0:=by omega
   subst em
   repeat' first|refine Jz ?_ ?_|refine Jo ?_|intro hb
   · exfalso;simp at hb
   · refine ZlY _ _ _ (WD l).symm ?_
     rw [List.take_length]
     simp
     rfl
inductive Gth (rest:List Box):PV→List Tm→Prop
 |nil:Gth rest .nils []
 |own (o:Nat) (L:List Tm) (hb:rest[o]? = some (.cells 4 (Za L))) (hL:L≠ []):Gth rest (.own (o+3) 4 0 L.length) L
structure Fra (rest:List Box) (v:PV) (rest':List Box) (v':PV):Prop where
 len:rest.length≤rest'.length
 bx:∀ i b,rest[i]? = some b→(∀ n,v≠ .own (i+3) 4 0 n)→rest'[i]? = some b∧∀ n,v'≠ .own (i+3) 4 0 n
theorem Fra.rfl (rest:List Box) (v:PV):Fra rest v rest v:=⟨Nat.le_refl _,fun _ _ h hv=>⟨h,hv⟩⟩
theorem Fra.trans {r v r' v' r2 v2} (h:Fra r v r' v') (h2:Fra r' v' r2 v2):Fra r v r2 v2:=
 ⟨Nat.le_trans h.len h2.len,fun i b hb hv=>let ⟨a,c⟩:=h.bx i b hb hv;h2.bx i b a c⟩
theorem Vy (A K S:Box) (rest:List Box) (b:Box):nth (A::K::S::(rest++ [b])) (rest.length+3)=some b:=by
 rw [Zo];simp
theorem ZdV (A K S:Box) (rest:List Box) (i:Nat):nth (A::K::S::rest) (i+3)=rest[i]? :=by
 rw [Zo];simp
theorem VH (l:List Tm):Z8 (Za l)=some (Za l):=by
 induction l with
 |nil=>rfl
 | cons a r ih =>
   obtain ⟨k,nm,s,b,kz⟩:=a
   show Z8 ([.int .i64 k,.str nm,.int .i64 s,slV b 4 (Za kz)]::Za r)=_
   simp only [Z8,Xq,ih]
   rfl
def Wh (kk:Int) (A:Box) (v:PV) (rest:List Box):Heap:=⟨A:: .cells 1 [[.int .i64 kk]]:: .cells 1 [[v]]::rest,0,[],0⟩
def Zp7 (kk:Int) (A:Box) (L:List Tm) (rest:List Box) (v:PV) (H:Heap):Prop:=∃ v' rest',H=Wh kk A v' rest'∧Gth rest' v' L∧Fra rest v rest' v'
abbrev Zc:List PV:=[.int .i64 0,.str [],.int .i64 0,.nils]
theorem ZoG (A K S X:Box) (rest:List Box):ZP E0 29 29 .nils (.sl .full 4 [Zc]) ⟨A::K::S::(rest++ [X]),0,[],0⟩=some (.own (rest.length+4) 4 0 1,⟨A::K::S::((rest++ [X])++ [Box.cells 4 ([]++ [Zc])]),0,[],0⟩):=by
 have he:=ZQ (s:= .nils) Yh (ElV.sl .full 4 [Zc]) rfl rfl rfl ⟨A::K::S::(rest++ [X]),0,[],0⟩
 simp only [ZP,he,Yu]
 rw [if_pos (ZD (by simp) (by decide))]
 simp [Heap.push]
theorem Zoa (A K S X : Box) {L : List Tm} (hb : rest[o]? = some (.cells 4 (Za L))) (hL : L ≠ []) (hlen : L.length ≤ 100000) :
  ZP E0 29 29 (.own (o+3) 4 0 L.length) (.sl .full 4 [Zc]) ⟨A::K::S::(rest++ [X]),0,[],0⟩=some (.own (rest.length+4) 4 0 (L.length+1),⟨A::K::S::((rest++ [X]).set o .dead++ [Box.cells 4 (Za L++ [Zc])]),0,[],0⟩):=by
 have ho:o<rest.length:=ZB hb
 have hn:nth (A::K::S::(rest++ [X])) (o+3)=some (.cells 4 (Za L)):=by
  rw [ZdV,List.getElem?_append_left ho];exact hb
 have hs:YN ⟨A::K::S::(rest++ [X]),0,[],0⟩ (.own (o+3) 4 0 L.length)=some (Za L):=by
  simp only [YN,hn]
  rw [if_pos ⟨trivial,by rw [Zb];omega⟩,List.drop_zero, ← Zb L,List.take_length]
  exact VH L
 have hpos:0<L.length:=List.length_pos_iff.2 hL
 have he:=ZQ (s:= .own (o+3) 4 0 L.length) Yh (ElV.sl .full 4 [Zc]) rfl rfl rfl ⟨A::K::S::(rest++ [X]),0,[],0⟩
 simp only [ZP,he,Yu,Wj,hs]
 rw [if_pos ⟨trivial,Nat.zero_le _,Zb L,ZD (by rw [Zb];simp;omega) (by decide)⟩]
 simp [Zb]
theorem Zst {x : Tm} (kk : Int) (A : Box) {v : PV} {L : List Tm} (hG : Gth rest v L) (hlen : L.length ≤ 100000) :
  ∃ H',CallOk E0 Tryz.prog 190 [.agg x.cells,.ptr 1 1 0 0,.ptr 2 1 0 0] (Wh kk A v rest) (.tup []) H'∧Zp7 kk A (L++if x.knd=kk then [x] else []) rest v H':=by
 obtain ⟨k,nm,s,b,kz⟩:=x
 unfold Wh
 refine ZbI (own:=fun d=>Nat.beq d 12||Nat.beq d 30006) tOk fe190.ok ?_
 refine Wp.seq ?_
 have hl5:Z4 E0 3 (.ptr (rest.length+3) 4 0 0) ⟨A:: .cells 1 [[.int .i64 kk]]:: .cells 1 [[v]]::(rest++ [Box.cells 4 [[.int .i64 k,.str nm,.int .i64 s,slV b 4 (Za kz)]]]),0,[],0⟩=some (.int .i64 k):=
  ZgS (ti:=⟨.int .i64,1,8,.int .i64 0⟩) rfl rfl (Vy _ _ _ _ _) rfl rfl
 have hl9:Z4 E0 48 (.ptr (rest.length+3) 4 0 0) ⟨A:: .cells 1 [[.int .i64 kk]]:: .cells 1 [[v]]::(rest++ [Box.cells 4 [[.int .i64 k,.str nm,.int .i64 s,slV b 4 (Za kz)]]]),0,[],0⟩=some (.agg [.int .i64 k,.str nm,.int .i64 s,slV b 4 (Za kz)]):=
  U8 rfl rfl (Vy _ _ _ _ _) rfl rfl
 cases hG with
 | nil =>
   repeat' first|(apply qLd;rfl;rfl;rfl;assumption;exact IsV.any _)|refine Jb ?_ ?_|refine Jo ?_|refine Jh ?_|(apply Wp.drawS tOk follows;kernel_rfl;rfl)|intro hb
   · apply dLd
     · rfl
     · rfl
     · rfl
     · exact hl9
     · exact IsV.any _
     · show Nat.blt _ _ = true
       simp [Nat.blt]
     repeat' first|refine JB ?_|refine Jh ?_|fail
     have hap:=ZoG A (.cells 1 [[.int .i64 kk]]) (.cells 1 [[.nils]]) (.cells 4 [[.int .i64 k,.str nm,.int .i64 s,slV b 4 (Za kz)]]) rest
     have hia:Zv E0 29 (.own (rest.length+4) 4 0 1) (.int .i64 0)=some (.ptr (rest.length+4) 4 0 0):=Zg5 (j:=0) rfl rfl rfl rfl (by omega)
     have hwr : Heap.wr ⟨A :: .cells 1 [[.int .i64 kk]] :: .cells 1 [[.nils]] :: ((rest ++ [Box.cells 4 [[.int .i64 k, .str nm, .int .i64 s, slV b 4 (Za kz)]]]) ++ [Box.cells 4 ([] ++ [Zc])]), 0, [], 0⟩ (.ptr (rest.length + 4) 4 0 0) [.int .i64 k, .str nm, .int .i64 s, slV b 4 (Za kz)] =
       some ⟨A:: .cells 1 [[.int .i64 kk]]:: .cells 1 [[.nils]]::((rest++ [Box.cells 4 [[.int .i64 k,.str nm,.int .i64 s,slV b 4 (Za kz)]]])++ [Box.cells 4 (Za [Tm.mk k nm s b kz])]),0,[],0⟩:=by
      rw [Zc9 (es:=4) (el:=[Zc]) (old:=Zc) (by rw [Zo];simp) rfl (by simp) (Nat.zero_le _)]
      simp [WP]
     apply Zsn
     · rfl
     · rfl
     · rfl
     · rfl
     · rfl
     · rfl
     · exact hap
     · simp
     apply dIa
     · rfl
     · rfl
     · rfl
     · rfl
     · exact hia
     · exact IsV.any _
     apply dSt
     · rfl
     · rfl
     · rfl
     · rfl
     · exact IsL.n
     · rfl
     · simp only [List.all_cons,List.all_nil,Yt,Bool.and_true];rfl
     · exact hwr
     · exact IsH.mkN
     · simp [Zo]
     · show true = Nat.ble _ _
       symm
       exact Nat.ble_eq_true_of_le (by simp)
     · rfl
     apply dSt
     · rfl
     · rfl
     · rfl
     · rfl
     · exact IsL.n
     · rfl
     · rfl
     · rfl
     · exact IsH.mkN
     · rfl
     · show false = Nat.ble _ _
       symm
       rw [Bool.eq_false_iff]
       intro h
       have:=Nat.le_of_ble_eq_true h
       simp at this
     · rfl
     apply DrwQ.nil
     have hkk:k=kk:=by simpa using hb
     refine RetP.go rfl rfl ⟨_,(rest++ [Box.cells 4 [[.int .i64 k,.str nm,.int .i64 s,slV b 4 (Za kz)]]])++ [Box.cells 4 (Za [Tm.mk k nm s b kz])],rfl,?_,?_⟩
     · rw [if_pos (show (Tm.mk k nm s b kz).knd = kk from hkk), List.nil_append]
       exact Gth.own (rest.length+1) [Tm.mk k nm s b kz] (by simp) (by simp)
     · refine ⟨by simp, fun i bx hbx _ => ?_⟩
       have hi:=ZB hbx
       refine ⟨by rw [List.append_assoc,List.getElem?_append_left hi];exact hbx,fun n hn=>?_⟩
       have:rest.length+4=i+3:=(PV.own.inj hn).1
       omega
   · have hkk : ¬ k = kk := by simpa using hb
     refine RetP.go rfl rfl ⟨_,rest++ [Box.cells 4 [[.int .i64 k,.str nm,.int .i64 s,slV b 4 (Za kz)]]],rfl,?_,?_⟩
     · rw [if_neg (show ¬ (Tm.mk k nm s b kz).knd = kk from hkk), List.append_nil]
       exact .nil
     · refine ⟨by simp,fun i bx hbx _=>⟨by rw [List.getElem?_append_left (ZB hbx)];exact hbx,fun n hn=>by cases hn⟩⟩
 | own o L hob hL =>
   have ho:o<rest.length:=ZB hob
   repeat' first|(apply qLd;rfl;rfl;rfl;assumption;exact IsV.any _)|refine Jb ?_ ?_|refine Jo ?_|refine Jh ?_|(apply Wp.drawS tOk follows;kernel_rfl;rfl)|intro hb
   · apply dLd
     · rfl
     · rfl
     · rfl
     · exact hl9
     · exact IsV.any _
     · show Nat.blt _ _ = true
       simp [Nat.blt]
     repeat' first|refine JB ?_|refine Jh ?_|fail
     have hap:=Zoa A (.cells 1 [[.int .i64 kk]]) (.cells 1 [[.own (o+3) 4 0 L.length]]) (.cells 4 [[.int .i64 k,.str nm,.int .i64 s,slV b 4 (Za kz)]]) hob hL hlen
     have hia:Zv E0 29 (.own (rest.length+4) 4 0 (L.length+1)) (.int .i64 (L.length:Int))=some (.ptr (rest.length+4) 4 (0+L.length) 0):=Zg5 rfl rfl rfl rfl (by omega)
     have hwr : Heap.wr ⟨A :: .cells 1 [[.int .i64 kk]] :: .cells 1 [[.own (o + 3) 4 0 L.length]] :: ((rest ++ [Box.cells 4 [[.int .i64 k, .str nm, .int .i64 s, slV b 4 (Za kz)]]]).set o .dead ++ [Box.cells 4 (Za L ++ [Zc])]), 0, [], 0⟩ (.ptr (rest.length + 4) 4 (0 + L.length) 0) [.int .i64 k, .str nm, .int .i64 s, slV b 4 (Za kz)] =
       some ⟨A:: .cells 1 [[.int .i64 kk]]:: .cells 1 [[.own (o+3) 4 0 L.length]]::((rest++ [Box.cells 4 [[.int .i64 k,.str nm,.int .i64 s,slV b 4 (Za kz)]]]).set o .dead++ [Box.cells 4 (Za (L++ [Tm.mk k nm s b kz]))]),0,[],0⟩:=by
      rw [Zc9 (es:=4) (el:=Za L++ [Zc]) (old:=Zc) (by rw [Zo];simp) (by rw [Zo,Nat.zero_add,List.getElem?_append_right (by rw [Zb];omega)];simp [Zb]) (by simp) (Nat.zero_le _)]
      have e2:(Za L++ [Zc]).set (0+L.length) (List.take 0 Zc++([.int .i64 k,.str nm,.int .i64 s,slV b 4 (Za kz)]++List.drop (0+ [PV.int .i64 k,.str nm,.int .i64 s,slV b 4 (Za kz)].length) Zc))=Za (L++ [Tm.mk k nm s b kz]):=by
       rw [Zt,WP,Nat.zero_add,List.set_append_right _ _ (by rw [Zb];omega)]
       simp [Zb]
      rw [e2]
      simp
     apply Zsn
     · rfl
     · rfl
     · rfl
     · rfl
     · rfl
     · rfl
     · exact hap
     · simp
     apply dIa
     · rfl
     · rfl
     · rfl
     · rfl
     · exact hia
     · exact IsV.any _
     apply dSt
     · rfl
     · rfl
     · rfl
     · rfl
     · exact IsL.n
     · rfl
     · simp only [List.all_cons,List.all_nil,Yt,Bool.and_true];rfl
     · exact hwr
     · exact IsH.mkN
     · simp [Zo]
     · show true = Nat.ble _ _
       symm
       exact Nat.ble_eq_true_of_le (by simp)
     · rfl
     apply dSt
     · rfl
     · rfl
     · rfl
     · rfl
     · exact IsL.n
     · rfl
     · rfl
     · rfl
     · exact IsH.mkN
     · rfl
     · show false = Nat.ble _ _
       symm
       rw [Bool.eq_false_iff]
       intro h
       have:=Nat.le_of_ble_eq_true h
       simp at this
     · rfl
     apply DrwQ.nil
     have hkk:k=kk:=by simpa using hb
     refine RetP.go rfl rfl ⟨_,(rest++ [Box.cells 4 [[.int .i64 k,.str nm,.int .i64 s,slV b 4 (Za kz)]]]).set o .dead++ [Box.cells 4 (Za (L++ [Tm.mk k nm s b kz]))],rfl,?_,?_⟩
     · rw [if_pos (show (Tm.mk k nm s b kz).knd = kk from hkk)]
       have:=Gth.own (rest:=(rest++ [Box.cells 4 [[.int .i64 k,.str nm,.int .i64 s,slV b 4 (Za kz)]]]).set o .dead++ [Box.cells 4 (Za (L++ [Tm.mk k nm s b kz]))]) (rest.length+1) (L++ [Tm.mk k nm s b kz]) (by simp) (by simp)
       rw [List.length_append] at this
       exact this
     · refine ⟨by simp; omega, fun i bx hbx hv => ?_⟩
       have hi:=ZB hbx
       have hio:i≠o:=fun e=>hv L.length (by rw [e])
       refine ⟨?_,fun n hn=>?_⟩
       · rw [List.getElem?_append_left (by simp; omega), List.getElem?_set_ne (Ne.symm hio), List.getElem?_append_left hi]
         exact hbx
       · have : rest.length + 4 = i + 3 := (PV.own.inj hn).1
         omega
   · have hkk : ¬ k = kk := by simpa using hb
     refine RetP.go rfl rfl ⟨_,rest++ [Box.cells 4 [[.int .i64 k,.str nm,.int .i64 s,slV b 4 (Za kz)]]],rfl,?_,?_⟩
     · rw [if_neg (show ¬ (Tm.mk k nm s b kz).knd = kk from hkk), List.append_nil]
       exact .own o L (by rw [List.getElem?_append_left ho];exact hob) hL
     · refine ⟨by simp,fun i bx hbx hv=>⟨by rw [List.getElem?_append_left (ZB hbx)];exact hbx,hv⟩⟩
