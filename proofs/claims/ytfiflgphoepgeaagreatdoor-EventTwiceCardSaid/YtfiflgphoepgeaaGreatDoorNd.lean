/-
  Small functions of powers and of the theory: which symbol stands above a term, w
-/
import Derived.Test.YtfiflgphoepgeaaGreatDoorRv
import Derived.Test.YtfiflgphoepgeaaGreatDoorNq
set_option maxHeartbeats 0
set_option maxRecDepth 100000
namespace Go.Vm.Seat
variable {b:Bool} {es i j nt:Nat} {L:List Tm} {out v:PV} {lv:List Nat} {t u:Tm} {rest:List Box} {H:Heap}
open Go.Proofs
theorem Zgf (t:Tm):Za [t]= [t.cells]:=by obtain ⟨k,nm,s,b,kz⟩:=t;rfl
theorem Qt {L:List (List PV)} (h:ApV b es L out lv nt) (k:Int) (nm:List UInt8) (s:Int):[PV.int .i64 k,.str nm,.int .i64 s,out].all Z0=true:=by cases h<;>rfl
theorem XO {L:List (List PV)} (h:ApV true es L out lv nt) (hL:L≠ []):∃ k,out= .sl (.tok k) es L:=by
 cases h with
 |nil=>exact absurd rfl hL
 |full _ _ _ h=>cases h
 |tok L k=>exact ⟨k,rfl⟩
theorem ZN (m:Nat) (H:Heap) (k:Int) (nm:List UInt8) (s:Int) (b:Bool) (l:List (List PV)):frz3 m H (.agg [.int .i64 k,.str nm,.int .i64 s,slV b 4 l])=some (.agg [.int .i64 k,.str nm,.int .i64 s,slV b 4 l]):=by
 rw [ZbW]
 simp only [Wf,Wl]
 rfl
theorem ZiZ {L:List (List PV)} (h:ApV b 4 L out lv nt) (m:Nat) (H:Heap) (k:Int) (nm:List UInt8) (s:Int):frz3 m H (.agg [.int .i64 k,.str nm,.int .i64 s,out])=some (.agg [.int .i64 k,.str nm,.int .i64 s,slV b 4 L]):=by
 rw [ZbW]
 simp only [Wf,h.frzC]
 rfl
theorem Ztu (ht:t.Ok):t.size≤100000→∀ H,CallOk E0 Tryz.prog 192 [.agg t.cells] H (.agg t.cl.cells) H:=by
 induction ht with
 | @mk k nm s b kz hk hs hn hl hok ih=>
 intro hsz
 simp only [Tm.size] at hsz
 have hkl:kz.length≤Zl kz:=by
  rw [← U5]
  have:∀ l:List Tm,l.length≤(VG l).length:=by
   intro l
   induction l with
   | nil=>simp
   | cons a r ih =>
     have:=a.all_len
     have:=Qb a
     simp only [VG,List.length_append,List.length_cons]
     omega
  exact this kz
 simp only [Tm.cl,Tm.cells]
 refine Jw tOk fe192.ok (ZN _ _ _ _ _ _ _) ?_
 repeat' first|refine Jl ?_|refine Jo ?_|fail
 refine Wp.while (fun m tm H => ∃ (i : Nat) (base : TM) (out : PV) (lv : List Nat) (nt : Nat), i + m = kz.length ∧ ApV true 4 (Za (clL (kz.take i))) out lv nt ∧
   tm=ovr base [(1,.ptr 0 4 0 0),(2,.ptr 1 4 0 0),(9,slV b 4 (Za kz)),(10,.int .i64 (kz.length:Int)),(11,.int .i64 (i:Int))]∧H=⟨[.cells 4 [[.int .i64 k,.str nm,.int .i64 s,out]],.cells 4 [[.int .i64 0,.str [],.int .i64 0,.nils]]],0,lv,nt⟩)
  (fun m tm H hI=>Wp.drop ?_) kz.length _ _ ⟨0,_,_,_,_,by omega,.nil _ _ rfl,Zf ⟨rfl,rfl,rfl,Zd (by rw [Zb]),rfl,trivial⟩,rfl⟩
 obtain ⟨i,base,out,lv,nt,hi,hA,rfl,rfl⟩:=hI
 by_cases hlt:i<kz.length
 · obtain ⟨t', ht'⟩ : ∃ t', kz[i]? = some t' := ⟨kz[i], by simp⟩
   have hm:t'∈kz:=List.mem_of_getElem? ht'
   have hle:=Xq hm
   have hs:=Ze1 ht'
   have hc:=ih t' hm (by omega)
   have hlen1:(clL (kz.take i)).length≤kz.length:=by
    rw [Vc,List.length_take];omega
   obtain ⟨out',lv',nt',hap,hA', -⟩:=hA.app YZ (.sl .full 4 (Za [t'.cl])) (Zs _) (ZS (by simp only [Zb,List.length_cons,List.length_nil];omega) (by decide)) (ZW _)
   rw [← Zz, ← hs] at hA'
   obtain ⟨kc,nc,sc,bc,lc,ec⟩:∃ kc nc sc bc lc,t'.cl= .mk kc nc sc bc lc:=by
    obtain ⟨k',nm',s',b',kz'⟩:=t'
    exact ⟨_,_,_,_,_,rfl⟩
   rw [ec] at hc hap
   rw [V6] at hap
   obtain ⟨kt,rfl⟩:=XO hA' (by rw [hs,Zz,Zgf];simp)
   obtain ⟨k',nm',s',b',kz'⟩:=t'
   have hj:=Zk ht'
   repeat' first|refine Jx ?_|refine Jz ?_ ?_|refine Jo ?_|refine Jd (hc _) ?_|refine JB ?_|(apply dAp;rfl;rfl;rfl;rfl;rfl;(first|assumption|solve_by_elim);rfl)|refine Jh ?_|(apply Wp.drawS tOk follows;kernel_rfl;rfl)|intro hb
   · exact DropQ.go [(1, .ptr 0 4 0 0), (2, .ptr 1 4 0 0), (9, slV b 4 (Za kz)), (10, .int .i64 (kz.length : Int)), (11, .int .i64 ((i + 1 : Nat) : Int))] ⟨rfl, rfl, rfl, rfl, Zd (Zc (n := i + 1) (by omega)), trivial⟩
       (by simp [Zg,under]) rfl (by simp [Yq,ZL,under]) (LoopI.go (m-1) (by omega) ⟨i+1,_,_,lv',nt',by omega,hA',rfl,rfl⟩)
   · exfalso;simp at hb;omega
 · have e : i = kz.length := by omega
   subst e
   rw [List.take_length] at hA
   have hco:=Qt hA k nm s
   repeat' first|refine Jz ?_ ?_|refine Jo ?_|intro hb
   · exfalso;simp at hb
   · exact ZiZ hA _ _ _ _ _
theorem ZE (m:Nat) (H:Heap) (t:Tm) (e:Int):frz3 m H (.tup [.agg t.cells,.int .i64 e])=some (.tup [.agg t.cells,.int .i64 e]):=by
 obtain ⟨k,nm,s,b,kz⟩:=t
 simp only [Tm.cells]
 rw [Xx]
 simp only [Vq,frz2,Wf,Wl]
 rfl
theorem Zsl (ht:t.Ok) (hs:t.size≤100000):∀ H,CallOk E0 Tryz.prog 158 [.agg t.cells,.nils,.agg t.cells] H (.tup [.agg t.cl.cells,.int .i64 0]) H:=by
 have hc:=Ztu ht hs
 have hfr:=ZE 0 hNil t.cl 0
 generalize t.cl=u at hc hfr ⊢
 obtain ⟨k,nm,s,b,kz⟩:=t
 obtain ⟨k',nm',s',b',kz'⟩:=u
 simp only [Tm.cells] at hc hfr ⊢
 refine Jw tOk fe158.ok hfr ?_
 repeat' first|refine Jc (hc _) ?_|refine Jo ?_|fail
 refine Wp.while (fun m tm H=>∃ base:TM,tm=ovr base [(5,.ptr 1 4 0 0),(6,.ptr 2 4 0 0),(8,.ptr 3 4 0 0),(9,.ptr 3 4 0 0),(15,.int .i64 0),(16,.int .i64 0)]∧H=⟨[.cells 4 [[.int .i64 k,.str nm,.int .i64 s,slV b 4 (Za kz)]],.cells 4 [[.int .i64 k,.str nm,.int .i64 s,slV b 4 (Za kz)]],.cells 4 [[.int .i64 0,.str [],.int .i64 0,.nils]],.cells 4 [[.int .i64 k',.str nm',.int .i64 s',slV b' 4 (Za kz')]]],0,[],0⟩)
  (fun m tm H hI=>?_) 0 _ _ ⟨_,Zf ⟨rfl,rfl,rfl,rfl,rfl,rfl,trivial⟩,rfl⟩
 obtain ⟨base,rfl,rfl⟩:=hI
 repeat' first|refine Jc (hc _) ?_|(apply qF (ty:=0);rfl;rfl;rfl)|refine Jo ?_|fail
 all_goals exact ZE _ _ (.mk k' nm' s' b' kz') 0
def zcT:List PV:=[.int .i64 0,.str [],.int .i64 0,.nils]
theorem ZqT {D R : List (List PV)} {c : List PV} {bx : List Box} {o : Nat} {vs : List PV} (hi : D.length = i) (ho : o + vs.length ≤ c.length) :
  Heap.wr ⟨.cells 4 (D++c::R)::bx,0,[],0⟩ (.ptr 0 4 (0+i) o) vs=some ⟨.cells 4 (D++(c.take o++vs++c.drop (o+vs.length))::R)::bx,0,[],0⟩:=by
 have hn:nth (D++c::R) (0+i)=some c:=by
  rw [Zo,Nat.zero_add, ← hi]
  simp
 have hs:∀ y,(D++c::R).set (0+i) y=D++y::R:=fun y=>by
  rw [← hi,Nat.zero_add]
  simp
 have h0:nth (Box.cells 4 (D++c::R)::bx) 0=some (.cells 4 (D++c::R)):=rfl
 rw [Nat.zero_add] at hn hs ⊢
 simp only [Heap.wr,h0,if_true,hn,if_pos ho]
 simp only [Heap.put,Nat.not_lt_zero,if_false,hs,List.set_cons_zero,List.append_assoc]
theorem ZeF (n:Nat) (l:List Tm) (m:Nat):Yq n (.cells 4 (Za l++List.replicate m zcT))=true:=by
 simp only [Yq,List.all_append,Bool.and_eq_true]
 constructor
 · rw [Xn, List.all_map, List.all_eq_true]
   rintro ⟨k,nm,s,b,kz⟩ _
   simp [Tm.cells,ZL,under,Zg]
 · rw [List.all_eq_true]
   intro x hx
   rw [(List.mem_replicate.1 hx).2]
   rfl
theorem Qi:∀ l:List Tm,ZX (Za l)=some (Za l)
 | []=>rfl
 | .mk k nm s b kz :: r => by
   simp only [Za,Tm.cells,ZX,Xr,Qi r]
theorem Zkp (H:Heap) (l:List Tm) (k:Nat) (hk:k=l.length) (hH:nth H.bx 0=some (.cells 4 (Za l))):frz3 0 H (.own 0 4 0 k)=some (slV false 4 (Za l)):=by
 have hl:(Za l).length=k:=by rw [Zb,hk]
 have h1:((Za l).drop 0).take k=Za l:=by rw [List.drop_zero, ← hl,List.take_length]
 rw [Z3]
 show frzC 0 H (.own 0 4 0 k)=_
 simp only [frzC,Nat.not_lt_zero,if_false,hH,true_and,Nat.zero_add,hl,Nat.le_refl,if_true,h1,Qi]
theorem ZsE (n:Nat):∀ {l:List Tm},SmL l→Zl l<n→Zl l≤100000→∀ b H,CallOk E0 Tryz.prog 118 [slV b 4 (Za l)] H (slV false 4 (Za (clL l))) H:=by
 induction n with
 |zero=>intro l _ h;omega
 |succ n ih=>
 intro l hl hn hsz b
 have hlen:=Yj l
 have eT:E0.T 32=some ⟨.slice 41,1,24,.nils⟩:=by kernel_rfl
 have eE:E0.T 41=some ⟨.struct [(0,3),(1,9),(2,3),(3,32)],4,56,.agg zcT⟩:=by kernel_rfl
 have hmk:Xh E0 32 (.int .i64 (Int.ofNat (Za l).length)) (.int .i64 (Int.ofNat (Za l).length)) hNil=some (.own 0 4 0 l.length,⟨[.cells 4 (List.replicate l.length zcT)],0,[],0⟩):=by
  have en:nat? (.int .i64 (Int.ofNat (Za l).length))=some l.length:=by rw [Zb];rfl
  simp only [Xh,eT,eE,en]
  rw [if_pos ⟨rfl,by decide,by omega,by omega⟩]
  simp [Heap.push,hNil,PV.cells]
 have hia:∀ i:Nat,i<l.length→Zv E0 32 (.own 0 4 0 l.length) (.int .i64 (i:Int))=some (.ptr 0 4 (0+i) 0):=fun i hi=>by
  have en:nat? (.int .i64 (i:Int))=some i:=rfl
  simp only [Zv,eT,en,eE,if_true]
  rw [if_pos hi]
 refine X3 (own:=fun d=>Nat.beq d 8) tOk fe118.ok (by simp only [ZM,YP]) (Zw _ _ _ _ _) ?_
 refine Wp.seq ?_
 repeat' first|(apply qMk;rfl;rfl;rfl;rfl;rfl;assumption)|refine Jl ?_|refine Jo ?_|fail
 have hl0:Za (clL (l.take 0))++List.replicate l.length zcT=List.replicate l.length zcT:=by simp [clL,Za]
 refine Wp.while (fun m tm H => ∃ (i : Nat) (base : TM), i + m = l.length ∧
   tm=ovr base [(3,.own 0 4 0 l.length),(9,slV b 4 (Za l)),(10,.int .i64 (l.length:Int)),(11,.int .i64 (i:Int))]∧H=⟨[.cells 4 (Za (clL (l.take i))++List.replicate m zcT)],0,[],0⟩)
  (fun m tm H hI=>Wp.drop ?_) l.length _ _ ⟨0,_,by omega,Zf ⟨rfl,rfl,Zd (by rw [Zb]),rfl,trivial⟩,by rw [hl0]⟩
 obtain ⟨i,base,hi,rfl,rfl⟩:=hI
 clear hmk hl0
 by_cases hlt:i<l.length
 · obtain ⟨t, ht⟩ : ∃ t, l[i]? = some t := ⟨l[i], by simp⟩
   obtain ⟨m,rfl⟩:∃ m',m=m'+1:=⟨m-1,by omega⟩
   have hm:t∈l:=List.mem_of_getElem? ht
   have hle:=ZR hm
   have hsn:=Ze1 ht
   have hrep:=Zsl (hl t hm).1 (hl t hm).2
   have hDl:(Za (clL (l.take i))).length=i:=by rw [Zb,Vc,List.length_take];omega
   have hia1:=hia i hlt
   obtain ⟨k',nm',s',b',kz'⟩:=t
   have hj:=Zk ht
   rw [Tm.size] at hle
   have hown:=ih (l:=kz') (fun x hx=>⟨(hl _ hm).1.kid hx,by have:=ZR hx;omega⟩) (by omega) (by omega) b'
   have hfin:Za (clL (l.take (i+1)))=Za (clL (l.take i))++ [[.int .i64 k',.str nm',.int .i64 s',slV true 4 (Za (clL kz'))]]:=by
    rw [hsn,Zz]
    rfl
   generalize Za (clL (l.take i))=D at hDl hfin ⊢
   rw [List.replicate_succ]
   obtain ⟨R,hR⟩:∃ R,R=List.replicate m zcT:=⟨_,rfl⟩
   rw [← hR]
   have w1:Heap.wr ⟨[.cells 4 (D++zcT::R),.cells 4 [[.int .i64 k',.str nm',.int .i64 s',slV b' 4 (Za kz')]]],0,[],0⟩ (.ptr 0 4 (0+i) 0) [.int .i64 k',.str nm',.int .i64 s',slV true 4 (Za (clL kz'))]=some ⟨[.cells 4 (D++ [.int .i64 k',.str nm',.int .i64 s',slV true 4 (Za (clL kz'))]::R),.cells 4 [[.int .i64 k',.str nm',.int .i64 s',slV b' 4 (Za kz')]]],0,[],0⟩:=ZqT (c:=zcT) (o:=0) (vs:=[.int .i64 k',.str nm',.int .i64 s',slV true 4 (Za (clL kz'))]) hDl (Nat.le_refl 4)
   simp only [Z3] at hown
   have w2:Heap.wr ⟨[.cells 4 (D++ [.int .i64 k',.str nm',.int .i64 s',slV true 4 (Za (clL kz'))]::R),.cells 4 [[.int .i64 k',.str nm',.int .i64 s',slV b' 4 (Za kz')]]],0,[],0⟩ (.ptr 0 4 (0+i) 3) [.sl .none 4 (Za (clL kz'))]=some ⟨[.cells 4 (D++ [.int .i64 k',.str nm',.int .i64 s',.sl .none 4 (Za (clL kz'))]::R),.cells 4 [[.int .i64 k',.str nm',.int .i64 s',slV b' 4 (Za kz')]]],0,[],0⟩:=ZqT (c:=[.int .i64 k',.str nm',.int .i64 s',slV true 4 (Za (clL kz'))]) (o:=3) (vs:=[.sl .none 4 (Za (clL kz'))]) hDl (Nat.le_refl 4)
   have w3:Heap.wr ⟨[.cells 4 (D++ [.int .i64 k',.str nm',.int .i64 s',.sl .none 4 (Za (clL kz'))]::R),.cells 4 [[.int .i64 k',.str nm',.int .i64 s',slV b' 4 (Za kz')]]],0,[],0⟩ (.ptr 0 4 (0+i) 3) [.nils]=some ⟨[.cells 4 (D++ [.int .i64 k',.str nm',.int .i64 s',.nils]::R),.cells 4 [[.int .i64 k',.str nm',.int .i64 s',slV b' 4 (Za kz')]]],0,[],0⟩:=ZqT (c:=[.int .i64 k',.str nm',.int .i64 s',.sl .none 4 (Za (clL kz'))]) (o:=3) (vs:=[.nils]) hDl (Nat.le_refl 4)
   have hlK:=Zb kz'
   simp only [Tm.cells,Tm.cl] at hrep
   have e1:kz'= []→D++ [.int .i64 k',.str nm',.int .i64 s',.nils]::R=Za (clL (l.take (i+1)))++List.replicate m zcT:=fun e=>by
    rw [hfin, ← hR,e]
    simp only [clL,Za,Zh,List.append_assoc,List.singleton_append]
   have e2:kz'≠ []→D++ [.int .i64 k',.str nm',.int .i64 s',.sl .none 4 (Za (clL kz'))]::R=Za (clL (l.take (i+1)))++List.replicate m zcT:=fun e=>by
    rw [hfin, ← hR]
    cases kz' with
    | nil=>exact absurd rfl e
    | cons x r=>simp only [clL,Za,Zm,List.append_assoc,List.singleton_append]
   have eB:=ZeF 1 (clL (l.take (i+1))) m
   repeat' first|refine Jc (hrep _) ?_|refine Jc (hown _) ?_|refine JJ ?_|refine Jl ?_|refine Jx ?_|refine Jb ?_ ?_|refine Jz ?_ ?_|refine Jo ?_|intro hb
   · have ek : kz' = [] := by
       rw [hlK] at hb
       exact List.length_eq_zero_iff.1 (by simpa using hb)
     rw [e1 ek]
     exact DropQ.go [(3,.own 0 4 0 l.length),(9,slV b 4 (Za l)),(10,.int .i64 (l.length:Int)),(11,.int .i64 ((i+1:Nat):Int))] ⟨rfl,rfl,rfl,Zd (Zc (n:=i+1) (by omega)),trivial⟩
      (by simp [Zg,under]) rfl (by show (Yq 1 _&&true)=true;rw [eB];rfl) (LoopI.go m (by omega) ⟨i+1,_,by omega,rfl,rfl⟩)
   · have ek : kz' ≠ [] := fun e => by
       rw [hlK,e] at hb
       simp at hb
     rw [e2 ek]
     exact DropQ.go [(3,.own 0 4 0 l.length),(9,slV b 4 (Za l)),(10,.int .i64 (l.length:Int)),(11,.int .i64 ((i+1:Nat):Int))] ⟨rfl,rfl,rfl,Zd (Zc (n:=i+1) (by omega)),trivial⟩
      (by simp [Zg,under]) rfl (by show (Yq 1 _&&true)=true;rw [eB];rfl) (LoopI.go m (by omega) ⟨i+1,_,by omega,rfl,rfl⟩)
   · exfalso
     simp at hb
     omega
 · have e : i = l.length := by omega
   subst e
   have em:m=0:=by omega
   subst em
   repeat' first|refine Jz ?_ ?_|refine Jo ?_|intro hb
   · exfalso;simp at hb
   · refine Zkp _ _ _ (Vc l).symm ?_
     rw [List.take_length]
     simp
     rfl
inductive Gth (rest:List Box):PV→List Tm→Prop
 |nil:Gth rest .nils []
 |own (o:Nat) (L:List Tm) (hb:rest[o]? = some (.cells 4 (Za L))) (hL:L≠ []):Gth rest (.own (o+3) 4 0 L.length) L
structure Fra (rest:List Box) (v:PV) (rest':List Box) (v':PV):Prop where
 len:rest.length≤rest'.length
 bx:∀ i b,rest[i]? = some b→(∀ n,v≠ .own (i+3) 4 0 n)→rest'[i]? = some b∧∀ n,v'≠ .own (i+3) 4 0 n
theorem Fra.rfl (rest:List Box) (v:PV):Fra rest v rest v:=⟨Nat.le_refl _,fun _ _ h hv=>⟨h,hv⟩⟩
theorem Fra.trans {r v r' v' r2 v2} (h:Fra r v r' v') (h2:Fra r' v' r2 v2):Fra r v r2 v2:=
 ⟨Nat.le_trans h.len h2.len,fun i b hb hv=>let ⟨a,c⟩:=h.bx i b hb hv;h2.bx i b a c⟩
theorem Gth.lt (h:Gth rest v L) (hi:rest.length≤i):∀ n,v≠ .own (i+3) 4 0 n:=by
 cases h with
 |nil=>intro n hn;cases hn
 | own o L hb hL =>
   intro n hn
   have h1:=Zx hb
   have:o+3=i+3:=(PV.own.inj hn).1
   omega
theorem Gth.app (h:Gth rest v L) (l:List Box):Gth (rest++l) v L:=by
 cases h with
 |nil=>exact .nil
 |own o L hb hL=>exact .own o L (by rw [List.getElem?_append_left (Zx hb)];exact hb) hL
theorem Fra.app (rest:List Box) (v:PV) (l:List Box):Fra rest v (rest++l) v:=
 ⟨by simp,fun i b hb hv=>⟨by rw [List.getElem?_append_left (Zx hb)];exact hb,hv⟩⟩
theorem ZnY {id ix len:Nat} (hj:j<len):Zv E0 32 (.own id 4 ix len) (.int .i64 (j:Int))=some (.ptr id 4 (ix+j) 0):=ZiC rfl rfl rfl rfl hj
theorem ZqG {id:Nat} (hb:nth H.bx id=some (.cells 4 (Za L))) (hj:L[j]? = some t):YK E0 41 (.ptr id 4 j 0) H=some (.agg t.cells):=by
 obtain ⟨k,nm,s,b,kz⟩:=t
 exact Zaz rfl rfl hb ((Zo _ _).trans (Zk hj)) rfl
theorem Zf5 (L:List Tm) (j:Nat) (t:Tm):(Za L).set j t.cells=Za (L.set j t):=by
 simp only [Xn,List.map_set]
theorem Zoy {id:Nat} (hb:nth H.bx id=some (.cells 4 (Za L))) (hj:L[j]? = some u) (hro:H.ro≤id):H.wr (.ptr id 4 j 0) t.cells=some {H with bx:=H.bx.set id (.cells 4 (Za (L.set j t)))}:=by
 obtain ⟨k,nm,s,b,kz⟩:=t
 obtain ⟨k',nm',s',b',kz'⟩:=u
 rw [Zb5 hb ((Zo _ _).trans (Zk hj)) (by simp [Tm.cells]) hro]
 rw [← Zf5]
 simp [Tm.cells]
theorem Zj4 (t:Tm) (w:Bs):∀ H,CallOk E0 Tryz.prog 113 [.agg t.cells,.str w] H (.bool (isA t w)) H:=by
 obtain ⟨k,nm,s,b,kz⟩:=t
 simp only [Tm.cells]
 refine Jw tOk fe113.ok rfl ?_ (by simp [ZM,frzG,Xr,frz1])
 repeat' first|refine Jk ?_|refine Jt ?_|refine Jb ?_ ?_|refine Jo ?_|intro hb
 all_goals simp_all [isA]
theorem Zrt (t:Tm):∀ H,CallOk E0 Tryz.prog 159 [.agg t.cells] H (.bool t.sym) H:=by
 obtain ⟨k,nm,s,b,kz⟩:=t
 simp only [Tm.cells,Tm.sym]
 refine Jw tOk fe159.ok rfl ?_
 repeat' first|refine Jk ?_|refine Jt ?_|refine Jb ?_ ?_|refine Jo ?_|intro hb
 all_goals simp_all [Zab,Vi,WJ,VF]
theorem Zqo (t:Tm):∀ H,CallOk E0 Tryz.prog 227 [.agg t.cells] H (.bool t.sym) H:=by
 obtain ⟨k,nm,s,b,kz⟩:=t
 simp only [Tm.cells,Tm.sym]
 refine Jw tOk fe227.ok rfl ?_
 repeat' first|refine Jk ?_|refine Jt ?_|refine Jb ?_ ?_|refine Jo ?_|intro hb
 all_goals simp_all [Zab,Vi,WJ,VF]
theorem Zpy (ht:t.Ok∧t.size≤100000) (hu:u.Ok∧u.size≤100000):∀ H,CallOk E0 Tryz.prog 114 [.agg t.cells,.agg u.cells] H (.bool (decide (t.cmp u=0))) H:=by
 have hc:=Zpa ht hu
 generalize t.cmp u=c at hc ⊢
 obtain ⟨k,nm,s,b,kz⟩:=t
 obtain ⟨k',nm',s',b',kz'⟩:=u
 simp only [Tm.cells] at hc ⊢
 refine Jw tOk fe114.ok rfl ?_
 repeat' first|refine Jc (hc _) ?_|refine Jt ?_|refine Jb ?_ ?_|refine Jo ?_|intro hb
 all_goals simp_all
theorem QU (b:Bool) (el:List (List PV)):slV b 4 el= .nils∨∃ el',slV b 4 el= .sl .none 4 el':=by
 cases el with
 | nil => cases b with
   | true=>exact .inl (Zh 4)
   | false=>exact .inr ⟨[],Zq 4⟩
 |cons x r=>exact .inr ⟨x::r,Zm _ _ _ _⟩
theorem ZsC (nm:Bs) (l:List Tm) (b:Bool):∀ H,CallOk E0 Tryz.prog 125 [.str nm,slV b 4 (Za l)] H (.agg (Tm.mk 3 nm 0 b l).cells) H:=by
 simp only [Tm.cells]
 rcases QU b (Za l) with e|⟨el,e⟩
 all_goals
  rw [e]
  refine Jw tOk fe125.ok rfl ?_
  repeat' first|refine Jo ?_|fail
  rfl
theorem ZpH (nm:Bs) (l:List Tm) (b:Bool):∀ H,CallOk E0 Tryz.prog 122 [.str nm,slV b 4 (Za l)] H (.agg (Tm.mk 3 nm 0 b l).cells) H:=by
 simp only [Tm.cells]
 rcases QU b (Za l) with e|⟨el,e⟩
 all_goals
  rw [e]
  refine Jw tOk fe122.ok rfl ?_
  repeat' first|refine Jo ?_|fail
  rfl
def pwC (x:Pw):List PV:=x.1.cells++ [.int .i64 x.2]
theorem Zsq {x:Pw} (ht:x.1.Ok∧x.1.size≤100000) (hu:u.Ok∧u.size≤100000):∀ H,CallOk E0 Tryz.prog 194 [.agg (pwC x),.agg u.cells] H (.int .i64 (x.1.cmp u)) H:=by
 have hc:=Zpa ht hu
 obtain ⟨t,n⟩:=x
 simp only at hc ⊢
 generalize t.cmp u=c at hc ⊢
 obtain ⟨k,nm,s,b,kz⟩:=t
 obtain ⟨k',nm',s',b',kz'⟩:=u
 simp only [Tm.cells,pwC,List.cons_append,List.nil_append] at hc ⊢
 refine Jw tOk fe194.ok rfl ?_
 repeat' first|refine Jc (hc _) ?_|refine Jo ?_|fail
 all_goals rfl
