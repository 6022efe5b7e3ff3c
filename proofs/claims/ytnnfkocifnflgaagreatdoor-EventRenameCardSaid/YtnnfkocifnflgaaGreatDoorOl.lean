/-
  Powers that stand in order: the place of a term among them.
-/
import Derived.Test.YtnnfkocifnflgaaGreatDoorOk
import Derived.Test.YtnnfkocifnflgaaGreatDoorOg
set_option maxHeartbeats 0
set_option maxRecDepth 100000
namespace Go.Vm
theorem Zfk:∀ {l:List Pw} {j k:Nat} {a b:Pw},W3 l→j<k→l[j]? = some a→l[k]? = some b→a.1.cmp b.1<0
 | [],j,k,a,b,_,_,h,_=>by simp at h
 | x :: r, 0, k + 1, a, b, hA, _, h1, h2 => by
   have e:x=a:=by simpa using h1
   subst e
   exact hA.1.2 b (List.mem_of_getElem? (by simpa using h2))
 |x::r,j+1,k+1,a,b,hA,hjk,h1,h2=>Zfk (l:=r) (j:=j) (k:=k) hA.2 (by omega) (by simpa using h1) (by simpa using h2)
structure PlaceE (l:List Pw) (t:Tm) (i:Nat):Prop where
 le:i≤l.length
 lo:∀ (k:Nat) (x:Pw),k<i→l[k]? = some x→x.1.cmp t<0
 hi:∀ (k:Nat) (x:Pw),i≤k→l[k]? = some x→¬ x.1.cmp t<0
theorem QZ {t:Tm} {n:Int}:∀ {l:List Pw} {i:Nat} {x:Pw},PlaceE l t i→l[i]? = some x→x.1.cmp t=0→Wh l t n=if x.2+n=0 then l.take i++l.drop (i+1) else l.set i (x.1,x.2+n)
 | [],i,x,_,h,_=>by simp at h
 | y :: r, 0, x, hP, h, h0 => by
   have e:y=x:=by simpa using h
   subst e
   have h1:¬ t.cmp y.1<0:=by rw [Xl y.1 t];omega
   simp only [Wh]
   rw [if_neg (by omega),if_neg h1]
   simp
 | y :: r, i + 1, x, hP, h, h0 => by
   have h1:=hP.lo 0 y (by omega) rfl
   have ih:=QZ (n:=n) (l:=r) (i:=i) (x:=x) ⟨by have:=hP.le;simp at this;omega,fun k z hk hz=>hP.lo (k+1) z (by omega) (by simpa using hz),fun k z hk hz=>hP.hi (k+1) z (by omega) (by simpa using hz)⟩ (by simpa using h) h0
   simp only [Wh]
   rw [if_pos h1,ih]
   split<;>simp
theorem Zd6 {t:Tm} {n:Int}:∀ {l:List Pw} {i:Nat},PlaceE l t i→(∀ x,l[i]? = some x→x.1.cmp t≠0)→Wh l t n=l.take i++ [(t,n)]++l.drop i
 | [],i,hP,_=>by simp [Wh]
 | y :: r, 0, hP, h => by
   have h1:=hP.hi 0 y (by omega) rfl
   have h2:=h y rfl
   have h3:t.cmp y.1<0:=by rw [Xl y.1 t];omega
   simp only [Wh]
   rw [if_neg h1,if_pos h3]
   simp
 | y :: r, i + 1, hP, h => by
   have h1:=hP.lo 0 y (by omega) rfl
   have ih:=Zd6 (n:=n) (l:=r) (i:=i) ⟨by have:=hP.le;simp at this;omega,fun k z hk hz=>hP.lo (k+1) z (by omega) (by simpa using hz),fun k z hk hz=>hP.hi (k+1) z (by omega) (by simpa using hz)⟩ (fun x hx=>h x (by simpa using hx))
   simp only [Wh]
   rw [if_pos h1,ih]
   simp
end Go.Vm
namespace Go.Vm.Seat
variable {j:Nat} {L:List Box} {l:List Pw} {t:Tm} {v0:PV}
open Go.Proofs
theorem ZcH (x:Pw):(pwC x).length=5:=by
 obtain ⟨⟨k,nm,s,b,kz⟩,n⟩:=x
 rfl
theorem Zhn {id ix len:Nat} (hj:j<len):ZB E0 106 (.own id 5 ix len) (.int .i64 (j:Int))=some (.ptr id 5 (ix+j) 0):=ZfB rfl rfl rfl rfl hj
theorem Zi7 {id:Nat} {H:Heap} {L:List Pw} {x:Pw} (hb:nth H.bx id=some (.cells 5 (pwL L))) (hj:L[j]? = some x):YB E0 146 (.ptr id 5 j 0) H=some (.agg (pwC x)):=by
 obtain ⟨⟨k,nm,s,b,kz⟩,n⟩:=x
 exact Zaa rfl rfl hb ((Zn _ _).trans (YY hj)) rfl
theorem Y0:∀ l:List Pw,Yc (pwL l)=some (pwL l)
 | []=>rfl
 | ⟨⟨k, nm, s, b, kz⟩, n⟩ :: r => by
   have ih:=Y0 r
   show Yc (pwC (⟨k,nm,s,b,kz⟩,n)::pwL r)=_
   simp only [Yc,ih,pwC,Tm.cells,List.cons_append,List.nil_append,Uq,Yq]
   rfl
theorem ZoM (n:Nat) (l:List Pw):Yb n (.cells 5 (pwL l))=true:=by
 show (pwL l).all (ZA n)=true
 rw [pwL,List.all_map,List.all_eq_true]
 rintro ⟨⟨k,nm,s,b,kz⟩,m⟩ _
 simp only [Function.comp,pwC,Tm.cells,List.cons_append,List.nil_append,ZA,under,Zj]
 rfl
theorem ZkE (n:Nat) (t:Tm):under n (.agg t.cells)=true:=by
 obtain ⟨k,nm,s,b,kz⟩:=t
 simp only [Tm.cells,under,ZA,Zj]
 rfl
def ZlE (l:List Pw) (t:Tm) (B:List Box) (r:PV) (H:Heap):Prop:=∃ (i:Nat) (fd:Bool),r= .tup [.int .i64 (i:Int),.bool fd]∧PlaceE l t i∧(fd=true↔∃ x,l[i]? = some x∧x.1.cmp t=0)∧H=⟨B++ [.cells 4 [t.cells]],0,[],0⟩
theorem Zo0 (t:Tm):∃ r H',CallOk E0 Tryz.prog 183 [.nils,.agg t.cells,.fn 184 []] ⟨[],0,[],0⟩ r H'∧ZlE [] t [] r H':=by
 have key:∃ r H',CallOk E0 Tryz.prog 183 [.nils,.agg t.cells,.fn 184 []] ⟨[],0,[],0⟩ r H'∧(r= .tup [.int .i64 0,.bool false]∧H'=⟨[]++ [.cells 4 [t.cells]],0,[],0⟩):=by
  obtain ⟨k,nm,s,b,kz⟩:=t
  simp only [Tm.cells]
  refine ZW (own:=fun _=>false) tOk fe183.ok ?_
  refine Wp.seq ?_
  repeat' first|refine Jk ?_|refine Ji ?_|(apply qCv;rfl;rfl;rfl;assumption;exact IsV.any _)|refine JJ ?_|refine Jl ?_|refine Jx ?_|refine Jt ?_|refine Jb ?_ ?_|refine Jo ?_|(apply dK;rfl;rfl;rfl)|refine JD ?_|(apply dCv;rfl;rfl;rfl;assumption;exact IsV.any _;rfl)|refine JK ?_|(apply dLn;rfl;rfl;rfl;rfl;rfl)|refine JI ?_|(apply dT (ty:=4);rfl;rfl;rfl;rfl)|(apply dF (ty:=4);rfl;rfl;rfl;rfl)|(apply dB (ty:=4);rfl;rfl;rfl;rfl)|refine Jh ?_|(apply Wp.draw tOk follows;kernel_rfl)|intro hb
  refine Wp.loop ?_
  repeat' first|refine Jk ?_|refine Ji ?_|(apply qCv;rfl;rfl;rfl;assumption;exact IsV.any _)|refine JJ ?_|refine Jl ?_|refine Jx ?_|refine Jt ?_|refine Jb ?_ ?_|refine Jo ?_|(apply dK;rfl;rfl;rfl)|refine JD ?_|(apply dCv;rfl;rfl;rfl;assumption;exact IsV.any _;rfl)|refine JK ?_|(apply dLn;rfl;rfl;rfl;rfl;rfl)|refine JI ?_|(apply dT (ty:=4);rfl;rfl;rfl;rfl)|(apply dF (ty:=4);rfl;rfl;rfl;rfl)|(apply dB (ty:=4);rfl;rfl;rfl;rfl)|refine Jh ?_|(apply Wp.draw tOk follows;kernel_rfl)|intro hb
  refine LoopQ.exit ?_
  repeat' first|refine Jk ?_|refine Ji ?_|(apply qCv;rfl;rfl;rfl;assumption;exact IsV.any _)|refine JJ ?_|refine Jl ?_|refine Jx ?_|refine Jt ?_|refine Jb ?_ ?_|refine Jo ?_|(apply dK;rfl;rfl;rfl)|refine JD ?_|(apply dCv;rfl;rfl;rfl;assumption;exact IsV.any _;rfl)|refine JK ?_|(apply dLn;rfl;rfl;rfl;rfl;rfl)|refine JI ?_|(apply dT (ty:=4);rfl;rfl;rfl;rfl)|(apply dF (ty:=4);rfl;rfl;rfl;rfl)|(apply dB (ty:=4);rfl;rfl;rfl;rfl)|refine Jh ?_|(apply Wp.draw tOk follows;kernel_rfl)|intro hb
  all_goals exact RetR.ret rfl ⟨rfl,rfl⟩
 obtain ⟨r,H',h1,rfl,rfl⟩:=key
 exact ⟨_,_,h1,0,false,rfl,⟨Nat.le_refl _,fun k x h=>absurd h (by omega),fun k x _ h=>by simp at h⟩,by simp,rfl⟩
theorem Zn1 (hA:W3 l) (hl:∀ x,x∈l→x.1.Ok∧x.1.size≤100000) (ht:t.Ok∧t.size≤100000) (hlen:l.length≤1000):∃ r H',CallOk E0 Tryz.prog 183 [.own 0 5 0 l.length,.agg t.cells,.fn 184 []] ⟨[.cells 5 (pwL l)],0,[],0⟩ r H'∧ZlE l t [.cells 5 (pwL l)] r H':=by
 have hins:∀ x,x∈l→∀ H,CallOk E0 Tryz.prog 184 [.agg (pwC x),.agg t.cells] H (.int .i64 (x.1.cmp t)) H:=fun x hx=>Zoy (hl x hx) ht
 have hltT:∀ (k p:Nat) (u x:Pw),l[k]? = some u→l[p]? = some x→k<p→x.1.cmp t≤0→u.1.cmp t<0:=fun k p u x h1 h2 h3 h4=>Xy (Zfk hA h3 h1 h2) h4
 unfold ZlE
 obtain ⟨T,hT⟩:∃ T,T=t:=⟨_,rfl⟩
 have hTc:T.cells=t.cells:=by rw [hT]
 rw [← hT] at hltT ⊢
 rw [← hT] at hins
 rw [hTc] at hins ⊢
 clear ht hT hTc
 obtain ⟨k0,nm0,s0,b0,kz0⟩:=t
 simp only [Tm.cells] at hins ⊢
 refine ZW (own:=fun _=>false) tOk fe183.ok ?_
 refine Wp.seq ?_
 repeat' first|refine Jk ?_|refine Ji ?_|(apply qCv;rfl;rfl;rfl;assumption;exact IsV.any _)|refine JJ ?_|refine Jl ?_|refine Jx ?_|refine Jt ?_|refine Jb ?_ ?_|refine Jo ?_|(apply dK;rfl;rfl;rfl)|refine JD ?_|(apply dCv;rfl;rfl;rfl;assumption;exact IsV.any _;rfl)|refine JK ?_|(apply dLn;rfl;rfl;rfl;rfl;rfl)|refine JI ?_|(apply dT (ty:=4);rfl;rfl;rfl;rfl)|(apply dF (ty:=4);rfl;rfl;rfl;rfl)|(apply dB (ty:=4);rfl;rfl;rfl;rfl)|refine Jh ?_|(apply Wp.draw tOk follows;kernel_rfl)|intro hb
 refine Wp.while (fun m tm H => ∃ (i : Nat) (base : TM), i + m ≤ l.length ∧ (∀ (k : Nat) (e : Pw), k < i → l[k]? = some e → e.1.cmp T < 0) ∧ (∀ (k : Nat) (e : Pw), i + m ≤ k → l[k]? = some e → ¬ e.1.cmp T < 0) ∧
   tm=ovr base [(0,.own 0 5 0 l.length),(2,.fn 184 []),(4,.ptr 1 4 0 0),(8,.int .i64 (l.length:Int)),(9,.int .i64 (i:Int)),(10,.int .i64 ((i+m:Nat):Int))]∧H=⟨[.cells 5 (pwL l),.cells 4 [[.int .i64 k0,.str nm0,.int .i64 s0,slV b0 4 (Za kz0)]]],0,[],0⟩)
  (fun m tm H hI=>?_) l.length _ _ ⟨0,_,by omega,fun k e h=>absurd h (by omega),fun k e h h'=>absurd (Zu h') (by omega),Zf ⟨rfl,rfl,rfl,rfl,rfl,Ze (by rw [Nat.zero_add];rfl),trivial⟩,rfl⟩
 obtain ⟨i,base,hi,hlo,hhi,rfl,rfl⟩:=hI
 by_cases hm:0<m
 · have hlx := Zt (i : Int) ((i + m : Nat) : Int)
   rw [decide_eq_true (by omega)] at hlx
   obtain ⟨p,hp⟩:∃ p,p=(i+(i+m)) / 2:=⟨_,rfl⟩
   have hpl:p<l.length:=by omega
   obtain ⟨e,he⟩:∃ e,l[p]? = some e:=⟨l[p],by simp⟩
   have b1:Xs E0 .add 3 (.int .i64 (i:Int)) (.int .i64 ((i+m:Nat):Int))=some (.int .i64 ((i+(i+m):Nat):Int)):=by
    show some (PV.int .i64 (IntKind.i64.wrap ((i:Int)+((i+m:Nat):Int))))=_
    rw [IntWalk.i64_in _ (by omega)]
    congr 2
   have k1:ZbZ E0 3 98 (.int .i64 ((i+(i+m):Nat):Int))=some (.int .u64 ((i+(i+m):Nat):Int)):=by
    show some (PV.int .u64 (IntKind.u64.wrap ((i+(i+m):Nat):Int)))=_
    rw [IntWalk.u64_in _ (by omega)]
   have b2:∀ c,(c:PV)= .int .i64 1∨c= .int .u64 1→Xs E0 .shr 98 (.int .u64 ((i+(i+m):Nat):Int)) c=some (.int .u64 (p:Int)):=fun c hc=>by
    rcases hc with rfl|rfl
    all_goals
     show some (PV.int .u64 (Int.fdiv ((i+(i+m):Nat):Int) (2 ^ (min (Int.toNat 1) 64))))=_
     congr 2
     rw [hp]
     show Int.fdiv _ 2=_
     rw [Int.fdiv_eq_ediv_of_nonneg _ (by decide)]
     omega
   have b3:=b2 (.int .i64 1) (.inl rfl)
   have b4:=b2 (.int .u64 1) (.inr rfl)
   have k2:ZbZ E0 98 3 (.int .u64 (p:Int))=some (.int .i64 (p:Int)):=by
    show some (PV.int .i64 (IntKind.i64.wrap (p:Int)))=_
    rw [IntWalk.i64_in _ (by omega)]
   have hia:=Zhn (id:=0) (ix:=0) hpl
   have hld:YB E0 146 (.ptr 0 5 (0+p) 0) ⟨[.cells 5 (pwL l),.cells 4 [[.int .i64 k0,.str nm0,.int .i64 s0,slV b0 4 (Za kz0)]]],0,[],0⟩=some (.agg (pwC e)):=by rw [Nat.zero_add];exact Zi7 rfl he
   have hc:=hins e (List.mem_of_getElem? he)
   have hcm:=Zt (e.1.cmp T) 0
   by_cases hlt:e.1.cmp T<0
   · rw [decide_eq_true hlt] at hcm
     have gA:∀ (k:Nat) (u:Pw),k<p+1→l[k]? = some u→u.1.cmp T<0:=fun k u hk hu=>by
      rcases Nat.lt_or_ge k p with h|h
      · exact hltT k p u e hu he h (by omega)
      · obtain rfl : k = p := by omega
        rw [he] at hu;cases hu;exact hlt
     generalize e.1.cmp T=C at hc hcm
     obtain ⟨⟨k',nm',s',b',kz'⟩,en⟩:=e
     simp only [pwC,Tm.cells,List.cons_append,List.nil_append] at hc hld
     repeat' first|refine Jk ?_|refine Jc (hc _) ?_|refine Ji ?_|(apply qCv;rfl;rfl;rfl;assumption;exact IsV.any _)|refine JJ ?_|(apply qLe;rfl;rfl;rfl;assumption;exact IsV.any _)|(apply qLd;rfl;rfl;rfl;assumption;exact IsV.any _)|refine Jl ?_|refine Jx ?_|refine Jt ?_|refine Jb ?_ ?_|refine Jo ?_|(apply dK;rfl;rfl;rfl)|refine Jd (hc _) ?_|refine JD ?_|(apply dCv;rfl;rfl;rfl;assumption;exact IsV.any _;rfl)|refine JK ?_|(apply dLe;rfl;rfl;rfl;assumption;exact IsV.any _;rfl)|(apply dLd;rfl;rfl;rfl;assumption;exact IsV.any _;(first|rfl|(show Nat.blt _ _=true;first|assumption|(simp [Nat.blt];done))))|(apply dLn;rfl;rfl;rfl;rfl;rfl)|refine JI ?_|(apply dT (ty:=4);rfl;rfl;rfl;rfl)|(apply dF (ty:=4);rfl;rfl;rfl;rfl)|(apply dB (ty:=4);rfl;rfl;rfl;rfl)|refine Jh ?_|(apply Wp.draw tOk follows;kernel_rfl)|intro hb
     exact LoopI.go (i+m-(p+1)) (by omega) ⟨p+1,_,by omega,gA,fun k u hk hu=>hhi k u (by omega) hu,Zf ⟨rfl,rfl,rfl,rfl,Ze (Zc (n:=p+1) (by omega)),Ze (by congr 1;omega),trivial⟩,rfl⟩
   · rw [decide_eq_false hlt] at hcm
     have gB:∀ (k:Nat) (u:Pw),p≤k→l[k]? = some u→¬ u.1.cmp T<0:=fun k u hk hu hn=>by
      rcases Nat.lt_or_ge p k with h|h
      · exact hlt (hltT p k e u he hu h (by omega))
      · obtain rfl : k = p := by omega
        rw [he] at hu;cases hu;exact hlt hn
     generalize e.1.cmp T=C at hc hcm
     obtain ⟨⟨k',nm',s',b',kz'⟩,en⟩:=e
     simp only [pwC,Tm.cells,List.cons_append,List.nil_append] at hc hld
     repeat' first|refine Jk ?_|refine Jc (hc _) ?_|refine Ji ?_|(apply qCv;rfl;rfl;rfl;assumption;exact IsV.any _)|refine JJ ?_|(apply qLe;rfl;rfl;rfl;assumption;exact IsV.any _)|(apply qLd;rfl;rfl;rfl;assumption;exact IsV.any _)|refine Jl ?_|refine Jx ?_|refine Jt ?_|refine Jb ?_ ?_|refine Jo ?_|(apply dK;rfl;rfl;rfl)|refine Jd (hc _) ?_|refine JD ?_|(apply dCv;rfl;rfl;rfl;assumption;exact IsV.any _;rfl)|refine JK ?_|(apply dLe;rfl;rfl;rfl;assumption;exact IsV.any _;rfl)|(apply dLd;rfl;rfl;rfl;assumption;exact IsV.any _;(first|rfl|(show Nat.blt _ _=true;first|assumption|(simp [Nat.blt];done))))|(apply dLn;rfl;rfl;rfl;rfl;rfl)|refine JI ?_|(apply dT (ty:=4);rfl;rfl;rfl;rfl)|(apply dF (ty:=4);rfl;rfl;rfl;rfl)|(apply dB (ty:=4);rfl;rfl;rfl;rfl)|refine Jh ?_|(apply Wp.draw tOk follows;kernel_rfl)|intro hb
     exact LoopI.go (p-i) (by omega) ⟨i,_,by omega,hlo,fun k u hk hu=>gB k u (by omega) hu,Zf ⟨rfl,rfl,rfl,rfl,rfl,Ze (by congr 1;omega),trivial⟩,rfl⟩
 · obtain rfl : m = 0 := by omega
   have hlx:=Zt (i:Int) ((i+0:Nat):Int)
   rw [decide_eq_false (by omega)] at hlx
   have hPl:PlaceE l T i:=⟨by omega,hlo,fun k e hk he=>hhi k e (by omega) he⟩
   by_cases hil:i<l.length
   · obtain ⟨e, he⟩ : ∃ e, l[i]? = some e := ⟨l[i], by simp⟩
     have hly:=Zt (i:Int) (l.length:Int)
     rw [decide_eq_true (by omega)] at hly
     have hia:=Zhn (id:=0) (ix:=0) hil
     have hld:YB E0 146 (.ptr 0 5 (0+i) 0) ⟨[.cells 5 (pwL l),.cells 4 [[.int .i64 k0,.str nm0,.int .i64 s0,slV b0 4 (Za kz0)]]],0,[],0⟩=some (.agg (pwC e)):=by rw [Nat.zero_add];exact Zi7 rfl he
     have hc:=hins e (List.mem_of_getElem? he)
     have hiff:(decide (e.1.cmp T=0))=true↔∃ x,l[i]? = some x∧x.1.cmp T=0:=by
      rw [decide_eq_true_eq]
      exact ⟨fun h=>⟨e,he,h⟩,fun ⟨x,h1,h2⟩=>by rw [he] at h1;cases h1;exact h2⟩
     have hcm:=Uf (e.1.cmp T) 0
     generalize decide (e.1.cmp T=0)=fd at hcm hiff
     generalize e.1.cmp T=C at hc hcm
     obtain ⟨⟨k',nm',s',b',kz'⟩,en⟩:=e
     simp only [pwC,Tm.cells,List.cons_append,List.nil_append] at hc hld
     cases fd
     all_goals
      repeat' first|refine Jk ?_|refine Jc (hc _) ?_|refine Ji ?_|(apply qCv;rfl;rfl;rfl;assumption;exact IsV.any _)|refine JJ ?_|(apply qLe;rfl;rfl;rfl;assumption;exact IsV.any _)|(apply qLd;rfl;rfl;rfl;assumption;exact IsV.any _)|refine Jl ?_|refine Jx ?_|refine Jt ?_|refine Jb ?_ ?_|refine Jo ?_|(apply dK;rfl;rfl;rfl)|refine Jd (hc _) ?_|refine JD ?_|(apply dCv;rfl;rfl;rfl;assumption;exact IsV.any _;rfl)|refine JK ?_|(apply dLe;rfl;rfl;rfl;assumption;exact IsV.any _;rfl)|(apply dLd;rfl;rfl;rfl;assumption;exact IsV.any _;(first|rfl|(show Nat.blt _ _=true;first|assumption|(simp [Nat.blt];done))))|(apply dLn;rfl;rfl;rfl;rfl;rfl)|refine JI ?_|(apply dT (ty:=4);rfl;rfl;rfl;rfl)|(apply dF (ty:=4);rfl;rfl;rfl;rfl)|(apply dB (ty:=4);rfl;rfl;rfl;rfl)|refine Jh ?_|(apply Wp.draw tOk follows;kernel_rfl)|intro hb
      all_goals exact RetR.ret rfl ⟨i,_,rfl,hPl,hiff,rfl⟩
   · have hly := Zt (i : Int) (l.length : Int)
     rw [decide_eq_false (by omega)] at hly
     have hiff:false=true↔∃ x,l[i]? = some x∧x.1.cmp T=0:=⟨fun h=>(by cases h),fun ⟨x,h1,_⟩=>absurd (Zu h1) hil⟩
     repeat' first|refine Jk ?_|refine Ji ?_|(apply qCv;rfl;rfl;rfl;assumption;exact IsV.any _)|refine JJ ?_|(apply qLe;rfl;rfl;rfl;assumption;exact IsV.any _)|(apply qLd;rfl;rfl;rfl;assumption;exact IsV.any _)|refine Jl ?_|refine Jx ?_|refine Jt ?_|refine Jb ?_ ?_|refine Jo ?_|(apply dK;rfl;rfl;rfl)|refine JD ?_|(apply dCv;rfl;rfl;rfl;assumption;exact IsV.any _;rfl)|refine JK ?_|(apply dLe;rfl;rfl;rfl;assumption;exact IsV.any _;rfl)|(apply dLd;rfl;rfl;rfl;assumption;exact IsV.any _;(first|rfl|(show Nat.blt _ _=true;first|assumption|(simp [Nat.blt];done))))|(apply dLn;rfl;rfl;rfl;rfl;rfl)|refine JI ?_|(apply dT (ty:=4);rfl;rfl;rfl;rfl)|(apply dF (ty:=4);rfl;rfl;rfl;rfl)|(apply dB (ty:=4);rfl;rfl;rfl;rfl)|refine Jh ?_|(apply Wp.draw tOk follows;kernel_rfl)|intro hb
     all_goals exact RetR.ret rfl ⟨i,_,rfl,hPl,hiff,rfl⟩
theorem Xr {es:Nat} {P:List (List PV)} (h:Mut0 es v0 L P):(v0= .nils∧L= []∧P= [])∨(v0= .own 0 es 0 P.length∧L= [.cells es P]):=by
 cases h with
 |nil=>exact .inl ⟨rfl,rfl,rfl⟩
 |own=>exact .inr ⟨rfl,rfl⟩
theorem ZaC (h:pwL l= []):l= []:=by
 have:=congrArg List.length h
 rw [ZK] at this
 exact List.length_eq_zero_iff.1 this
theorem Zon (hA : W3 l) (hl : ∀ x, x ∈ l → x.1.Ok ∧ x.1.size ≤ 100000) (ht : t.Ok ∧ t.size ≤ 100000) (hlen : l.length ≤ 1000) (hM : Mut0 5 v0 L (pwL l)) (ext : List Box) :
  ∃ (i:Nat) (fd:Bool),PlaceE l t i∧(fd=true↔∃ x,l[i]? = some x∧x.1.cmp t=0)∧CallOk E0 Tryz.prog 183 [v0,.agg t.cells,.fn 184 []] ⟨L++ext,0,[],0⟩ (.tup [.int .i64 (i:Int),.bool fd]) ⟨L++ext,0,[],0⟩:=by
 have key:∃ r H',CallOk E0 Tryz.prog 183 [v0,.agg t.cells,.fn 184 []] ⟨L,0,[],0⟩ r H'∧ZlE l t L r H':=by
  rcases Xr hM with ⟨rfl,rfl,h⟩|⟨rfl,rfl⟩
  · obtain rfl := ZaC h
    exact Zo0 t
  · rw [ZK]
    exact Zn1 hA hl ht hlen
 obtain ⟨r,H',h1,i,fd,rfl,hP,hiff,rfl⟩:=key
 refine ⟨i,fd,hP,hiff,?_⟩
 have hu:=ZkE L.length t
 have hLu:L.all (Yb L.length)=true∧ZA L.length [v0,.agg t.cells,.fn 184 []]=true:=by
  rcases Xr hM with ⟨rfl,rfl,h⟩|⟨rfl,rfl⟩
  · exact ⟨rfl,by show (under _ _&&(under _ (.agg t.cells)&&_))=true;rw [hu];rfl⟩
  · exact ⟨by simp only [List.all_cons,List.all_nil,ZoM];rfl,by show (under _ _&&(under _ (.agg t.cells)&&_))=true;rw [hu];rfl⟩
 have h2:=h1.shed (by simp) (Nat.zero_le _) rfl (by simpa using hLu.1)
 have e:(⟨List.take L.length (L++ [.cells 4 [t.cells]]),0,[],0⟩:Heap)=⟨L,0,[],0⟩:=by simp
 have h3:CallOk E0 Tryz.prog 183 [v0,.agg t.cells,.fn 184 []] ⟨L,0,[],0⟩ (.tup [.int .i64 (i:Int),.bool fd]) ⟨List.take L.length (L++ [.cells 4 [t.cells]]),0,[],0⟩:=h2
 rw [e] at h3
 exact h3.ext rfl hLu.2 hLu.1 (Nat.zero_le _)
