/-
  A power is put among powers that stand in order (the program's text).
-/
import Derived.Test.YtcopccjkfbmpcaaGreatDoorOk
import Derived.Test.YtcopccjkfbmpcaaGreatDoorOg
set_option maxHeartbeats 0
set_option maxRecDepth 100000
namespace Go.Vm
theorem ZiN:∀ {l:List Pw} {j k:Nat} {a b:Pw},V7 l→j<k→l[j]? = some a→l[k]? = some b→a.1.cmp b.1<0
 | [],j,k,a,b,_,_,h,_=>by simp at h
 | x :: r, 0, k + 1, a, b, hA, _, h1, h2 => by
   have e:x=a:=by simpa using h1
   subst e
   exact hA.1.2 b (List.mem_of_getElem? (by simpa using h2))
 |x::r,j+1,k+1,a,b,hA,hjk,h1,h2=>ZiN (l:=r) (j:=j) (k:=k) hA.2 (by omega) (by simpa using h1) (by simpa using h2)
structure PlaceE (l:List Pw) (t:Tm) (i:Nat):Prop where
 le:i≤l.length
 lo:∀ (k:Nat) (x:Pw),k<i→l[k]? = some x→x.1.cmp t<0
 hi:∀ (k:Nat) (x:Pw),i≤k→l[k]? = some x→¬ x.1.cmp t<0
theorem Zbz {t:Tm} {n:Int}:∀ {l:List Pw} {i:Nat} {x:Pw},PlaceE l t i→l[i]? = some x→x.1.cmp t=0→Vf l t n=if x.2+n=0 then l.take i++l.drop (i+1) else l.set i (x.1,x.2+n)
 | [],i,x,_,h,_=>by simp at h
 | y :: r, 0, x, hP, h, h0 => by
   have e:y=x:=by simpa using h
   subst e
   have h1:¬ t.cmp y.1<0:=by rw [XL y.1 t];omega
   simp only [Vf]
   rw [if_neg (by omega),if_neg h1]
   simp
 | y :: r, i + 1, x, hP, h, h0 => by
   have h1:=hP.lo 0 y (by omega) rfl
   have ih:=Zbz (n:=n) (l:=r) (i:=i) (x:=x) ⟨by have:=hP.le;simp at this;omega,fun k z hk hz=>hP.lo (k+1) z (by omega) (by simpa using hz),fun k z hk hz=>hP.hi (k+1) z (by omega) (by simpa using hz)⟩ (by simpa using h) h0
   simp only [Vf]
   rw [if_pos h1,ih]
   split<;>simp
theorem Zgl {t:Tm} {n:Int}:∀ {l:List Pw} {i:Nat},PlaceE l t i→(∀ x,l[i]? = some x→x.1.cmp t≠0)→Vf l t n=l.take i++ [(t,n)]++l.drop i
 | [],i,hP,_=>by simp [Vf]
 | y :: r, 0, hP, h => by
   have h1:=hP.hi 0 y (by omega) rfl
   have h2:=h y rfl
   have h3:t.cmp y.1<0:=by rw [XL y.1 t];omega
   simp only [Vf]
   rw [if_neg h1,if_pos h3]
   simp
 | y :: r, i + 1, hP, h => by
   have h1:=hP.lo 0 y (by omega) rfl
   have ih:=Zgl (n:=n) (l:=r) (i:=i) ⟨by have:=hP.le;simp at this;omega,fun k z hk hz=>hP.lo (k+1) z (by omega) (by simpa using hz),fun k z hk hz=>hP.hi (k+1) z (by omega) (by simpa using hz)⟩ (fun x hx=>h x (by simpa using hx))
   simp only [Vf]
   rw [if_pos h1,ih]
   simp
end Go.Vm
namespace Go.Vm.Seat
variable {i j n:Nat} {H H':Heap} {L:List Box} {M l:List Pw} {t:Tm} {r v0:PV} {f:FuncId} {args:List PV} {y:Pw}
open Go.Proofs
theorem ZeG (x:Pw):(pwC x).length=5:=by
 obtain ⟨⟨k,nm,s,b,kz⟩,n⟩:=x
 rfl
theorem ZlS {id ix len:Nat} (hj:j<len):Zv E0 178 (.own id 5 ix len) (.int .i64 (j:Int))=some (.ptr id 5 (ix+j) 0):=Zg5 rfl rfl rfl rfl hj
theorem ZoR {id:Nat} {L:List Pw} {x:Pw} (hb:nth H.bx id=some (.cells 5 (pwL L))) (hj:L[j]? = some x):Z4 E0 193 (.ptr id 5 j 0) H=some (.agg (pwC x)):=by
 obtain ⟨⟨k,nm,s,b,kz⟩,n⟩:=x
 exact U8 rfl rfl hb ((Zo _ _).trans (Xh hj)) rfl
theorem Xl:∀ l:List Pw,Z8 (pwL l)=some (pwL l)
 | []=>rfl
 | ⟨⟨k, nm, s, b, kz⟩, n⟩ :: r => by
   have ih:=Xl r
   show Z8 (pwC (⟨k,nm,s,b,kz⟩,n)::pwL r)=_
   simp only [Z8,ih,pwC,Tm.cells,List.cons_append,List.nil_append,XM,ZE]
   rfl
theorem ZuA (n:Nat) (l:List Pw):YJ n (.cells 5 (pwL l))=true:=by
 show (pwL l).all (ZM n)=true
 rw [pwL,List.all_map,List.all_eq_true]
 rintro ⟨⟨k,nm,s,b,kz⟩,m⟩ _
 simp only [Function.comp,pwC,Tm.cells,List.cons_append,List.nil_append,ZM,under,Zh]
 rfl
theorem Zrj (n:Nat) (t:Tm):under n (.agg t.cells)=true:=by
 obtain ⟨k,nm,s,b,kz⟩:=t
 simp only [Tm.cells,under,ZM,Zh]
 rfl
def Zru (l:List Pw) (t:Tm) (B:List Box) (r:PV) (H:Heap):Prop:=∃ (i:Nat) (fd:Bool),r= .tup [.int .i64 (i:Int),.bool fd]∧PlaceE l t i∧(fd=true↔∃ x,l[i]? = some x∧x.1.cmp t=0)∧H=⟨B++ [.cells 4 [t.cells]],0,[],0⟩
theorem ZvX (t:Tm):∃ r H',CallOk E0 Tryz.prog 231 [.nils,.agg t.cells,.fn 232 []] ⟨[],0,[],0⟩ r H'∧Zru [] t [] r H':=by
 have key:∃ r H',CallOk E0 Tryz.prog 231 [.nils,.agg t.cells,.fn 232 []] ⟨[],0,[],0⟩ r H'∧(r= .tup [.int .i64 0,.bool false]∧H'=⟨[]++ [.cells 4 [t.cells]],0,[],0⟩):=by
  obtain ⟨k,nm,s,b,kz⟩:=t
  simp only [Tm.cells]
  refine ZT (own:=fun _=>false) tOk fe231.ok ?_
  refine Wp.seq ?_
  repeat' first|refine Jt ?_|refine Jo ?_|fail
  refine Wp.loop ?_
  repeat' first|refine Jt ?_|refine Jo ?_|fail
  refine LoopQ.exit ?_
  repeat' first|(apply dK;rfl;rfl;rfl)|(apply dF (ty:=4);rfl;rfl;rfl;rfl)|refine Jh ?_|refine Jo ?_|(apply Wp.draw tOk follows;kernel_rfl)|fail
  all_goals exact RetR.ret rfl ⟨rfl,rfl⟩
 obtain ⟨r,H',h1,rfl,rfl⟩:=key
 exact ⟨_,_,h1,0,false,rfl,⟨Nat.le_refl _,fun k x h=>absurd h (by omega),fun k x _ h=>by simp at h⟩,by simp,rfl⟩
theorem Zwj (hA:V7 l) (hl:∀ x,x∈l→x.1.Ok∧x.1.size≤100000) (ht:t.Ok∧t.size≤100000) (hlen:l.length≤1000):∃ r H',CallOk E0 Tryz.prog 231 [.own 0 5 0 l.length,.agg t.cells,.fn 232 []] ⟨[.cells 5 (pwL l)],0,[],0⟩ r H'∧Zru l t [.cells 5 (pwL l)] r H':=by
 have hins:∀ x,x∈l→∀ H,CallOk E0 Tryz.prog 232 [.agg (pwC x),.agg t.cells] H (.int .i64 (x.1.cmp t)) H:=fun x hx=>Zv2 (hl x hx) ht
 have hltT:∀ (k p:Nat) (u x:Pw),l[k]? = some u→l[p]? = some x→k<p→x.1.cmp t≤0→u.1.cmp t<0:=fun k p u x h1 h2 h3 h4=>X9 (ZiN hA h3 h1 h2) h4
 unfold Zru
 obtain ⟨T,hT⟩:∃ T,T=t:=⟨_,rfl⟩
 have hTc:T.cells=t.cells:=by rw [hT]
 rw [← hT] at hltT ⊢
 rw [← hT] at hins
 rw [hTc] at hins ⊢
 clear ht hT hTc
 obtain ⟨k0,nm0,s0,b0,kz0⟩:=t
 simp only [Tm.cells] at hins ⊢
 refine ZT (own:=fun _=>false) tOk fe231.ok ?_
 refine Wp.seq ?_
 repeat' first|refine Jt ?_|refine Jo ?_|fail
 refine Wp.while (fun m tm H => ∃ (i : Nat) (base : TM), i + m ≤ l.length ∧ (∀ (k : Nat) (e : Pw), k < i → l[k]? = some e → e.1.cmp T < 0) ∧ (∀ (k : Nat) (e : Pw), i + m ≤ k → l[k]? = some e → ¬ e.1.cmp T < 0) ∧
   tm=ovr base [(0,.own 0 5 0 l.length),(2,.fn 232 []),(4,.ptr 1 4 0 0),(8,.int .i64 (l.length:Int)),(9,.int .i64 (i:Int)),(10,.int .i64 ((i+m:Nat):Int))]∧H=⟨[.cells 5 (pwL l),.cells 4 [[.int .i64 k0,.str nm0,.int .i64 s0,slV b0 4 (Za kz0)]]],0,[],0⟩)
  (fun m tm H hI=>?_) l.length _ _ ⟨0,_,by omega,fun k e h=>absurd h (by omega),fun k e h h'=>absurd (ZB h') (by omega),Zf ⟨rfl,rfl,rfl,rfl,rfl,Ze (by rw [Nat.zero_add];rfl),trivial⟩,rfl⟩
 obtain ⟨i,base,hi,hlo,hhi,rfl,rfl⟩:=hI
 by_cases hm:0<m
 · have hlx := Zq (i : Int) ((i + m : Nat) : Int)
   rw [decide_eq_true (by omega)] at hlx
   obtain ⟨p,hp⟩:∃ p,p=(i+(i+m)) / 2:=⟨_,rfl⟩
   have hpl:p<l.length:=by omega
   obtain ⟨e,he⟩:∃ e,l[p]? = some e:=⟨l[p],by simp⟩
   have b1:Xo E0 .add 3 (.int .i64 (i:Int)) (.int .i64 ((i+m:Nat):Int))=some (.int .i64 ((i+(i+m):Nat):Int)):=by
    show some (PV.int .i64 (IntKind.i64.wrap ((i:Int)+((i+m:Nat):Int))))=_
    rw [IntWalk.i64_in _ (by omega)]
    congr 2
   have k1:QJ E0 3 90 (.int .i64 ((i+(i+m):Nat):Int))=some (.int .u64 ((i+(i+m):Nat):Int)):=by
    show some (PV.int .u64 (IntKind.u64.wrap ((i+(i+m):Nat):Int)))=_
    rw [IntWalk.u64_in _ (by omega)]
   have b2:∀ c,(c:PV)= .int .i64 1∨c= .int .u64 1→Xo E0 .shr 90 (.int .u64 ((i+(i+m):Nat):Int)) c=some (.int .u64 (p:Int)):=fun c hc=>by
    rcases hc with rfl|rfl
    all_goals
     show some (PV.int .u64 (Int.fdiv ((i+(i+m):Nat):Int) (2 ^ (min (Int.toNat 1) 64))))=_
     congr 2
     rw [hp]
     show Int.fdiv _ 2=_
     rw [Int.fdiv_eq_ediv_of_nonneg _ (by decide)]
     omega
   have b3:=b2 (.int .i64 1) (.inl rfl)
   have b4:=b2 (.int .u64 1) (.inr rfl)
   have k2:QJ E0 90 3 (.int .u64 (p:Int))=some (.int .i64 (p:Int)):=by
    show some (PV.int .i64 (IntKind.i64.wrap (p:Int)))=_
    rw [IntWalk.i64_in _ (by omega)]
   have hia:=ZlS (id:=0) (ix:=0) hpl
   have hld:Z4 E0 193 (.ptr 0 5 (0+p) 0) ⟨[.cells 5 (pwL l),.cells 4 [[.int .i64 k0,.str nm0,.int .i64 s0,slV b0 4 (Za kz0)]]],0,[],0⟩=some (.agg (pwC e)):=by rw [Nat.zero_add];exact ZoR rfl he
   have hc:=hins e (List.mem_of_getElem? he)
   have hcm:=Zq (e.1.cmp T) 0
   by_cases hlt:e.1.cmp T<0
   · rw [decide_eq_true hlt] at hcm
     have gA:∀ (k:Nat) (u:Pw),k<p+1→l[k]? = some u→u.1.cmp T<0:=fun k u hk hu=>by
      rcases Nat.lt_or_ge k p with h|h
      · exact hltT k p u e hu he h (by omega)
      · obtain rfl : k = p := by omega
        rw [he] at hu;cases hu;exact hlt
     generalize e.1.cmp T=C at hc hcm
     obtain ⟨⟨k',nm',s',b',kz'⟩,en⟩:=e
     simp only [pwC,Tm.cells,List.cons_append,List.nil_append] at hc hld
     repeat' first|refine Ji ?_|(apply qCv;rfl;rfl;rfl;assumption;exact IsV.any _)|refine Jo ?_|refine Jd (hc _) ?_|refine JD ?_|refine JK ?_|(apply dLd;rfl;rfl;rfl;assumption;exact IsV.any _;(first|rfl|(show Nat.blt _ _=true;first|assumption|(simp [Nat.blt];done))))|refine Jh ?_|(apply Wp.draw tOk follows;kernel_rfl)|fail
     exact LoopI.go (i+m-(p+1)) (by omega) ⟨p+1,_,by omega,gA,fun k u hk hu=>hhi k u (by omega) hu,Zf ⟨rfl,rfl,rfl,rfl,Ze (Zd (n:=p+1) (by omega)),Ze (by congr 1;omega),trivial⟩,rfl⟩
   · rw [decide_eq_false hlt] at hcm
     have gB:∀ (k:Nat) (u:Pw),p≤k→l[k]? = some u→¬ u.1.cmp T<0:=fun k u hk hu hn=>by
      rcases Nat.lt_or_ge p k with h|h
      · exact hlt (hltT p k e u he hu h (by omega))
      · obtain rfl : k = p := by omega
        rw [he] at hu;cases hu;exact hlt hn
     generalize e.1.cmp T=C at hc hcm
     obtain ⟨⟨k',nm',s',b',kz'⟩,en⟩:=e
     simp only [pwC,Tm.cells,List.cons_append,List.nil_append] at hc hld
     repeat' first|refine Ji ?_|(apply qCv;rfl;rfl;rfl;assumption;exact IsV.any _)|refine Jo ?_|refine Jd (hc _) ?_|refine JD ?_|refine JK ?_|(apply dLd;rfl;rfl;rfl;assumption;exact IsV.any _;(first|rfl|(show Nat.blt _ _=true;first|assumption|(simp [Nat.blt];done))))|refine Jh ?_|(apply Wp.draw tOk follows;kernel_rfl)|fail
     exact LoopI.go (p-i) (by omega) ⟨i,_,by omega,hlo,fun k u hk hu=>gB k u (by omega) hu,Zf ⟨rfl,rfl,rfl,rfl,rfl,Ze (by congr 1;omega),trivial⟩,rfl⟩
 · obtain rfl : m = 0 := by omega
   have hlx:=Zq (i:Int) ((i+0:Nat):Int)
   rw [decide_eq_false (by omega)] at hlx
   have hPl:PlaceE l T i:=⟨by omega,hlo,fun k e hk he=>hhi k e (by omega) he⟩
   by_cases hil:i<l.length
   · obtain ⟨e, he⟩ : ∃ e, l[i]? = some e := ⟨l[i], by simp⟩
     have hly:=Zq (i:Int) (l.length:Int)
     rw [decide_eq_true (by omega)] at hly
     have hia:=ZlS (id:=0) (ix:=0) hil
     have hld:Z4 E0 193 (.ptr 0 5 (0+i) 0) ⟨[.cells 5 (pwL l),.cells 4 [[.int .i64 k0,.str nm0,.int .i64 s0,slV b0 4 (Za kz0)]]],0,[],0⟩=some (.agg (pwC e)):=by rw [Nat.zero_add];exact ZoR rfl he
     have hc:=hins e (List.mem_of_getElem? he)
     have hiff:(decide (e.1.cmp T=0))=true↔∃ x,l[i]? = some x∧x.1.cmp T=0:=by
      rw [decide_eq_true_eq]
      exact ⟨fun h=>⟨e,he,h⟩,fun ⟨x,h1,h2⟩=>by rw [he] at h1;cases h1;exact h2⟩
     have hcm:=Z6 (e.1.cmp T) 0
     generalize decide (e.1.cmp T=0)=fd at hcm hiff
     generalize e.1.cmp T=C at hc hcm
     obtain ⟨⟨k',nm',s',b',kz'⟩,en⟩:=e
     simp only [pwC,Tm.cells,List.cons_append,List.nil_append] at hc hld
     cases fd
     all_goals
      repeat' first|refine Ji ?_|refine Jo ?_|refine Jd (hc _) ?_|refine JD ?_|refine JK ?_|(apply dLd;rfl;rfl;rfl;assumption;exact IsV.any _;(first|rfl|(show Nat.blt _ _=true;first|assumption|(simp [Nat.blt];done))))|(apply dT (ty:=4);rfl;rfl;rfl;rfl)|(apply dF (ty:=4);rfl;rfl;rfl;rfl)|refine Jh ?_|(apply Wp.draw tOk follows;kernel_rfl)|fail
      all_goals exact RetR.ret rfl ⟨i,_,rfl,hPl,hiff,rfl⟩
   · have hly := Zq (i : Int) (l.length : Int)
     rw [decide_eq_false (by omega)] at hly
     have hiff:false=true↔∃ x,l[i]? = some x∧x.1.cmp T=0:=⟨fun h=>(by cases h),fun ⟨x,h1,_⟩=>absurd (ZB h1) hil⟩
     repeat' first|refine Ji ?_|refine Jo ?_|(apply dK;rfl;rfl;rfl)|refine JD ?_|(apply dF (ty:=4);rfl;rfl;rfl;rfl)|refine Jh ?_|(apply Wp.draw tOk follows;kernel_rfl)|fail
     all_goals exact RetR.ret rfl ⟨i,_,rfl,hPl,hiff,rfl⟩
theorem XZ {es:Nat} {P:List (List PV)} (h:Mut0 es v0 L P):(v0= .nils∧L= []∧P= [])∨(v0= .own 0 es 0 P.length∧L= [.cells es P]):=by
 cases h with
 |nil=>exact .inl ⟨rfl,rfl,rfl⟩
 |own=>exact .inr ⟨rfl,rfl⟩
theorem ZcO (h:pwL l= []):l= []:=by
 have:=congrArg List.length h
 rw [Z0] at this
 exact List.length_eq_zero_iff.1 this
theorem Zv8 (hA : V7 l) (hl : ∀ x, x ∈ l → x.1.Ok ∧ x.1.size ≤ 100000) (ht : t.Ok ∧ t.size ≤ 100000) (hlen : l.length ≤ 1000) (hM : Mut0 5 v0 L (pwL l)) (ext : List Box) :
  ∃ (i:Nat) (fd:Bool),PlaceE l t i∧(fd=true↔∃ x,l[i]? = some x∧x.1.cmp t=0)∧CallOk E0 Tryz.prog 231 [v0,.agg t.cells,.fn 232 []] ⟨L++ext,0,[],0⟩ (.tup [.int .i64 (i:Int),.bool fd]) ⟨L++ext,0,[],0⟩:=by
 have key:∃ r H',CallOk E0 Tryz.prog 231 [v0,.agg t.cells,.fn 232 []] ⟨L,0,[],0⟩ r H'∧Zru l t L r H':=by
  rcases XZ hM with ⟨rfl,rfl,h⟩|⟨rfl,rfl⟩
  · obtain rfl := ZcO h
    exact ZvX t
  · rw [Z0]
    exact Zwj hA hl ht hlen
 obtain ⟨r,H',h1,i,fd,rfl,hP,hiff,rfl⟩:=key
 refine ⟨i,fd,hP,hiff,?_⟩
 have hu:=Zrj L.length t
 have hLu:L.all (YJ L.length)=true∧ZM L.length [v0,.agg t.cells,.fn 232 []]=true:=by
  rcases XZ hM with ⟨rfl,rfl,h⟩|⟨rfl,rfl⟩
  · exact ⟨rfl,by show (under _ _&&(under _ (.agg t.cells)&&_))=true;rw [hu];rfl⟩
  · exact ⟨by simp only [List.all_cons,List.all_nil,ZuA];rfl,by show (under _ _&&(under _ (.agg t.cells)&&_))=true;rw [hu];rfl⟩
 have h2:=h1.shed (by simp) (Nat.zero_le _) rfl (by simpa using hLu.1)
 have e:(⟨List.take L.length (L++ [.cells 4 [t.cells]]),0,[],0⟩:Heap)=⟨L,0,[],0⟩:=by simp
 have h3:CallOk E0 Tryz.prog 231 [v0,.agg t.cells,.fn 232 []] ⟨L,0,[],0⟩ (.tup [.int .i64 (i:Int),.bool fd]) ⟨List.take L.length (L++ [.cells 4 [t.cells]]),0,[],0⟩:=h2
 rw [e] at h3
 exact h3.ext rfl hLu.2 hLu.1 (Nat.zero_le _)
noncomputable def E3:Env:={E0 with eff:=fun f=>E0.eff f||Nat.beq f 233}
theorem Zps:TOk E3 Tryz.prog:=⟨fun _ _ h=>ZeT h⟩
theorem ZpT (h:CallOk E0 Tryz.prog f args H r H'):CallOk E3 Tryz.prog f args H r H':=h.env rfl
theorem Zuz (h:CallOk E3 Tryz.prog f args H r H'):CallOk E0 Tryz.prog f args H r H':=h.env rfl
theorem Zqu (y:Pw):(pwC y).all ZX=true:=by
 have:=ZaY [y]
 simpa [pwL] using this
theorem Zt9 {id:Nat} (hb:nth H.bx id=some (.cells 5 [pwC y])) {s:PV} (h1:WE 5 s=5) (h2:ZlI s=true):XF E0 178 178 s (.own id 5 0 1) H=some (5,64,[pwC y]):=by
 have hy:Z8 [pwC y]=some [pwC y]:=Xl [y]
 have hok:[pwC y].all (fun c=>c.all ZX)=true:=ZaY [y]
 have hx:YN H (.own id 5 0 1)=some [pwC y]:=by
  simp only [YN,hb]
  show (if 5=5∧0+1≤1 then Z8 [pwC y] else none)=_
  rw [if_pos (by omega),hy]
 obtain ⟨ti,ui,e,f,ei,q1,q2,q3,q4,q5,q6,q7,q8,q9⟩:=apT_pw.h
 have q6':=q6
 have q7':=q7
 simp only [XF,q1,q3,q5]
 rw [if_pos ⟨q8,q9,by rw [q6'];exact h1,by rw [q6'];rfl⟩,hx]
 simp only [hok,h2,and_self,if_true,q6',q7']
theorem ZfS {id:Nat} (hb:nth H.bx id=some (.cells 5 (pwL M))):YN H (.own id 5 0 M.length)=some (pwL M):=by
 simp only [YN,hb]
 rw [if_pos ⟨trivial,by rw [Z0];omega⟩,List.drop_zero, ← Z0 M,List.take_length,Xl]
theorem ZqJ {id k:Nat} (h:k≤n):Yz E0 178 (.own id 5 0 n) (some (.int .i64 (k:Int))) none none=some (.own id 5 (0+k) (n-k)):=by
 obtain ⟨ti,e,et⟩:∃ ti,E0.T 178=some ti∧ti.tk= .slice 193:=⟨_,rfl,rfl⟩
 obtain ⟨ei,e2,e3⟩:∃ ei,E0.T 193=some ei∧ei.size=5:=⟨_,rfl,rfl⟩
 have hn:nat? (.int .i64 (k:Int))=some k:=by simp [nat?]
 simp only [Yz,e,et,e2,e3,if_true,X4,hn,if_pos h]
theorem Zts (P:Box):CallOk E0 Tryz.prog 233 [.nils,.int .i64 0,.own 1 5 0 1] ⟨[P,.cells 5 [pwC y]],0,[],0⟩ (.own 2 5 0 1) ⟨[P,.cells 5 [pwC y],.cells 5 [pwC y]],0,[],0⟩:=by
 have hap:ZP E0 178 178 .nils (.own 1 5 0 1) ⟨[P,.cells 5 [pwC y]],0,[],0⟩=some (.own 2 5 0 1,⟨[P,.cells 5 [pwC y],.cells 5 [pwC y]],0,[],0⟩):=by
  have he:=Zt9 (y:=y) (H:=⟨[P,.cells 5 [pwC y]],0,[],0⟩) (id:=1) rfl (s:= .nils) rfl rfl
  simp only [ZP,he,Yu]
  rfl
 refine Yg (own:=fun d=>Nat.beq d 25) tOk fe233.ok ?_
 refine Wp.seq ?_
 repeat' first|refine Jt ?_|refine Jo ?_|fail
 refine ZmE rfl rfl rfl rfl rfl hap ?_
 repeat' first|refine Jo ?_|fail
 all_goals exact RetE.ret rfl rfl rfl
theorem Zsj (P:Box) (hl:M.length≤1000):CallOk E0 Tryz.prog 233 [.own 0 5 0 M.length,.int .i64 (M.length:Int),.own 2 5 0 1] ⟨[.cells 5 (pwL M),P,.cells 5 [pwC y]],0,[],0⟩ (.own 3 5 0 (M.length+1)) ⟨[.dead,P,.cells 5 [pwC y],.cells 5 (pwL (M++ [y]))],0,[],0⟩:=by
 have hsl:=ZqJ (id:=0) (k:=M.length) (n:=M.length) (Nat.le_refl _)
 have heq:=Z6 (M.length:Int) (M.length:Int)
 rw [decide_eq_true rfl] at heq
 have hs:=ZfS (H:=⟨[.cells 5 (pwL M),P,.cells 5 [pwC y]],0,[],0⟩) (id:=0) (M:=M) rfl
 have he:=Zt9 (y:=y) (H:=⟨[.cells 5 (pwL M),P,.cells 5 [pwC y]],0,[],0⟩) (id:=2) rfl (s:= .own 0 5 0 M.length) rfl rfl
 have hap:ZP E0 178 178 (.own 0 5 0 M.length) (.own 2 5 0 1) ⟨[.cells 5 (pwL M),P,.cells 5 [pwC y]],0,[],0⟩=some (.own 3 5 0 (M.length+1),⟨[.dead,P,.cells 5 [pwC y],.cells 5 (pwL (M++ [y]))],0,[],0⟩):=by
  simp only [ZP,he,Yu,Wj,hs]
  rw [if_pos ⟨trivial,Nat.zero_le _,Z0 M,ZD (by rw [Z0];simp;omega) (by decide)⟩,ZeB,Z0]
  rfl
 clear hs he
 generalize pwL M=L at hap ⊢
 generalize pwL (M++ [y])=L2 at hap ⊢
 generalize M.length+1=n1 at hap ⊢
 generalize M.length=n at hap hsl heq ⊢
 refine Yg (own:=fun d=>Nat.beq d 25) tOk fe233.ok ?_
 refine Wp.seq ?_
 repeat' first|refine JS ?_|refine Ji ?_|refine Jt ?_|refine Jo ?_|fail
 refine ZmE rfl rfl rfl rfl rfl hap ?_
 repeat' first|refine Jo ?_|fail
 all_goals exact RetE.ret rfl rfl rfl
theorem ZrG (P:Box) (hi:i<M.length) (hl:M.length≤1000):CallOk E0 Tryz.prog 233 [.own 0 5 0 M.length,.int .i64 (i:Int),.own 2 5 0 1] ⟨[.cells 5 (pwL M),P,.cells 5 [pwC y]],0,[],0⟩ (.own 3 5 0 (M.length+1)) ⟨[.dead,P,.cells 5 [pwC y],.cells 5 (pwL (M.take i++ [y]++M.drop i))],0,[],0⟩:=by
 have h:=Zox (H:=⟨[.cells 5 (pwL M),P,.cells 5 [pwC y]],0,[],0⟩) (id:=0) (id2:=2) (n:=M.length) (i:=i) (el:=pwL M) (y:=pwC y) rfl rfl (Nat.zero_le _) (by decide) (Z0 M) hi hl (ZaY M) (Zqu y)
 have e:V1 (pwL M) i (pwC y)=pwL (M.take i++ [y]++M.drop i):=by
  simp only [V1,pwL,List.map_append,List.map_take,List.map_drop,List.map_cons,List.map_nil]
 rw [e] at h
 exact h
theorem Zla (t:Tm) (n:Int):QH E3 193 [(0,.agg t.cells),(1,.int .i64 n)]=some (.agg (pwC (t,n))):=by
 obtain ⟨k,nm,s,b,kz⟩:=t
 rfl
theorem Zvb (y:Pw):∃ a c d e f,pwC y= [a,c,d,e,f]:=by
 obtain ⟨⟨k,nm,s,b,kz⟩,n⟩:=y
 exact ⟨_,_,_,_,_,rfl⟩
def Znv (l:List Pw) (r:PV) (H:Heap):Prop:=Out 5 H r (pwL l)
theorem U3 (hn:n=l.length) (h:H.bx[j]? = some (.cells 5 (pwL l))):Znv l (.own j 5 0 n) H:=by
 have:=Out.own (es:=5) (H1:=H) j (pwL l) [] (by rw [List.append_nil];exact h) (Xl l)
 rw [Z0, ← hn] at this
 exact this
theorem ZqK {n : Int} (hP : PlaceE l t i) (hf : ∀ x, l[i]? = some x → x.1.cmp t ≠ 0) (ht : t.Ok ∧ t.size ≤ 100000) (hlen : l.length ≤ 1000) (hM : Mut0 5 v0 L (pwL l))
  (hB:CallOk E0 Tryz.prog 231 [v0,.agg t.cells,.fn 232 []] ⟨L++ [.cells 5 [pwC (t,n)]],0,[],0⟩ (.tup [.int .i64 (i:Int),.bool false]) ⟨L++ [.cells 5 [pwC (t,n)]],0,[],0⟩) :
  ∃ r H1,CallOk E3 Tryz.prog 227 [v0,.agg (pwC (t,n))] ⟨L,0,[],0⟩ r H1∧Znv (Vf l t n) r H1:=by
 have hcl:=fun H=>ZpT (Zr8 ht.1 ht.2 H)
 obtain ⟨y,hy⟩:∃ y:Pw,y=(t,n):=⟨_,rfl⟩
 have hbd:=Zla t n
 rw [← hy] at hbd
 obtain ⟨a,c,d,e,f,hce⟩:=Zvb y
 rw [Zgl hP hf]
 have hB:=ZpT hB
 rcases XZ hM with ⟨rfl,rfl,h⟩|⟨rfl,rfl⟩
 · obtain rfl := ZcO h
   obtain rfl:i=0:=by have:=hP.le;simpa using this
   have k3:=ZpT (Zts (.cells 5 [pwC (t,n)]) (y:=y))
   have hfin:Znv ([].take 0++ [(t,n)]++ [].drop 0) (.own 2 5 0 1) ⟨[.cells 5 [pwC (t,n)],.cells 5 [pwC y],.cells 5 [pwC y]],0,[],0⟩:=U3 rfl (by rw [hy];rfl)
   rw [hce] at hbd k3 hfin
   clear hce hy
   generalize ([].take 0++ [(t,n)]++ [].drop 0:List Pw)=R at hfin ⊢
   obtain ⟨k,nm,s,b,kz⟩:=t
   simp only [pwC,Tm.cells,List.cons_append,List.nil_append] at hcl hbd hB k3 hfin ⊢
   refine ZT (own:=fun d=>Nat.beq d 24) Zps fe227.ok ?_
   refine Wp.seq ?_
   repeat' first|refine Jc hB ?_|refine Jt ?_|refine Jo ?_|refine Jd (hcl _) ?_|(apply dBd;rfl;rfl;rfl;assumption;exact IsV.aggN;rfl)|refine Jh ?_|(apply Wp.drawS Zps follows;kernel_rfl;rfl)|fail
   refine Ztx rfl rfl rfl rfl ?_
   refine dCe rfl rfl rfl rfl rfl k3 (Nat.le_of_ble_eq_true rfl) ?_
   repeat' first|refine Jh ?_|refine Jo ?_|fail
   all_goals exact RetR.ret rfl hfin
 · rw [Z0] at hB ⊢
   by_cases hil:i<l.length
   · have k3 := ZpT (ZrG (.cells 5 [pwC (t, n)]) hil hlen (y := y))
     have hfin:Znv (l.take i++ [(t,n)]++l.drop i) (.own 3 5 0 (l.length+1)) ⟨[.dead,.cells 5 [pwC (t,n)],.cells 5 [pwC y],.cells 5 (pwL (l.take i++ [y]++l.drop i))],0,[],0⟩:=U3 (by simp only [List.length_append,List.length_take,List.length_drop,List.length_singleton];omega) (by rw [hy];rfl)
     have hR:l.take i++ [y]++l.drop i=l.take i++ [(t,n)]++l.drop i:=by rw [hy]
     rw [hR] at k3 hfin
     rw [hce] at hbd k3 hfin
     clear hce hy hR
     generalize l.take i++ [(t,n)]++l.drop i=R at hfin k3 ⊢
     generalize pwL l=PL at hB k3 ⊢
     generalize l.length=ln at hB k3 hfin ⊢
     obtain ⟨k,nm,s,b,kz⟩:=t
     simp only [pwC,Tm.cells,List.cons_append,List.nil_append] at hcl hbd hB k3 hfin ⊢
     refine ZT (own:=fun d=>Nat.beq d 24) Zps fe227.ok ?_
     refine Wp.seq ?_
     repeat' first|refine Jc hB ?_|refine Jt ?_|refine Jo ?_|refine Jd (hcl _) ?_|(apply dBd;rfl;rfl;rfl;assumption;exact IsV.aggN;rfl)|refine Jh ?_|(apply Wp.drawS Zps follows;kernel_rfl;rfl)|fail
     refine Ztx rfl rfl rfl rfl ?_
     refine dCe rfl rfl rfl rfl rfl k3 (Nat.le_of_ble_eq_true rfl) ?_
     repeat' first|refine Jh ?_|refine Jo ?_|fail
     all_goals exact RetR.ret rfl hfin
   · have hin : i = l.length := by have := hP.le; omega
     have hR:l.take i++ [(t,n)]++l.drop i=l++ [(t,n)]:=by rw [hin,List.take_length,List.drop_length,List.append_nil]
     rw [hR]
     rw [hin] at hB
     have k3:=ZpT (Zsj (.cells 5 [pwC (t,n)]) hlen (y:=y))
     have hfin:Znv (l++ [(t,n)]) (.own 3 5 0 (l.length+1)) ⟨[.dead,.cells 5 [pwC (t,n)],.cells 5 [pwC y],.cells 5 (pwL (l++ [y]))],0,[],0⟩:=U3 (by simp) (by rw [hy];rfl)
     have hR2:l++ [y]=l++ [(t,n)]:=by rw [hy]
     rw [hR2] at k3 hfin
     rw [hce] at hbd k3 hfin
     clear hce hy hR hR2
     generalize l++ [(t,n)]=R at hfin k3 ⊢
     generalize pwL l=PL at hB k3 ⊢
     generalize l.length=ln at hB k3 hfin ⊢
     obtain ⟨k,nm,s,b,kz⟩:=t
     simp only [pwC,Tm.cells,List.cons_append,List.nil_append] at hcl hbd hB k3 hfin ⊢
     refine ZT (own:=fun d=>Nat.beq d 24) Zps fe227.ok ?_
     refine Wp.seq ?_
     repeat' first|refine Jc hB ?_|refine Jt ?_|refine Jo ?_|refine Jd (hcl _) ?_|(apply dBd;rfl;rfl;rfl;assumption;exact IsV.aggN;rfl)|refine Jh ?_|(apply Wp.drawS Zps follows;kernel_rfl;rfl)|fail
     refine Ztx rfl rfl rfl rfl ?_
     refine dCe rfl rfl rfl rfl rfl k3 (Nat.le_of_ble_eq_true rfl) ?_
     repeat' first|refine Jh ?_|refine Jo ?_|fail
     all_goals exact RetR.ret rfl hfin
