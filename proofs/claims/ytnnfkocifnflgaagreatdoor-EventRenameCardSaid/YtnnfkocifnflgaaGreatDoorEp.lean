/-
  What is sent in a trace, the moments of a session, those of some kinds: both tex
-/
import Derived.Test.YtnnfkocifnflgaaGreatDoorStSize
set_option maxHeartbeats 0
set_option maxRecDepth 100000
namespace Go.Vm.Seat
variable {t:Tm} {l:List Tm}
open Go.Proofs
theorem Zpq (k:Int) (nm:List UInt8) (s:Int) (b:Bool) (kz:List Tm) (w:List UInt8):∀ H,CallOk E0 Tryz.prog 125 [.agg [.int .i64 k,.str nm,.int .i64 s,slV b 4 (Za kz)],.str w] H (.bool (isF k nm w)) H:=by
 refine Jw tOk fe125.ok rfl ?_ (by simp [ZP,frzG,Xv,frz1])
 repeat' first|refine Jk ?_|refine Jt ?_|refine Jb ?_ ?_|refine Jo ?_|intro hb
 all_goals simp_all [isF]
theorem c35 (ht:t.Ok):∀ n:Int, -9223372036854775808≤n→n≤9223372036854775807→∀ H,CallOk E0 Tryz.prog 35 [.agg t.cells,.int .i64 n] H (.int .i64 (t.budget n)) H:=by
 induction ht with
 | @mk k nm s b kz hk hs hn hl hok ih=>
 intro n hn1 hn2
 refine Jw tOk fe35.ok rfl ?_ (by simp [ZP,frzG,Tm.cells,Xv,frz1])
 repeat' first|refine Jk ?_|refine Ji ?_|refine JJ ?_|refine Jl ?_|refine Jx ?_|refine Jt ?_|refine Jb ?_ ?_|refine Jo ?_|intro hb
 · refine Ze ?_
   simp at hb
   simp [Tm.budget,hb]
 · refine Ze ?_
   rename_i hb1
   simp at hb hb1
   have:40<nm.length:=by omega
   simp [Tm.budget,this]
 rename_i hb1
 simp at hb hb1
 have h40:¬ (n≤0∨40<nm.length):=by omega
 refine Wp.while (fun m tm H=>∃ i base x,i+m=kz.length∧0≤x∧x≤n∧Xg kz (n-1)=Xg (kz.drop i) x∧tm=ovr base [(2,.ptr 0 4 0 0),(1,.int .i64 x),(5,.int .i64 (i:Int))]∧H=⟨[.cells 4 [[.int .i64 k,.str nm,.int .i64 s,slV b 4 (Za kz)]]],0,[],0⟩)
  (fun m tm H hI=>?_) kz.length _ _ ⟨0,_,n-1,by omega,by omega,by omega,by simp,Zf ⟨rfl,Ze (IntWalk.i64_in _ (by omega)),rfl,trivial⟩,rfl⟩
 obtain ⟨i,base,x,hi,hx0,hxn,hbud,rfl,rfl⟩:=hI
 unfold maxLen at hl
 by_cases hlt:i<kz.length
 · obtain ⟨t', ht'⟩ : ∃ t', kz[i]? = some t' := ⟨kz[i], by simp⟩
   have hm:t'∈kz:=List.mem_of_getElem? ht'
   have hdr:=ZL ht'
   have hc:=ih t' hm x (by omega) (by omega)
   have hbe:=t'.budget_eq x
   obtain ⟨bx,hbx⟩:∃ bx,bx=t'.budget x:=⟨_,rfl⟩
   rw [← hbx] at hc hbe
   rw [hdr] at hbud
   simp only [Xg, ← hbx] at hbud
   obtain ⟨k',nm',s',b',kz'⟩:=t'
   have hj:=Zh ht'
   repeat' first|refine Jk ?_|refine Jc (hc _) ?_|refine Ji ?_|refine JJ ?_|refine Jl ?_|refine Jx ?_|refine Jt ?_|refine Jb ?_ ?_|refine Jo ?_|intro hb
   · refine Ze ?_
     rename_i hb2
     have hb:bx<0:=by simpa using hb
     simp only [Tm.budget,if_neg h40,hbud,if_pos hb]
   · have hb : ¬ bx < 0 := by simpa using hb
     rw [if_neg hb] at hbud
     refine LoopI.go (m-1) (by omega) ⟨i+1,_,bx,by omega,by omega,by have:=hbe (by omega);omega,hbud,Zf ⟨rfl,rfl,?_,trivial⟩,rfl⟩
     exact Ze (Zc (n:=i+1) (by omega))
   · rw [Zb] at hb;simp at hb;omega
 · have e : i = kz.length := by omega
   subst e
   repeat' first|refine Ji ?_|refine JJ ?_|refine Jl ?_|refine Jx ?_|refine Jt ?_|refine Jb ?_ ?_|refine Jo ?_|intro hb
   · rw [Zb] at hb;simp at hb
   · refine Ze ?_
     simp only [Tm.budget,if_neg h40,hbud]
     simp [Xg]
theorem c13 (hok : ∀ t, t ∈ l → t.Ok) (hl : l.length ≤ maxLen) (b : Bool) {n most : Int} (hm1 : -9223372036854775808 ≤ most) (hm2 : most ≤ 9223372036854775807) :
  ∀ H,CallOk E0 Tryz.prog 13 [slV b 4 (Za l),.int .i64 n,.int .i64 most] H (.bool (Zha l n most)) H:=by
 refine Jw tOk fe13.ok rfl ?_
 repeat' first|refine Ji ?_|refine JJ ?_|refine Jl ?_|refine Jx ?_|refine Jt ?_|refine Jb ?_ ?_|refine Jo ?_|intro hb
 · simp at hb
   rw [Zb] at hb
   simp [Zha,hb]
 rw [Zb] at hb
 simp at hb
 have hnl:¬ n<(l.length:Int):=by omega
 refine Wp.while (fun m tm H=>∃ i base x,i+m=l.length∧ -9223372036854775808≤x∧x≤9223372036854775807∧Zg5 l most=Zg5 (l.drop i) x∧tm=ovr base [(0,slV b 4 (Za l)),(2,.int .i64 x),(7,.int .i64 (i:Int))]∧H=⟨[],0,[],0⟩)
  (fun m tm H hI=>?_) l.length _ _ ⟨0,_,most,by omega,by omega,by omega,by simp,Zf ⟨rfl,rfl,rfl,trivial⟩,rfl⟩
 obtain ⟨i,base,x,hi,hx0,hxn,hbud,rfl,rfl⟩:=hI
 unfold maxLen at hl
 by_cases hlt:i<l.length
 · obtain ⟨t', ht'⟩ : ∃ t', l[i]? = some t' := ⟨l[i], by simp⟩
   have hm:t'∈l:=List.mem_of_getElem? ht'
   have hdr:=ZL ht'
   have hc:=c35 (hok t' hm) x (by omega) (by omega)
   have hbe:=t'.budget_eq x
   obtain ⟨bx,hbx⟩:∃ bx,bx=t'.budget x:=⟨_,rfl⟩
   rw [← hbx] at hc hbe
   rw [hdr] at hbud
   simp only [Zg5, ← hbx] at hbud
   obtain ⟨k',nm',s',b',kz'⟩:=t'
   have hj:=Zh ht'
   repeat' first|refine Jc (hc _) ?_|refine Ji ?_|refine JJ ?_|refine Jl ?_|refine Jx ?_|refine Jt ?_|refine Jb ?_ ?_|refine Jo ?_|intro hb
   · have hb : bx < 0 := by simpa using hb
     simp [Zha,hbud,if_pos hb]
   · have hb : ¬ bx < 0 := by simpa using hb
     rw [if_neg hb] at hbud
     refine LoopI.go (m-1) (by omega) ⟨i+1,_,bx,by omega,by omega,by have:=hbe (by omega);omega,hbud,Zf ⟨rfl,rfl,?_,trivial⟩,rfl⟩
     exact Ze (Zc (n:=i+1) (by omega))
   · rw [Zb] at hb;simp at hb;omega
 · have e : i = l.length := by omega
   subst e
   repeat' first|refine Ji ?_|refine JJ ?_|refine Jl ?_|refine Jx ?_|refine Jt ?_|refine Jb ?_ ?_|refine Jo ?_|intro hb
   · rw [Zb] at hb;simp at hb
   · simp [Zha,if_neg hnl,hbud,Zg5]
theorem ZnO (a:Int):∀ H,CallOk E0 Tryz.prog 73 [.int .i64 a,.int .i64 a] H (.int .i64 0) H:=by
 have h:=c73 a a
 simpa [Znj] using h
theorem ZpC (ht:t.Ok):t.size<4611686018427387904→∀ H,CallOk E0 Tryz.prog 41 [.agg t.cells,.agg t.cells] H (.int .i64 0) H:=by
 induction ht with
 | @mk k nm s b kz hk hs hn hl hok ih=>
 intro hsz
 have hsize:=c74 (Tm.Ok.mk (b:=b) hk hs hn hl hok) hsz
 obtain ⟨S,hS⟩:∃ S:Int,S=((Tm.mk k nm s b kz).size:Int):=⟨_,rfl⟩
 rw [← hS] at hsize
 refine Jw tOk fe41.ok rfl ?_
 repeat' first|refine Jc (hsize _) ?_|refine Jc (ZnO _ _) ?_|refine Ji ?_|refine JJ ?_|refine Jl ?_|refine Jx ?_|refine Jt ?_|refine Jb ?_ ?_|refine Jo ?_|refine Jd (hsize _) ?_|refine Jd (ZnO _ _) ?_|refine JD ?_|refine JK ?_|(apply dLn;rfl;rfl;rfl;rfl;rfl)|refine JI ?_|(apply dT (ty:=4);rfl;rfl;rfl;rfl)|(apply dF (ty:=4);rfl;rfl;rfl;rfl)|(apply dB (ty:=4);rfl;rfl;rfl;rfl)|refine Jh ?_|(apply Wp.draw tOk follows;kernel_rfl)|intro hb
 all_goals first
  | (exfalso;simp [YH] at hb;done)
  | skip
 refine Wp.while (fun m tm H=>∃ i base,i+m=kz.length∧tm=ovr base [(2,.ptr 0 4 0 0),(3,.ptr 1 4 0 0),(9,.int .i64 (i:Int))]∧H=⟨[.cells 4 [[.int .i64 k,.str nm,.int .i64 s,slV b 4 (Za kz)]],.cells 4 [[.int .i64 k,.str nm,.int .i64 s,slV b 4 (Za kz)]]],0,[],0⟩)
  (fun m tm H hI=>?_) kz.length _ _ ⟨0,_,by omega,Zf ⟨rfl,rfl,rfl,trivial⟩,rfl⟩
 obtain ⟨i,base,hi,rfl,rfl⟩:=hI
 simp only [Tm.size] at hsz
 unfold maxLen at hl
 by_cases hlt:i<kz.length
 · obtain ⟨t', ht'⟩ : ∃ t', kz[i]? = some t' := ⟨kz[i], by simp⟩
   have hm:t'∈kz:=List.mem_of_getElem? ht'
   have hle:=Xi hm
   have hc:=ih t' hm (by omega)
   obtain ⟨k',nm',s',b',kz'⟩:=t'
   have hj:=Zh ht'
   repeat' first|refine Jc (hc _) ?_|refine Ji ?_|refine JJ ?_|refine Jl ?_|refine Jx ?_|refine Jt ?_|refine Jb ?_ ?_|refine Jo ?_|refine Jd (hc _) ?_|refine JD ?_|refine JK ?_|(apply dLn;rfl;rfl;rfl;rfl;rfl)|refine JI ?_|(apply dT (ty:=4);rfl;rfl;rfl;rfl)|(apply dF (ty:=4);rfl;rfl;rfl;rfl)|(apply dB (ty:=4);rfl;rfl;rfl;rfl)|refine Jh ?_|(apply Wp.draw tOk follows;kernel_rfl)|intro hb
   · refine LoopI.go (m - 1) (by omega) ⟨i + 1, _, by omega, Zf ⟨rfl, rfl, ?_, trivial⟩, rfl⟩
     exact Ze (Zc (n:=i+1) (by omega))
   · rfl
 · have e : i = kz.length := by omega
   subst e
   repeat' first|refine Ji ?_|refine JJ ?_|refine Jl ?_|refine Jx ?_|refine Jt ?_|refine Jb ?_ ?_|refine Jo ?_|refine JD ?_|refine JK ?_|(apply dLn;rfl;rfl;rfl;rfl;rfl)|refine JI ?_|(apply dT (ty:=4);rfl;rfl;rfl;rfl)|(apply dF (ty:=4);rfl;rfl;rfl;rfl)|(apply dB (ty:=4);rfl;rfl;rfl;rfl)|refine Jh ?_|(apply Wp.draw tOk follows;kernel_rfl)|intro hb
   · rw [Zb] at hb;simp at hb
   · rfl
theorem Zpo (ht:t.Ok) (hsz:t.size<4611686018427387904):∀ H,CallOk E0 Tryz.prog 21 [.agg t.cells,.agg t.cells] H (.bool true) H:=by
 have hc:=ZpC ht hsz
 obtain ⟨k,nm,s,b,kz⟩:=t
 refine Jw tOk fe21.ok rfl ?_
 repeat' first|refine Jc (hc _) ?_|refine Jt ?_|refine Jb ?_ ?_|refine Jo ?_|intro hb
 all_goals rfl
theorem ZX {n m by_:Nat} (h:n+m≤10000000) (hb:by_≤1000000):Wg n m by_=true:=by
 simp only [Wg,Bool.and_eq_true,Nat.ble_eq]
 have:=Nat.mul_le_mul (show n+m+256≤10000256 by omega) hb
 omega
theorem YX:ApT E0 29 29 4 56:=⟨_,_,_,_,_,rfl,rfl,rfl,rfl,rfl,rfl,rfl,by decide,rfl⟩
theorem ZdU:ApT E0 22 22 6 80:=⟨_,_,_,_,_,rfl,rfl,rfl,rfl,rfl,rfl,rfl,by decide,rfl⟩
theorem ZU (l:List Tm):noB (Za l)=true:=by
 simp only [YS,noB,List.all_map,List.all_eq_true]
 rintro ⟨k,nm,s,b,kz⟩ _
 rfl
theorem Zcx (l:List Mo):noB (moC l)=true:=by
 simp only [moC,noB,List.all_map,List.all_eq_true]
 rintro ⟨⟩ _
 rfl
theorem ZdV (l:List Mo):(moC l).all (fun c=>c.all Z3)=true:=by
 simp only [moC,List.all_map,List.all_eq_true]
 intro m _
 exact m.cells_ok
theorem ZoN (hok : ∀ t, t ∈ l → t.Ok) (hsz : ∀ t, t ∈ l → t.size < 4611686018427387904) (hl : l.length ≤ maxLen) (b b' : Bool) :
  ∀ H,CallOk E0 Tryz.prog 14 [slV b 4 (Za l),slV b' 4 (Za l)] H (.bool true) H:=by
 refine Jw tOk fe14.ok rfl ?_
 repeat' first|refine Ji ?_|refine JJ ?_|refine Jl ?_|refine Jx ?_|refine Jt ?_|refine Jb ?_ ?_|refine Jo ?_|refine JD ?_|refine JK ?_|(apply dLn;rfl;rfl;rfl;rfl;rfl)|refine JI ?_|(apply dT (ty:=4);rfl;rfl;rfl;rfl)|(apply dF (ty:=4);rfl;rfl;rfl;rfl)|(apply dB (ty:=4);rfl;rfl;rfl;rfl)|refine Jh ?_|(apply Wp.draw tOk follows;kernel_rfl)|intro hb
 · exfalso;simp at hb
 refine Wp.while (fun m tm H=>∃ (i:Nat) (base:TM),i+m=l.length∧tm=ovr base [(0,slV b 4 (Za l)),(1,slV b' 4 (Za l)),(5,.int .i64 (i:Int))]∧H=hNil)
  (fun m tm H hI=>?_) l.length _ _ ⟨0,_,by omega,Zf ⟨rfl,rfl,rfl,trivial⟩,rfl⟩
 obtain ⟨i,base,hi,rfl,rfl⟩:=hI
 unfold maxLen at hl
 by_cases hlt:i<l.length
 · obtain ⟨t', ht'⟩ : ∃ t', l[i]? = some t' := ⟨l[i], by simp⟩
   have hm:t'∈l:=List.mem_of_getElem? ht'
   have hc:=Zpo (hok t' hm) (hsz t' hm)
   obtain ⟨k',nm',s',b2,kz'⟩:=t'
   have hj:=Zh ht'
   repeat' first|refine Jc (hc _) ?_|refine Ji ?_|refine JJ ?_|refine Jl ?_|refine Jx ?_|refine Jt ?_|refine Jb ?_ ?_|refine Jo ?_|refine Jd (hc _) ?_|refine JD ?_|refine JK ?_|(apply dLn;rfl;rfl;rfl;rfl;rfl)|refine JI ?_|(apply dT (ty:=4);rfl;rfl;rfl;rfl)|(apply dF (ty:=4);rfl;rfl;rfl;rfl)|(apply dB (ty:=4);rfl;rfl;rfl;rfl)|refine Jh ?_|(apply Wp.draw tOk follows;kernel_rfl)|intro hb
   · refine LoopI.go (m-1) (by omega) ⟨i+1,_,by omega,Zf ⟨rfl,rfl,Ze (Zc (n:=i+1) (by omega)),trivial⟩,rfl⟩
   · exfalso;rw [Zb] at hb;simp at hb<;>omega
 · have e : i = l.length := by omega
   subst e
   repeat' first|refine Ji ?_|refine JJ ?_|refine Jl ?_|refine Jx ?_|refine Jt ?_|refine Jb ?_ ?_|refine Jo ?_|refine JD ?_|refine JK ?_|(apply dLn;rfl;rfl;rfl;rfl;rfl)|refine JI ?_|(apply dT (ty:=4);rfl;rfl;rfl;rfl)|(apply dF (ty:=4);rfl;rfl;rfl;rfl)|(apply dB (ty:=4);rfl;rfl;rfl;rfl)|refine Jh ?_|(apply Wp.draw tOk follows;kernel_rfl)|intro hb
   · rw [Zb] at hb;simp at hb
   · rfl
theorem c8 {l : List Mo} (hl : l.length ≤ 1000) (b : Bool) :
  ∀ H,CallOk E0 Tryz.prog 8 [slV b 6 (moC l)] H (slV b 6 (moC l)) H:=by
 refine Jw tOk fe8.ok (Zv _ _ _ _ _) ?_
 obtain ⟨out',lv',nt',hap,hA, -⟩:=(ApV.full (es:=6) [] [] 0 (rfl:false=false) rfl).app ZdU (.slV b 6 (moC l)) (ZdV l) (ZX (by simp [YA];omega) (by decide)) (Zcx l)
 cases hL:moC l with
 | nil =>
   rw [hL] at hap hA
   cases b with
   | true =>
     rw [Zk] at hap ⊢
     repeat' first|refine Js ?_|refine JA ?_|refine Jt ?_|refine Jb ?_ ?_|refine Jo ?_|intro hb
     all_goals rfl
   | false =>
     rw [Zq] at hap ⊢
     repeat' first|refine Js ?_|refine JA ?_|refine Jt ?_|refine Jb ?_ ?_|refine Jo ?_|intro hb
     first
      | exact hA.frz3 _ _
      | exact (hA.frz3 _ _).trans (by rw [List.append_nil,Zq])
 | cons c r =>
   rw [hL,Zp] at hap
   rw [hL] at hA
   rw [Zp]
   repeat' first|refine Js ?_|refine JA ?_|refine Jt ?_|refine Jb ?_ ?_|refine Jo ?_|intro hb
   rw [← Zp false]
   exact hA.frz3 _ _
theorem Zfs (kd nu ro:Int) (an:Bool) (ag:List Zhw) (go:Int) (tn:Bool) (te:List Tm):moC [⟨kd,nu,ro,an,ag,go,tn,te⟩]= [[.int .i64 kd,.int .i64 nu,.int .i64 ro,slV an 1 (Xk ag),.int .i64 go,slV tn 4 (Za te)]]:=rfl
