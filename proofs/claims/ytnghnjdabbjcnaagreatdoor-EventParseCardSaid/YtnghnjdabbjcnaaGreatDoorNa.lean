/-
  Sums: two lists are merged, the summands of a term are found (the program's text
-/
import Derived.Test.YtnghnjdabbjcnaaGreatDoorTv
import Derived.Test.YtnghnjdabbjcnaaGreatDoorFi
set_option maxHeartbeats 0
set_option maxRecDepth 100000
namespace Go.Vm.Seat
variable {t:Tm} {a b:Int} {L l l':List Tm} {out:PV} {lv:List Nat} {nt:Nat}
open Go.Proofs
theorem Zcm (k:Int) (nm:List UInt8) (s:Int) (b:Bool) (kz:List Tm):Wm [.int .i64 k,.str nm,.int .i64 s,slV b 4 (Za kz)]=some [.int .i64 k,.str nm,.int .i64 s,slV b 4 (Za kz)]:=by simp only[Wm,ZM];rfl
theorem d74 (a b:Int):∀H,CallOk E1 Tryz.prog 74 [.int .i64 a,.int .i64 b] H (.int .i64 (WO a b)) H:=by
 refine Jw ZgX fe74.ok rfl ?_;repeat' first|refine Jt ?_|refine Jb ?_ ?_|refine Jo ?_|intro hb
 all_goals (refine Zg ?_;simp[WO]at *;try omega)
theorem ZrD (a b:Int):∀H,CallOk E1 Tryz.prog 139 [.int .i64 a,.int .i64 b] H (.int .i64 (WO a b)) H:=by
 refine Jw ZgX fe139.ok rfl ?_;repeat' first|refine Jb ?_ ?_|refine Jo ?_|intro hb
 all_goals (refine Zg ?_;simp[WO]at *;try omega)
theorem Zu0 (a b:List UInt8):∀H,CallOk E1 Tryz.prog 153 [.str a,.str b] H (.int .i64 (QU a b)) H:=fun H=>by
 have:=(Zq9 [.str a,.str b] H _ _ rfl).1
 rwa [Vw]at this
theorem ZwT (a b:List UInt8):∀H,CallOk E1 Tryz.prog 114 [.str a,.str b] H (.int .i64 (QU a b)) H:=by
 have hc:=Zu0 a b;refine Jw ZgX fe114.ok rfl ?_;repeat' first|refine Jc (hc _) ?_|refine Jo ?_|fail
 all_goals rfl
theorem d76 (a b:List UInt8):∀H,CallOk E1 Tryz.prog 76 [.str a,.str b] H (.int .i64 (QU a b)) H:=by
 have hc:=ZwT a b;refine Jw ZgX fe76.ok rfl ?_;repeat' first|refine Jc (hc _) ?_|refine Jo ?_|fail
 all_goals rfl
theorem ZuF (ht:t.Ok):t.size<4611686018427387904→∀H,CallOk E1 Tryz.prog 140 [.agg t.cells] H (.int .i64 (t.size:Int)) H:=by
 induction ht with
 | @mk k nm s b kz hk hs hn hl hok ih=>
 intro hsz;refine Jw ZgX fe140.ok rfl ?_ (by simp[ZG,frzG,Tm.cells,Zcm]);repeat' first|refine Jo ?_|fail
 refine Wp.while (fun m tm H=>∃i base,i+m=kz.length∧tm=ovr base [(1,.ptr 0 4 0 0),(3,.int .i64 ((1+Zm (kz.take i):Nat):Int)),(4,.int .i64 (i:Int))]∧H=⟨[.cells 4 [[.int .i64 k,.str nm,.int .i64 s,slV b 4 (Za kz)]]],0,[],0⟩)
  (fun m tm H hI=>?_) kz.length _ _ ⟨0,_,by omega,Zd ⟨rfl,rfl,rfl,trivial⟩,rfl⟩
 obtain⟨i,base,hi,rfl,rfl⟩:=hI;simp only[Tm.size]at hsz;unfold maxLen at hl;by_cases hlt:i<kz.length
 ·obtain⟨t',ht'⟩:∃t',kz[i]? = some t':=⟨kz[i],by simp⟩;have hm:t'∈kz:=List.mem_of_getElem? ht';have hle:=Xq hm;have hst:=WJ ht';have hsl:=ZD kz (i+1);have hc:=ih t' hm (by omega);obtain⟨k',nm',s',b',kz'⟩:=t';have hj:=Zk ht';repeat' first|refine Jc (hc _) ?_|refine Ku ?_|refine Jb ?_ ?_|refine Jo ?_|intro hb
  {refine LoopI.go (m-1) (by omega) ⟨i+1,_,by omega,Zd ⟨rfl,?_,?_,trivial⟩,rfl⟩;{refine Zg ?_;rw[hst, ← Nat.add_assoc,Int.natCast_add (1+Zm (kz.take i)), ← Int.natCast_add];exact Ze (by omega)};{exact Zg (Ze (n:=i+1) (by omega))}};{exfalso;rw[Zb]at hb;simp at hb<;>omega}
 ·have e:i=kz.length:=by omega
  subst e;repeat' first|refine Jl ?_|refine Jb ?_ ?_|refine Jo ?_|intro hb
  {exfalso;rw[Zb]at hb;simp at hb};{simp[Tm.size]}
theorem d75 (ht:t.Ok):t.size<4611686018427387904→∀H,CallOk E1 Tryz.prog 75 [.agg t.cells] H (.int .i64 (t.size:Int)) H:=by
 induction ht with
 | @mk k nm s b kz hk hs hn hl hok ih=>
 intro hsz;refine Jw ZgX fe75.ok rfl ?_ (by simp[ZG,frzG,Tm.cells,Zcm]);repeat' first|refine KS ?_|fail
 refine Wp.while (fun m tm H=>∃(i:Nat),∃base,i+m=kz.length∧tm=ovr base [(3,.int .i64 ((1+Zm (kz.take i):Nat):Int)),(7,slV b 4 (Za kz)),(8,.int .i64 (kz.length:Int)),(9,.int .i64 (i:Int))]∧H=⟨[.cells 4 [[.int .i64 k,.str nm,.int .i64 s,slV b 4 (Za kz)]]],0,[],0⟩)
  (fun m tm H hI=>Wp.drop ?_) kz.length _ _ ⟨0,_,by omega,Zd ⟨rfl,rfl,Zg (by rw[Zb]),rfl,trivial⟩,rfl⟩
 obtain⟨i,base,hi,rfl,rfl⟩:=hI;simp only[Tm.size]at hsz;unfold maxLen at hl;by_cases hlt:i<kz.length
 ·obtain⟨t',ht'⟩:∃t',kz[i]? = some t':=⟨kz[i],by simp⟩;have hm:t'∈kz:=List.mem_of_getElem? ht';have hle:=Xq hm;have hst:=WJ ht';have hsl:=ZD kz (i+1);have hc:=ih t' hm (by omega);obtain⟨k',nm',s',b',kz'⟩:=t';have hj:=Zk ht';repeat' first|refine Jc (hc _) ?_|refine Jx ?_|refine Jz ?_ ?_|refine Jo ?_|intro hb
  ·refine DropQ.go [(3, .int .i64 ((1 + Zm (kz.take (i + 1)) : Nat) : Int)), (7, slV b 4 (Za kz)), (8, .int .i64 (kz.length : Int)), (9, .int .i64 ((i + 1 : Nat) : Int))] ⟨?_, rfl, rfl, Zg (Ze (n := i + 1) (by omega)), trivial⟩
     (by simp[Zl,under]) rfl (by simp[Ys,ZC,Zl,under]) (LoopI.go (m-1) (by omega) ⟨i+1,_,by omega,rfl,rfl⟩)
   refine Zg ?_;rw[hst, ← Nat.add_assoc,Int.natCast_add (1+Zm (kz.take i)), ← Int.natCast_add];exact Ze (by omega)
  {exfalso;simp at hb<;>omega}
 ·have e:i=kz.length:=by omega
  subst e;repeat' first|refine Jz ?_ ?_|refine Jo ?_|intro hb
  {exfalso;simp at hb};{simp[Tm.size]}
theorem ZgV (k:Int) (nm:List UInt8) (s:Int) (b:Bool) (l:List Tm):((Tm.mk k nm s b l).size:Int)=((1+Zm l:Nat):Int):=by simp[Tm.size]
theorem ZpV (h:a≠0):thn a b=a:=if_pos h
theorem WU (h:a=0):thn a b=b:=if_neg (by simpa using h)
theorem Zdt {i:Nat} {a b:Tm} (h:l[i]? = some a) (h':l'[i]? = some b):VY (l.drop i) (l'.drop i)=thn (a.cmp b) (VY (l.drop (i+1)) (l'.drop (i+1))):=by rw[ZB h,ZB h'];simp only[VY]
theorem cmpL_end:VY (l.drop l.length) (l'.drop l.length)=0:=by simp[VY]
theorem d92:∀{t u:Tm},t.Ok→u.Ok→t.size<4611686018427387904→u.size<4611686018427387904→∀H,CallOk E1 Tryz.prog 92 [.agg t.cells,.agg u.cells] H (.int .i64 (t.cmp u)) H:=by
 intro t u ht;induction ht generalizing u with
 | @mk k nm s b kz hk hs hn hl hok ih=>
 intro hu hsz hsz2;have hu0:=hu;cases hu with
 | @mk k2 nm2 s2 b2 kz2 hk2 hs2 hn2 hl2 hok2=>
 have hsize:=ZuF (Tm.Ok.mk (b:=b) hk hs hn hl hok) hsz;have hsize2:=ZuF (Tm.Ok.mk (b:=b2) hk2 hs2 hn2 hl2 hok2) hsz2;rw[ZgV]at hsize hsize2;have hc1:=ZrD ((1+Zm kz:Nat):Int) ((1+Zm kz2:Nat):Int);have hc2:=ZrD k k2;have hc4:=ZrD s s2;have hc5:=ZrD (kz.length:Int) (kz2.length:Int);have hcmp:(Tm.mk k nm s b kz).cmp (Tm.mk k2 nm2 s2 b2 kz2)=thn (WO ((1+Zm kz:Nat):Int) ((1+Zm kz2:Nat):Int)) (thn (WO k k2) (thn (QU nm nm2) (thn (WO s s2) (thn (WO (kz.length:Int) (kz2.length:Int)) (VY kz kz2))))):=by simp only[Tm.cmp]
 rw[hcmp];generalize WO ((1+Zm kz:Nat):Int) ((1+Zm kz2:Nat):Int)=x1 at hc1 ⊢;generalize WO k k2=x2 at hc2 ⊢;generalize WO s s2=x4 at hc4 ⊢;obtain⟨x5,hx5⟩:∃x5,x5=WO (kz.length:Int) (kz2.length:Int):=⟨_,rfl⟩;rw[← hx5]at hc5 ⊢;rw[← Zb kz, ← Zb kz2]at hc5;refine Jw ZgX fe92.ok rfl ?_ (by simp[ZG,frzG,Tm.cells,Zcm]);repeat' first|(apply qCl;rfl;rfl;rfl;rfl;first|exact hc2 _|exact hc4 _|exact hc5 _)|refine Jl ?_|refine Jb ?_ ?_|refine Jo ?_|(apply dCl;rfl;rfl;rfl;rfl;rfl;first|exact hsize _|exact hsize2 _|exact hc1 _)|refine Jh ?_|(apply Wp.draw ZgX follows;kernel_rfl)|intro hb
 all_goals first
  | (refine Zg ?_;clear hsize hsize2 hc1 hc2 hc4 hc5 ih hok hok2 hcmp hx5 hu0;simp_all[thn,QU];done)
  | skip
 have hb5:x5=0:=by simpa using hb
 have h5:kz.length=kz2.length:=by have:=WK (hx5.symm.trans hb5);omega
 have hx:thn x1 (thn x2 (thn (QU nm nm2) (thn x4 (thn x5 (VY kz kz2)))))=VY kz kz2:=by clear hsize hsize2 hc1 hc2 hc4 hc5 ih hok hok2 hcmp hx5 hu0;simp_all[thn,QU]
 rw[hx];clear hsize hsize2 hc1 hc2 hc4 hc5 hcmp hu0;refine Wp.while (fun m tm H=>∃(i:Nat),∃base,i+m=kz.length∧VY kz kz2=VY (kz.drop i) (kz2.drop i)∧tm=ovr base [(2,.ptr 0 4 0 0),(3,.ptr 1 4 0 0),(9,.int .i64 (i:Int))]∧H=⟨[.cells 4 [[.int .i64 k,.str nm,.int .i64 s,slV b 4 (Za kz)]],.cells 4 [[.int .i64 k2,.str nm2,.int .i64 s2,slV b2 4 (Za kz2)]]],0,[],0⟩)
  (fun m tm H hI=>?_) kz.length _ _ ⟨0,_,by omega,by simp,Zd ⟨rfl,rfl,rfl,trivial⟩,rfl⟩
 obtain⟨i,base,hi,hcm,rfl,rfl⟩:=hI;rw[hcm];unfold maxLen at hl;by_cases hlt:i<kz.length
 ·obtain⟨t',ht'⟩:∃t',kz[i]? = some t':=⟨kz[i],by simp⟩;obtain⟨u',hu'⟩:∃u',kz2[i]? = some u':=⟨kz2[i]'(by omega),by simp⟩;have hm:t'∈kz:=List.mem_of_getElem? ht';have hm2:u'∈kz2:=List.mem_of_getElem? hu';simp only[Tm.size]at hsz hsz2;have hle:=Xq hm;have hle2:=Xq hm2;have hc:=ih t' hm (hok2 u' hm2) (by omega) (by omega);have hdr:=Zdt ht' hu';obtain⟨y,hy⟩:∃y,y=t'.cmp u':=⟨_,rfl⟩;rw[← hy]at hc hdr;rw[hdr];obtain⟨k',nm',s',b',kz'⟩:=t';obtain⟨k2',nm2',s2',b2',kz2'⟩:=u';have hj:=Zk ht';have hj2:=Zk hu';repeat' first|refine Jl ?_|refine Jb ?_ ?_|refine Jo ?_|refine Jd (hc _) ?_|refine JI ?_|refine Jh ?_|(apply Wp.draw ZgX follows;kernel_rfl)|intro hb
  {refine Zg ?_;rw[ZpV (by simpa using hb)]};{(have hy0:y=0:=by simpa using hb);refine LoopI.go (m-1) (by omega) ⟨i+1,_,by omega,by rw[WU hy0],Zd ⟨rfl,rfl,?_,trivial⟩,rfl⟩;exact Zg (Ze (n:=i+1) (by omega))};all_goals (exfalso;rw[Zb]at hb;simp at hb;omega)
 ·have e:i=kz.length:=by omega
  subst e;repeat' first|refine Jl ?_|refine Jb ?_ ?_|refine Jo ?_|refine Jh ?_|(apply Wp.draw ZgX follows;kernel_rfl)|intro hb
  {exfalso;rw[Zb]at hb;simp at hb};{exact Zg cmpL_end.symm}
theorem QG (a b:Int):WO a b=0∨WO a b= -1∨WO a b=1:=by simp only[WO];split;{simp};{split<;>simp}
theorem ZmM (a b:List UInt8):QU a b=0∨QU a b= -1∨QU a b=1:=by simp only[QU];split;{simp};{split<;>simp}
theorem Zho (h:a=0∨a= -1∨a=1) (h':b=0∨b= -1∨b=1):thn a b=0∨thn a b= -1∨thn a b=1:=by unfold thn;split<;>assumption
mutual
theorem ZqP:∀t u:Tm,t.cmp u=0∨t.cmp u= -1∨t.cmp u=1
 | .mk k nm s b l,.mk k' nm' s' b' l'=>by simp only[Tm.cmp];exact Zho (QG _ _) (Zho (QG _ _) (Zho (ZmM _ _) (Zho (QG _ _) (Zho (QG _ _) (Zmz l l')))))
theorem Zmz:∀l l':List Tm,VY l l'=0∨VY l l'= -1∨VY l l'=1
 | [],_=>by simp[VY]
 |_::_,[]=>by simp[VY]
 |a::r,b::r'=>by simp only[VY];exact Zho (ZqP a b) (Zmz r r')
end
theorem d35:∀{t u:Tm},t.Ok→u.Ok→t.size<4611686018427387904→u.size<4611686018427387904→∀H,CallOk E1 Tryz.prog 35 [.agg t.cells,.agg u.cells] H (.int .i64 (t.cmp u)) H:=by
 intro t u ht;induction ht generalizing u with
 | @mk k nm s b kz hk hs hn hl hok ih=>
 intro hu hsz hsz2;cases hu with
 | @mk k2 nm2 s2 b2 kz2 hk2 hs2 hn2 hl2 hok2=>
 have hsize:=d75 (Tm.Ok.mk (b:=b) hk hs hn hl hok) hsz;have hsize2:=d75 (Tm.Ok.mk (b:=b2) hk2 hs2 hn2 hl2 hok2) hsz2;rw[ZgV]at hsize hsize2;have hc1:=d74 ((1+Zm kz:Nat):Int) ((1+Zm kz2:Nat):Int);have hc2:=d74 k k2;have hc3:=d76 nm nm2;have hc4:=d74 s s2;have hc5:=d74 (kz.length:Int) (kz2.length:Int);have hcmp:(Tm.mk k nm s b kz).cmp (Tm.mk k2 nm2 s2 b2 kz2)=thn (WO ((1+Zm kz:Nat):Int) ((1+Zm kz2:Nat):Int)) (thn (WO k k2) (thn (QU nm nm2) (thn (WO s s2) (thn (WO (kz.length:Int) (kz2.length:Int)) (VY kz kz2))))):=by simp only[Tm.cmp]
 rw[hcmp];clear hcmp;have v1:=QG ((1+Zm kz:Nat):Int) ((1+Zm kz2:Nat):Int);have v2:=QG k k2;have v3:=ZmM nm nm2;have v4:=QG s s2;have v5:=QG (kz.length:Int) (kz2.length:Int);generalize WO ((1+Zm kz:Nat):Int) ((1+Zm kz2:Nat):Int)=x1 at hc1 v1 ⊢;generalize WO k k2=x2 at hc2 v2 ⊢;generalize QU nm nm2=x3 at hc3 v3 ⊢;generalize WO s s2=x4 at hc4 v4 ⊢;obtain⟨x5,hx5⟩:∃x5,x5=WO (kz.length:Int) (kz2.length:Int):=⟨_,rfl⟩;rw[← hx5]at hc5 v5 ⊢;rw[← Zb kz, ← Zb kz2]at hc5;refine Jw ZgX fe35.ok rfl ?_ (by simp[ZG,frzG,Tm.cells,Zcm]);obtain⟨G,hG⟩:∃G,G=thn x1 (thn x2 (thn x3 (thn x4 (thn x5 (VY kz kz2))))):=⟨_,rfl⟩;rw[← hG];have hlen:x5=0→kz.length=kz2.length:=fun h=>by have:=WK (hx5.symm.trans h);omega
 clear hx5;rcases v1 with rfl|rfl|rfl;rcases v2 with rfl|rfl|rfl;rcases v3 with rfl|rfl|rfl;rcases v4 with rfl|rfl|rfl;rcases v5 with rfl|rfl|rfl;all_goals
  repeat' first|(apply qCl;rfl;rfl;rfl;rfl;first|exact hc2 _|exact hc3 _|exact hc4 _|exact hc5 _)|refine KO ?_|(apply dCl;rfl;rfl;rfl;rfl;rfl;first|exact hsize _|exact hsize2 _|exact hc1 _)|refine Jh ?_|(apply Wp.draw ZgX follows;kernel_rfl)|fail
  refine Wp.while (fun m tm H=>∃(i:Nat),∃base,∃y:Int,i+m=kz.length∧(y=0∨y= -1∨y=1)∧(y=0→kz.length=kz2.length)∧G=thn y (VY (kz.drop i) (kz2.drop i))∧tm=ovr base [(2,.ptr 0 4 0 0),(3,.ptr 1 4 0 0),(5,.int .i64 y),(6,.int .i64 (i:Int))]∧H=⟨[.cells 4 [[.int .i64 k,.str nm,.int .i64 s,slV b 4 (Za kz)]],.cells 4 [[.int .i64 k2,.str nm2,.int .i64 s2,slV b2 4 (Za kz2)]]],0,[],0⟩)
   (fun m tm H hI=>?_) kz.length _ _ ⟨0,_,_,by omega,by omega,by first|exact hlen|(intro h;simp at h),by simp[hG,thn],Zd ⟨rfl,rfl,rfl,rfl,trivial⟩,rfl⟩
  clear hG hsize hsize2 hc1 hc2 hc3 hc4 hc5 hlen
  obtain⟨i,base,y,hi,hy,hyl,hG,rfl,rfl⟩:=hI
  unfold maxLen at hl
  rcases hy with rfl|hy
  · have h5 := hyl rfl
    rw[WU rfl]at hG
    by_cases hlt:i<kz.length
    · obtain⟨t', ht'⟩ : ∃t', kz[i]? = some t' := ⟨kz[i], by simp⟩
      obtain⟨u',hu'⟩:∃u',kz2[i]? = some u':=⟨kz2[i]'(by omega),by simp⟩
      have hm:t'∈kz:=List.mem_of_getElem? ht'
      have hm2:u'∈kz2:=List.mem_of_getElem? hu'
      simp only[Tm.size]at hsz hsz2
      have hle:=Xq hm
      have hle2:=Xq hm2
      have hc:=ih t' hm (hok2 u' hm2) (by omega) (by omega)
      have hdr:=Zdt ht' hu'
      have h3:=ZqP t' u'
      obtain⟨z,hz⟩:∃z,z=t'.cmp u':=⟨_,rfl⟩
      rw[← hz]at hc hdr h3
      obtain⟨k',nm',s',b',kz'⟩:=t'
      obtain⟨k2',nm2',s2',b2',kz2'⟩:=u'
      have hj:=Zk ht'
      have hj2:=Zk hu'
      repeat' first|refine Ky ?_|refine Jb ?_ ?_|refine Jo ?_|refine Jd (hc _) ?_|refine JI ?_|refine Jh ?_|(apply Wp.draw ZgX follows;kernel_rfl)|intro hb
      · refine LoopI.go (m - 1) (by omega) ⟨i + 1, _, z, by omega, h3, fun _ => h5, hG.trans hdr, Zd ⟨rfl, rfl, rfl, ?_, trivial⟩, rfl⟩
        exact Zg (Ze (n:=i+1) (by omega))
      · exfalso;rw[Zb]at hb;simp at hb;omega
    · have e : i = kz.length := by omega
      subst e
      repeat' first|refine Ky ?_|refine Jb ?_ ?_|refine Jo ?_|refine Jh ?_|(apply Wp.draw ZgX follows;kernel_rfl)|intro hb
      · exfalso;rw[Zb]at hb;simp at hb
      · exact Zg (by rw[hG];exact cmpL_end.symm)
  · rcases hy with rfl | rfl
    ·
      repeat' first|refine Jk ?_|refine Ka ?_|fail
      exact Zg hG.symm
    ·
      repeat' first|refine Jk ?_|refine Ka ?_|fail
      exact Zg hG.symm
theorem ZQ {n m by_:Nat} (h:n+m≤10000000) (hb:by_≤1000000):Uj n m by_=true:=by simp only[Uj,Bool.and_eq_true,Nat.ble_eq];have:=Nat.mul_le_mul (show n+m+256≤10000256 by omega) hb;omega
theorem YD:ApT E0 30 30 4 56:=⟨_,_,_,_,_,rfl,rfl,rfl,rfl,rfl,rfl,rfl,by decide,rfl⟩
theorem Zng:ApT E0 22 22 6 80:=⟨_,_,_,_,_,rfl,rfl,rfl,rfl,rfl,rfl,rfl,by decide,rfl⟩
theorem Yd (l:List Tm):noB (Za l)=true:=by simp only[Yv,noB,List.all_map,List.all_eq_true];rintro⟨k,nm,s,b,kz⟩ _;rfl
theorem Zjs (l:List Mo):noB (moC l)=true:=by simp only[moC,noB,List.all_map,List.all_eq_true];rintro⟨⟩ _;rfl
theorem Zm3 (l:List Mo):(moC l).all (fun c=>c.all ZP)=true:=by simp only[moC,List.all_map,List.all_eq_true];intro m _;exact m.cells_ok
theorem Zv6 (hok:∀t,t∈l→t.Ok) (hsz:∀t,t∈l→t.size<4611686018427387904) (hl:l.length≤maxLen) (b b':Bool):∀H,CO 26 [slV b 4 (Za l),slV b' 4 (Za l)] H (.bool true) H:=by
 refine Jw tOk fe26.ok rfl ?_;repeat' first|refine KT ?_|refine Jb ?_ ?_|refine Jo ?_|refine KU ?_|(apply dB (ty:=4);rfl;rfl;rfl;rfl)|refine Kb ?_|intro hb
 {exfalso;simp at hb};refine Wp.while (fun m tm H=>∃(i:Nat) (base:TM),i+m=l.length∧tm=ovr base [(0,slV b 4 (Za l)),(1,slV b' 4 (Za l)),(5,.int .i64 (i:Int))]∧H=hNil)
  (fun m tm H hI=>?_) l.length _ _ ⟨0,_,by omega,Zd ⟨rfl,rfl,rfl,trivial⟩,rfl⟩
 obtain⟨i,base,hi,rfl,rfl⟩:=hI;unfold maxLen at hl;by_cases hlt:i<l.length
 ·obtain⟨t',ht'⟩:∃t',l[i]? = some t':=⟨l[i],by simp⟩;have hm:t'∈l:=List.mem_of_getElem? ht';have hc:=ZwH (hok t' hm) (hsz t' hm);obtain⟨k',nm',s',b2,kz'⟩:=t';have hj:=Zk ht';repeat' first|refine Jc (hc _) ?_|refine KT ?_|refine Jb ?_ ?_|refine Jo ?_|refine Jd (hc _) ?_|refine KU ?_|(apply dB (ty:=4);rfl;rfl;rfl;rfl)|refine Kb ?_|intro hb
  {refine LoopI.go (m-1) (by omega) ⟨i+1,_,by omega,Zd ⟨rfl,rfl,Zg (Ze (n:=i+1) (by omega)),trivial⟩,rfl⟩};{exfalso;rw[Zb]at hb;simp at hb<;>omega}
 ·have e:i=l.length:=by omega
  subst e;repeat' first|refine KT ?_|refine Jb ?_ ?_|refine Jo ?_|refine KU ?_|(apply dB (ty:=4);rfl;rfl;rfl;rfl)|refine Kb ?_|intro hb
  {rw[Zb]at hb;simp at hb};{rfl}
theorem ZqB (c:List PV) (r:List (List PV)):Z1 E0 30 (.sl .none 4 (c::r)) (some (.int .i64 1)) none none=some (.sl .none 4 r):=by
 have e1:E0.T 30=some ⟨.slice 39,1,24,.nils⟩:=by kernel_rfl
 have e2:E0.T 39=some ⟨.struct [(0,3),(1,9),(2,3),(3,30)],4,56,.agg [.int .i64 0,.str [],.int .i64 0,.nils]⟩:=by kernel_rfl
 have h1:nat? (.int .i64 1)=some 1:=rfl;simp only[Z1,e1,e2,if_true,ZcK,XS,h1,ZcZ,ite_self];rw[if_pos (by simp)];simp
theorem ZrO {u:Tm} (ht:t.Ok∧t.size≤100000) (hu:u.Ok∧u.size≤100000):∀H,CO 35 [.agg t.cells,.agg u.cells] H (.int .i64 (t.cmp u)) H:=fun H=>
 Zpz (d35 ht.1 hu.1 (by have:=ht.2;omega) (by have:=hu.2;omega) H)
theorem ZeB (hA:ApV true 4 (Za L) out lv nt) (x:Tm) (hL:L.length≤1000000):∃out' lv' nt',(∀bx ro,ZL E0 30 30 out (.sl .full 4 [x.cells]) ⟨bx,ro,lv,nt⟩=some (out',⟨bx,ro,lv',nt'⟩))∧ApV true 4 (Za (L++ [x])) out' lv' nt':=by obtain⟨out',lv',nt',hap,hA', -⟩:=hA.app YD (.sl .full 4 (Za [x])) (Zs _) (ZQ (by simp only[Zb,List.length_cons,List.length_nil];omega) (by decide)) (Yd _);rw[← Zt]at hA';exact⟨out',lv',nt',hap,hA'⟩
theorem Zmj (hA:ApV true 4 (Za L) out lv nt) (M:List Tm) (b:Bool) (hL:L.length+M.length≤1000000):∃out' lv' nt',(∀bx ro,ZL E0 30 30 out (slV b 4 (Za M)) ⟨bx,ro,lv,nt⟩=some (out',⟨bx,ro,lv',nt'⟩))∧ApV true 4 (Za (L++M)) out' lv' nt':=by obtain⟨out',lv',nt',hap,hA', -⟩:=hA.app YD (.slV b 4 (Za M)) (Zs _) (ZQ (by simp only[Zb];omega) (by decide)) (Yd _);rw[← Zt]at hA';exact⟨out',lv',nt',hap,hA'⟩
theorem Zuy {a b:List Tm} (ha:SmL a) (hb':SmL b) (hl:a.length+b.length≤1000000) (ba bb:Bool):∀H,CO 219 [slV ba 4 (Za a),slV bb 4 (Za b)] H (slV true 4 (Za (Yh a b))) H:=by
 refine Jw tOk fe219.ok (ZJ _ _ _ _ _) ?_;repeat' first|refine Jo ?_|fail
 refine Wp.while (fun m tm H => ∃(x y d : List Tm) (b1 b2 : Bool) (base : TM) (out : PV) (lv : List Nat) (nt : Nat), x.length + y.length = m ∧ d.length + m ≤ 1000000 ∧ SmL x ∧ SmL y ∧ Yh a b = d ++ Yh x y ∧ ApV true 4 (Za d) out lv nt ∧
   tm=ovr base [(5,out),(0,slV b1 4 (Za x)),(1,slV b2 4 (Za y))]∧H=⟨[],0,lv,nt⟩)
  (fun m tm H hI=>Wp.drop ?_) (a.length+b.length) _ _ ⟨a,b,[],ba,bb,_,_,_,_,rfl,by simpa using hl,ha,hb',by simp,.nil _ _ rfl,Zd ⟨rfl,rfl,rfl,trivial⟩,rfl⟩
 clear ha hb' hl;obtain⟨x,y,d,b1,b2,base,out,lv,nt,hm,hd,hx,hy,hp,hA,rfl,rfl⟩:=hI;match x,y,hx,hy,hm,hp with
 | [],y,hx,hy,hm,hp=>
  obtain⟨o1,lv1,nt1,hap1,hA1⟩:=Zmj hA [] b1 (by simp at hm ⊢;omega);obtain⟨o2,lv2,nt2,hap2,hA2⟩:=Zmj hA1 y b2 (by simp at hm ⊢;omega);rw[Yh]at hp;rw[hp];rw[List.append_nil]at hA2;cases b1;all_goals
   repeat' first|refine Jk ?_|refine JA ?_|refine KO ?_|fail
   exact hA2.frz3 _ _
 |x::xr,[],hx,hy,hm,hp=>
  obtain⟨o1,lv1,nt1,hap1,hA1⟩:=Zmj hA (x::xr) b1 (by simp at hm ⊢;omega);obtain⟨o2,lv2,nt2,hap2,hA2⟩:=Zmj hA1 [] b2 (by simp at hm ⊢;omega);rw[Yh]at hp;rw[hp];rw[List.append_nil]at hA2;cases b2;all_goals
   repeat' first|refine Jk ?_|refine JA ?_|refine Ky ?_|refine Jb ?_ ?_|refine Jo ?_|intro hb
   all_goals first
    | exact hA2.frz3 _ _
    | (exfalso;simp at hb<;>omega)
 |x::xr,y::yr,hx,hy,hm,hp=>
  have hc:=ZrO hx.head hy.head;obtain⟨o1,lv1,nt1,hap1,hA1⟩:=ZeB hA x (by omega);obtain⟨o2,lv2,nt2,hap2,hA2⟩:=ZeB hA y (by omega);rw[Yh]at hp;have hl1:(d++ [x]).length=d.length+1:=by simp
  have hl2:(d++ [y]).length=d.length+1:=by simp
  generalize hcc:x.cmp y=c at hc hp;have ex:slV b1 4 (Za (x::xr))= .sl .none 4 (x.cells::Za xr):=Zr _ _ _ _;have ey:slV b2 4 (Za (y::yr))= .sl .none 4 (y.cells::Za yr):=Zr _ _ _ _;rw[ex,ey];clear hcc ex ey;simp only[List.length_cons]at hm;obtain⟨k1,n1,s1,f1,l1⟩:=x;obtain⟨k2,n2,s2,f2,l2⟩:=y;simp only[Tm.cells]at hc hap1 hap2 ⊢;have hs1:=ZqB [.int .i64 k1,.str n1,.int .i64 s1,slV f1 4 (Za l1)] (Za xr);have hs2:=ZqB [.int .i64 k2,.str n2,.int .i64 s2,slV f2 4 (Za l2)] (Za yr);have ex:PV.sl .none 4 ([.int .i64 k1,.str n1,.int .i64 s1,slV f1 4 (Za l1)]::Za xr)=slV true 4 (Za (.mk k1 n1 s1 f1 l1::xr)):=(Zr _ _ _ _).symm;have ey:PV.sl .none 4 ([.int .i64 k2,.str n2,.int .i64 s2,slV f2 4 (Za l2)]::Za yr)=slV true 4 (Za (.mk k2 n2 s2 f2 l2::yr)):=(Zr _ _ _ _).symm;by_cases h1:c<0
  ·rw[if_pos h1]at hp;clear hap2 hA2;(repeat' first|refine Jk ?_|refine Jt ?_|refine Jb ?_ ?_|refine Jo ?_|refine Jd (hc _) ?_|refine JB ?_|(apply dAp;rfl;rfl;rfl;rfl;rfl;(first|assumption|solve_by_elim);rfl)|refine Ke ?_|refine Kb ?_|intro hb);all_goals first
    | (exfalso;simp only[decide_eq_true_eq,decide_eq_false_iff_not]at *;omega)
    | (exfalso;simp at hb;done)
    | exact DropQ.go [(5, o1), (0, slV false 4 (Za xr)), (1, slV true 4 (Za (.mk k2 n2 s2 f2 l2 :: yr)))] ⟨rfl, (Yo _ _).symm, ey, trivial⟩ (by simp[hA1.under, Zl]) rfl rfl
        (LoopI.go (m-1) (by omega) ⟨xr,.mk k2 n2 s2 f2 l2::yr,d++ [.mk k1 n1 s1 f1 l1],false,true,_,o1,lv1,nt1,by simp only[List.length_cons];omega,by omega,hx.tail,hy,by rw[hp];simp,hA1,rfl,rfl⟩)
  ·rw[if_neg h1]at hp;clear hap1 hA1;by_cases h2:0<c
   ·rw[if_pos h2]at hp;(repeat' first|refine Jk ?_|refine Jt ?_|refine Jb ?_ ?_|refine Jo ?_|refine Jd (hc _) ?_|refine JB ?_|(apply dAp;rfl;rfl;rfl;rfl;rfl;(first|assumption|solve_by_elim);rfl)|refine Ke ?_|refine Kb ?_|intro hb);all_goals first
     | (exfalso;simp only[decide_eq_true_eq,decide_eq_false_iff_not]at *;omega)
     | (exfalso;simp at hb;done)
     | exact DropQ.go [(5, o2), (0, slV true 4 (Za (.mk k1 n1 s1 f1 l1 :: xr))), (1, slV false 4 (Za yr))] ⟨rfl, ex, (Yo _ _).symm, trivial⟩ (by simp[hA2.under, Zl]) rfl rfl
         (LoopI.go (m-1) (by omega) ⟨.mk k1 n1 s1 f1 l1::xr,yr,d++ [.mk k2 n2 s2 f2 l2],true,false,_,o2,lv2,nt2,by simp only[List.length_cons];omega,by omega,hx,hy.tail,by rw[hp];simp,hA2,rfl,rfl⟩)
   ·rw[if_neg h2]at hp;clear hap2 hA2;(repeat' first|refine Jk ?_|refine Jt ?_|refine Jb ?_ ?_|refine Jo ?_|refine Jd (hc _) ?_|refine JB ?_|refine Ke ?_|refine Kb ?_|intro hb);all_goals first
     | (exfalso;simp only[decide_eq_true_eq,decide_eq_false_iff_not]at *;omega)
     | (exfalso;simp at hb;done)
     | exact DropQ.go [(5, out), (0, slV false 4 (Za xr)), (1, slV false 4 (Za yr))] ⟨rfl, (Yo _ _).symm, (Yo _ _).symm, trivial⟩ (by simp[hA.under, Zl]) rfl rfl
         (LoopI.go (m-2) (by omega) ⟨xr,yr,d,false,false,_,out,lv,nt,by omega,by omega,hx.tail,hy.tail,hp,hA,rfl,rfl⟩)
theorem Zwy (ht:t.Ok):t.size≤100000→∀H,CO 220 [.agg t.cells] H (slV true 4 (Za t.sumP)) H:=by
 induction ht with
 | @mk k nm s b kz hk hs hn hl hok ih=>
 intro hsz;simp only[Tm.size]at hsz;refine ZS (own:=fun _=>false) tOk fe220.ok (by simp[ZG,frzG,Tm.cells,XK]) (ZJ _ _ _ _ _) ?_;by_cases hx:k=3∧nm=Zbe
 ·obtain⟨rfl,rfl⟩:=hx;rw[Tm.sumP,if_neg (fun h=>absurd h.2.1 (by decide)),if_pos ⟨rfl,rfl⟩];simp only[Tm.cells,Zbe];have hkl:=Yz kz;have hkid:SmL kz:=fun t ht=>⟨hok t ht,by have:=Ya ht;omega⟩;refine Wp.seq ?_;repeat' first|refine Jk ?_|refine KO ?_|fail
  refine Wp.while (fun m tm H => ∃(i : Nat) (base : TM), i + m = kz.length ∧
    tm=ovr base [(1,.ptr 0 4 0 0),(3,slV true 4 (Za (ZT (kz.take i) []))),(31,slV b 4 (Za kz)),(32,.int .i64 (kz.length:Int)),(33,.int .i64 (i:Int))]∧H=⟨[.cells 4 [[.int .i64 3,.str [120,111,114],.int .i64 s,slV b 4 (Za kz)]]],0,[],0⟩)
   (fun m tm H hI=>Wp.drop ?_) kz.length _ _ ⟨0,_,by omega,Zd ⟨rfl,(by simp only[List.take_zero,ZT,Za,Zi];rfl),rfl,Zg (by rw[Zb]),rfl,trivial⟩,rfl⟩
  obtain⟨i,base,hi,rfl,rfl⟩:=hI;have h1:=Xj (kz.take i) [];have h2:=ZD kz i;simp only[List.length_nil]at h1;by_cases hlt:i<kz.length
  ·obtain⟨t', ht'⟩ : ∃t', kz[i]? = some t' := ⟨kz[i], by simp⟩;have hm:t'∈kz:=List.mem_of_getElem? ht';have hle:=Ya hm;have hsn:=WE [] ht';have h3:=Qd t';have hc:=ih t' hm (by omega);have hp:=Zuy (hkid.take i).sumL (SmL.sum (hok t' hm) (by omega)) (by omega) true true;rw[← hsn]at hp;obtain⟨k',nm',s',b',kz'⟩:=t';have hj:=Zk ht';simp only[Tm.cells]at hc;(repeat' first|refine Jc (hc _) ?_|refine Jc (hp _) ?_|refine Jx ?_|refine Jz ?_ ?_|refine Jo ?_|intro hb);all_goals first
    | (exfalso;simp at hb<;>omega)
    | exact DropQ.go [(1, .ptr 0 4 0 0), (3, slV true 4 (Za (ZT (kz.take (i + 1)) []))), (31, slV b 4 (Za kz)), (32, .int .i64 (kz.length : Int)), (33, .int .i64 ((i + 1 : Nat) : Int))] ⟨rfl, rfl, rfl, rfl, Zg (Ze (n := i + 1) (by omega)), trivial⟩
        (by simp[Zl,under]) rfl (by simp[Ys,ZC,under,Zl]) (LoopI.go (m-1) (by omega) ⟨i+1,_,by omega,rfl,rfl⟩)
  {(have e:i=kz.length:=by omega);subst e;(repeat' first|refine Jz ?_ ?_|refine Jo ?_|intro hb);{exfalso;simp at hb};{rw[List.take_length];exact ZJ _ _ _ _ _}}
 ·rw[Tm.sumP];by_cases hz:k=3∧nm=VI∧kz= []
  ·obtain⟨rfl, rfl, rfl⟩ := hz;rw[if_pos ⟨rfl,rfl,rfl⟩];simp only[Tm.cells,VI];refine Wp.seq ?_;cases b;all_goals
    repeat' first|refine KO ?_|fail
    simp only[Za,Zi]
    rfl
  ·rw[if_neg hz, if_neg hx];have e:slV true 4 (Za [.mk k nm s b kz])= .sl .none 4 [[.int .i64 k,.str nm,.int .i64 s,slV b 4 (Za kz)]]:=Zr _ _ _ _;rw[e];simp only[Tm.cells];refine Wp.seq ?_;(repeat' first|refine Jk ?_|refine Js ?_|refine Ky ?_|refine Jb ?_ ?_|refine Jo ?_|intro hb);all_goals first
    | rfl
    | (exfalso;clear ih;simp_all[Zbe,VI,Zb])
