/-
  The keys of a log, by the program's text: the function. The heads of a log, and the names of services, by the program's text. The validity of a servic
-/
import Derived.Test.YtkaocdljkonfaaaGreatDoorJc
set_option maxHeartbeats 64000000
set_option maxRecDepth 100000
namespace Go.Vm.Seat
variable {l:List Tm}
open Go.Proofs
theorem Zmw (b:Bool) (n:Nat) (L:List (List PV)):slV b n L= .nils∨slV b n L= .sl .none n L:=by
 cases L with
 | nil =>
   cases b
   · exact .inr (Z1 _ _)
   · exact .inl (Zq _)
 |cons a r=>exact .inr (Zw _ _ _ _)
def kV (e:Bool):Option (List En)→PV
 |none=> .tup [.nils,.bool false]
 |some L=> .tup [slV e 6 (enC L),.bool true]
theorem Zm1 (m:Nat) (H:Heap) (e:Bool) (o:Option (List En)):frz3 m H (kV e o)=some (kV e o):=by
 cases o with
 |none=>rfl
 | some L =>
   show (match Xk m H [slV e 6 (enC L),.bool true] with|some vs'=>some (PV.tup vs')|none=>none)=_
   rcases Zmw e 6 (enC L) with h|h<;>rw [kV,h]<;>rfl
theorem Zru (a b:Int):ZV E0 .neq 3 (.int .i64 a) (.int .i64 b)=some (.bool (decide (a≠b))):=by
 show some (PV.bool (!(a==b)))=_
 by_cases h:a=b<;>simp [h]
theorem Zqv (a b:Int):ZV E0 .eql 3 (.int .i64 a) (.int .i64 b)=some (.bool (decide (a=b))):=by
 show some (PV.bool (a==b))=_
 by_cases h:a=b<;>simp [h]
theorem Zrx (key:Tm) (b:Bool) (L:List (List PV)):ZC [.agg key.cells,slV b 4 L]=some [.agg key.cells,slV b 4 L]:=by
 obtain ⟨k,nm,s,tb,kids⟩:=key
 simp only [Tm.cells,ZC,Yl]
 simp only [frzG,Xm,Zu]
 rfl
theorem c42 {key:Tm} (hk:key.Ok) (hks:key.size≤900) {log:List Tm} (hl:∀ t,t∈log→t.Ok∧t.size≤900) (hll:log.length≤800) (b:Bool):∀ H,CallOk E0 Tryz.prog 42 [.agg key.cells,slV b 4 (Za log)] H (kV log.isEmpty (WU key log 0 [])) H:=by
 obtain ⟨RES,hRES⟩:∃ RES,RES=WU key log 0 []:=⟨_,rfl⟩
 rw [← hRES]
 have hfr:=fun m H=>Zm1 m H log.isEmpty RES
 have hfz:=Zrx key b (Za log)
 have hln:=Zb log
 obtain ⟨kk,knm,ks,kb,kkids,hke⟩:∃ kk knm ks kb kkids,key= .mk kk knm ks kb kkids:=by obtain ⟨k,nm,s,tb,kids⟩:=key;exact ⟨_,_,_,_,_,rfl⟩
 have hkc:key.cells= [.int .i64 kk,.str knm,.int .i64 ks,slV kb 4 (Za kkids)]:=by rw [hke];rfl
 rw [hkc] at hfz ⊢
 obtain ⟨TL,hTL⟩:∃ TL,TL=Za log:=⟨_,rfl⟩
 rw [← hTL] at hfz hln ⊢
 refine Jw tOk fe42.ok (hfr 0 hNil) ?_ hfz
 repeat' first|refine Jl ?_|refine Jt ?_|refine Jo ?_|fail
 refine Wp.while (fun m tm H => ∃ (i : Nat) (L : List En) (V : PV) (base : TM), i + m = log.length ∧ RES = WU key (log.drop i) i L ∧ Wz 900 L ∧ Vo L ∧ L.length ≤ i ∧ V = slV (decide (i = 0)) 6 (enC L) ∧
   tm=ovr base [(2,.ptr 0 4 0 0),(6,V),(15,slV b 4 TL),(16,.int .i64 (log.length:Int)),(17,.int .i64 (i:Int))]∧H=⟨[.cells 4 [[.int .i64 kk,.str knm,.int .i64 ks,slV kb 4 (Za kkids)]]],0,[],0⟩)
  (fun m tm H hI=>Wp.drop ?_) log.length _ _ ⟨0,[],.nils,_,by omega,hRES,(fun e he=>absurd he (by simp)),(fun i j a b _ h=>absurd h (by simp)),by simp,by rw [show enC []= [] from rfl];exact (Zq 6).symm,Zi ⟨rfl,rfl,rfl,Zh (by rw [hln]),rfl,trivial⟩,rfl⟩
 obtain ⟨i,L,V,base,hi,hK,hE,hO,hLl,hV,rfl,rfl⟩:=hI
 clear hRES
 by_cases hlt:i<log.length
 · have hlx : ZV E0 .lss 3 (.int .i64 (i : Int)) (.int .i64 (log.length : Int)) = some (.bool true) := We (by omega)
   obtain ⟨t,ht⟩:∃ t,log[i]? = some t:=⟨log[i],by simp⟩
   obtain ⟨t1,t2⟩:=hl t (List.mem_of_getElem? ht)
   have hj:TL[i]? = some t.cells:=by
    rw [hTL]
    obtain ⟨k,nm,s,tb,kids⟩:=t
    exact Zk ht
   rw [ZM ht] at hK
   simp only [WU] at hK
   obtain ⟨r1,r2,r3⟩:=WW t1 t2 (by omega)
   have cr:=c57 t1 (by omega)
   have ci:=c58 r3 hk (by omega) r1 (by omega) (i:Int) (Zf t).1.till
   rw [hkc] at ci
   have hio:=Yv (x:=Zj (Zf t).1.sub (Zf t).1.key i (Zf t).1.till) (key:=key) r1 hk
   have cq:=c39 t1 hio.1 (by omega) (by have:=hio.2;simp only [Zj] at this ⊢;omega)
   have cf:=c50 (L:=L) (by omega) (decide (i=0)) (Zf t).1.sub
   rw [← hV] at cf
   have hfk:=Zfs hE (Zf t).1.sub
   have cs:=c39 hfk.1 r1 (by have:=hfk.2;omega) (by omega)
   have cu:∀ _:(ZI (Zf t).1.sub L).isSome=true,∀ H,CallOk E0 Tryz.prog 85 [V,.str (Zf t).1.sub] H (.sl .none 6 (enC (L.filter (Yd (Zf t).1.sub)))) H:=fun h=>by
    have hne:L≠ []:=fun e=>by rw [e] at h;simp [ZI] at h
    have:=Zlg hne (by omega) (decide (i=0)) (Zf t).1.sub
    rw [← hV] at this
    exact this
   have ct:=c86 (L:=L) (by omega) (name:=(Zf t).1.sub) (Wa hO _) r1 (by omega) (i:Int) (decide (i=0))
   rw [← hV] at ct
   have be:=Ye (Zf t).2
   have bi:=Ye ((Zj (Zf t).1.sub (Zf t).1.key i (Zf t).1.till).issue key).2
   have b1:=Zru (Zf t).1.till 9999
   have b2:=Zru (Zf t).1.till 0
   have b3:=Zqv (Zf t).1.till 0
   have hok:=fun L' (e:X4 key i t L=some L')=>Zgr t1 t2 hE hO e
   have hst:X4 key i t L=if (Zf t).2≠0∨((Zf t).1.till≠9999∧(Zf t).1.till≠0) then none else
    if ((Zj (Zf t).1.sub (Zf t).1.key i (Zf t).1.till).issue key).2≠0∨t.cmp ((Zj (Zf t).1.sub (Zf t).1.key i (Zf t).1.till).issue key).1≠0 then none else
    if ((ZI (Zf t).1.sub L).isSome&&decide (((ZI (Zf t).1.sub L).getD enZero).key.cmp (Zf t).1.key=0))≠decide ((Zf t).1.till=0) then none else
    if (Zf t).1.till=0 then some (L.filter (Yd (Zf t).1.sub)) else some (UN L (Zf t).1.sub (Zf t).1.key i):=rfl
   clear hio hfk r1 r2 r3 t1 t2 hE hO hV hTL ht hl hk hks hke
   generalize L.filter (Yd (Zf t).1.sub)=LU at cu hst
   generalize UN L (Zf t).1.sub (Zf t).1.key i=LS at ct hst
   generalize (ZI (Zf t).1.sub L).isSome=F at cf cu hst
   generalize (ZI (Zf t).1.sub L).getD enZero=O at cf cs hst
   generalize (Zj (Zf t).1.sub (Zf t).1.key i (Zf t).1.till).issue key=I at ci cq bi hst
   generalize Zf t=R at cr ci cf cs cu ct be b1 b2 b3 hst
   obtain ⟨R,re⟩:=R
   obtain ⟨Y,ye⟩:=I
   simp only [] at cr ci cq cf cs cu ct be bi b1 b2 b3 hst
   obtain ⟨S,hS⟩:∃ S,S=decide (t.cmp Y=0):=⟨_,rfl⟩
   rw [← hS] at cq
   obtain ⟨Q,hQ⟩:∃ Q,Q=decide (O.key.cmp R.key=0):=⟨_,rfl⟩
   rw [← hQ] at cs hst
   obtain ⟨tk,tnm,ts,tb,tkids⟩:=t
   obtain ⟨sub,⟨k8,nm8,s8,b8,kids8⟩,iss,pn,per,en',exc,ser,fr,till⟩:=R
   obtain ⟨k9,nm9,s9,b9,kids9⟩:=Y
   obtain ⟨onm,⟨k7,nm7,s7,b7,kids7⟩,oi⟩:=O
   simp only [] at hst hS ci cf cu ct b1 b2 b3
   by_cases hre:re=0
   · rw [decide_eq_false (not_not_intro hre)] at be
     by_cases h0:till=0
     · subst h0
       rw [decide_eq_true (by decide)] at b1
       rw [decide_eq_false (by simp)] at b2
       rw [decide_eq_true rfl] at b3
       by_cases hye:ye=0
       · rw [decide_eq_false (not_not_intro hye)] at bi
         cases S with
         | false =>
           have hc:=of_decide_eq_false hS.symm
           have hN:X4 key i (.mk tk tnm ts tb tkids) L=none:=by
            rw [hst]
            simp [hre,hye,hc]
           rw [hN] at hK
           simp only [] at hK
           rw [hK] at hfr ⊢
           simp only [kV] at hfr ⊢
           clear hok hst hN
           repeat' first|(apply qCl;rfl;rfl;rfl;rfl;first|exact cr _|exact ci _|exact cq _)|refine Ji ?_|refine Jx ?_|refine Jt ?_|refine Jo ?_|fail
           all_goals exact hfr _ _
         | true =>
           have hc:=of_decide_eq_true hS.symm
           cases F with
           | false =>
             have hN:X4 key i (.mk tk tnm ts tb tkids) L=none:=by
              rw [hst]
              simp [hre,hye,hc]
             rw [hN] at hK
             simp only [] at hK
             rw [hK] at hfr ⊢
             simp only [kV] at hfr ⊢
             clear hok hst hN
             repeat' first|refine Jk ?_|(apply qCl;rfl;rfl;rfl;rfl;first|exact cr _|exact ci _|exact cq _|exact cf _)|refine Ji ?_|refine Jx ?_|refine Jt ?_|refine Jo ?_|fail
             all_goals exact hfr _ _
           | true =>
             have cu:=cu rfl
             cases Q with
             | false =>
               have hN:X4 key i (.mk tk tnm ts tb tkids) L=none:=by
                rw [hst]
                simp [hre,hye,hc]
               rw [hN] at hK
               simp only [] at hK
               rw [hK] at hfr ⊢
               simp only [kV] at hfr ⊢
               clear hok hst hN
               repeat' first|(apply qCl;rfl;rfl;rfl;rfl;first|exact cr _|exact ci _|exact cq _|exact cf _|exact cs _)|refine Ji ?_|refine Jx ?_|refine Jt ?_|refine Jo ?_|fail
               all_goals exact hfr _ _
             | true =>
               have hN:X4 key i (.mk tk tnm ts tb tkids) L=some LU:=by
                rw [hst]
                simp [hre,hye,hc]
               rw [hN] at hK
               simp only [] at hK
               have hok:=hok LU hN
               clear hst hN hfr
               generalize hLN:enC LU=LN at cu
               repeat' first|(apply qCl;rfl;rfl;rfl;rfl;first|exact cr _|exact ci _|exact cq _|exact cf _|exact cs _|exact cu _)|refine Ji ?_|refine Jx ?_|refine Jt ?_|refine Jo ?_|fail
               exact DropQ.go [(2,.ptr 0 4 0 0),(6,.sl .none 6 LN),(15,slV b 4 TL),(16,.int .i64 (log.length:Int)),(17,.int .i64 ((i+1:Nat):Int))] ⟨rfl,rfl,rfl,rfl,Zh (Ze (n:=i+1) (by omega)),trivial⟩
                (by simp [Zm,under]) rfl (by simp [YA,ZH,under,Zm]) (LoopI.go (m-1) (by omega) ⟨i+1,_,_,_,by omega,hK,hok.1,hok.2.1,by have:=hok.2.2;omega,by rw [hLN,show decide (i+1=0)=false by simp,Z1],rfl,rfl⟩)
       · rw [decide_eq_true hye] at bi
         have hN:X4 key i (.mk tk tnm ts tb tkids) L=none:=by
          rw [hst]
          simp [hre,hye]
         rw [hN] at hK
         simp only [] at hK
         rw [hK] at hfr ⊢
         simp only [kV] at hfr ⊢
         clear hok hst hN
         repeat' first|refine Jk ?_|refine Jc (cr _) ?_|refine Jc (ci _) ?_|refine Ji ?_|refine Jx ?_|refine Jt ?_|refine Jo ?_|fail
         all_goals exact hfr _ _
     · rw [decide_eq_true h0] at b2
       rw [decide_eq_false h0] at b3
       by_cases h9:till=9999
       · subst h9
         rw [decide_eq_false (by simp)] at b1
         by_cases hye:ye=0
         · rw [decide_eq_false (not_not_intro hye)] at bi
           cases S with
           | false =>
             have hc:=of_decide_eq_false hS.symm
             have hN:X4 key i (.mk tk tnm ts tb tkids) L=none:=by
              rw [hst]
              simp [hre,hye,hc]
             rw [hN] at hK
             simp only [] at hK
             rw [hK] at hfr ⊢
             simp only [kV] at hfr ⊢
             clear hok hst hN
             repeat' first|refine Jk ?_|(apply qCl;rfl;rfl;rfl;rfl;first|exact cr _|exact ci _|exact cq _)|refine Ji ?_|refine Jx ?_|refine Jt ?_|refine Jo ?_|fail
             all_goals exact hfr _ _
           | true =>
             have hc:=of_decide_eq_true hS.symm
             cases F with
             | false =>
               have hN:X4 key i (.mk tk tnm ts tb tkids) L=some LS:=by
                rw [hst]
                simp [hre,hye,hc]
               rw [hN] at hK
               simp only [] at hK
               have hok:=hok LS hN
               clear hst hN hfr
               generalize hLN:enC LS=LN at ct
               repeat' first|refine Jk ?_|(apply qCl;rfl;rfl;rfl;rfl;first|exact cr _|exact ci _|exact cq _|exact cf _|exact ct _)|refine Ji ?_|refine Jx ?_|refine Jt ?_|refine Jo ?_|fail
               exact DropQ.go [(2,.ptr 0 4 0 0),(6,.sl .none 6 LN),(15,slV b 4 TL),(16,.int .i64 (log.length:Int)),(17,.int .i64 ((i+1:Nat):Int))] ⟨rfl,rfl,rfl,rfl,Zh (Ze (n:=i+1) (by omega)),trivial⟩
                (by simp [Zm,under]) rfl (by simp [YA,ZH,under,Zm]) (LoopI.go (m-1) (by omega) ⟨i+1,_,_,_,by omega,hK,hok.1,hok.2.1,by have:=hok.2.2;omega,by rw [hLN,show decide (i+1=0)=false by simp,Z1],rfl,rfl⟩)
             | true =>
               cases Q with
               | false =>
                 have hN:X4 key i (.mk tk tnm ts tb tkids) L=some LS:=by
                  rw [hst]
                  simp [hre,hye,hc]
                 rw [hN] at hK
                 simp only [] at hK
                 have hok:=hok LS hN
                 clear hst hN hfr
                 generalize hLN:enC LS=LN at ct
                 repeat' first|refine Jk ?_|(apply qCl;rfl;rfl;rfl;rfl;first|exact cr _|exact ci _|exact cq _|exact cf _|exact cs _|exact ct _)|refine Ji ?_|refine Jx ?_|refine Jt ?_|refine Jo ?_|fail
                 exact DropQ.go [(2,.ptr 0 4 0 0),(6,.sl .none 6 LN),(15,slV b 4 TL),(16,.int .i64 (log.length:Int)),(17,.int .i64 ((i+1:Nat):Int))] ⟨rfl,rfl,rfl,rfl,Zh (Ze (n:=i+1) (by omega)),trivial⟩
                  (by simp [Zm,under]) rfl (by simp [YA,ZH,under,Zm]) (LoopI.go (m-1) (by omega) ⟨i+1,_,_,_,by omega,hK,hok.1,hok.2.1,by have:=hok.2.2;omega,by rw [hLN,show decide (i+1=0)=false by simp,Z1],rfl,rfl⟩)
               | true =>
                 have hN:X4 key i (.mk tk tnm ts tb tkids) L=none:=by
                  rw [hst]
                  simp [hre,hye,hc]
                 rw [hN] at hK
                 simp only [] at hK
                 rw [hK] at hfr ⊢
                 simp only [kV] at hfr ⊢
                 clear hok hst hN
                 repeat' first|refine Jk ?_|(apply qCl;rfl;rfl;rfl;rfl;first|exact cr _|exact ci _|exact cq _|exact cf _|exact cs _)|refine Ji ?_|refine Jx ?_|refine Jt ?_|refine Jo ?_|fail
                 all_goals exact hfr _ _
         · rw [decide_eq_true hye] at bi
           have hN:X4 key i (.mk tk tnm ts tb tkids) L=none:=by
            rw [hst]
            simp [hre,hye]
           rw [hN] at hK
           simp only [] at hK
           rw [hK] at hfr ⊢
           simp only [kV] at hfr ⊢
           clear hok hst hN
           repeat' first|refine Jk ?_|refine Jc (cr _) ?_|refine Jc (ci _) ?_|refine Ji ?_|refine Jx ?_|refine Jt ?_|refine Jo ?_|fail
           all_goals exact hfr _ _
       · rw [decide_eq_true h9] at b1
         have hN:X4 key i (.mk tk tnm ts tb tkids) L=none:=by
          rw [hst]
          simp [hre,h0,h9]
         rw [hN] at hK
         simp only [] at hK
         rw [hK] at hfr ⊢
         simp only [kV] at hfr ⊢
         clear hok hst hN
         repeat' first|refine Jc (cr _) ?_|refine Ji ?_|refine Jx ?_|refine Jt ?_|refine Jo ?_|fail
         all_goals exact hfr _ _
   · rw [decide_eq_true hre] at be
     have hN:X4 key i (.mk tk tnm ts tb tkids) L=none:=by
      rw [hst]
      simp [hre]
     rw [hN] at hK
     simp only [] at hK
     rw [hK] at hfr ⊢
     simp only [kV] at hfr ⊢
     clear hok hst hN
     repeat' first|refine Jk ?_|refine Jc (cr _) ?_|refine Ji ?_|refine Jx ?_|refine Jt ?_|refine Jo ?_|fail
     all_goals exact hfr _ _
 · have e : i = log.length := by omega
   have hlx:ZV E0 .lss 3 (.int .i64 (i:Int)) (.int .i64 (log.length:Int))=some (.bool false):=XS (by omega)
   rw [e,List.drop_length] at hK
   simp only [WU] at hK
   have hVe:V=slV log.isEmpty 6 (enC L):=by
    rw [hV]
    congr 1
    rw [e]
    cases log<;>simp
   rw [hK] at hfr ⊢
   simp only [kV] at hfr ⊢
   rw [← hVe] at hfr ⊢
   clear hV hVe
   repeat' first|refine Ji ?_|refine Jt ?_|refine Jo ?_|fail
   all_goals exact hfr _ _
open Go.Proofs
theorem Zqn (t:Tm):∀ H,CallOk E0 Tryz.prog 83 [.str Wt,.sl .full 4 [t.cells]] H (.agg (Tm.mk 3 Wt 0 true [t]).cells) H:=fun H=>by
 have h:=c83 Wt t.cells [] H
 have e:(Tm.mk 3 Wt 0 true [t]).cells= [.int .i64 3,.str Wt,.int .i64 0,.sl .none 4 [t.cells]]:=by simp only [Tm.cells,Za,Zw]
 rw [e]
 exact Z9 h rfl
theorem c81:∀ (f:Nat) {l:List Tm},l.length≤f→l.length≤32→∀ (b:Bool),∀ H,CallOk E0 Tryz.prog 81 [slV b 4 (Za l)] H (.agg (Z5 (f+1) l).cells) H
 | f, [], _, _ => by
   intro b
   have hz1:=c84 [110,111,110,101]
   have h2:=Zqn (WC [110,111,110,101])
   have e:Z5 (f+1) []=Zcs:=rfl
   have e2:Tm.mk 3 Wt 0 true [WC [110,111,110,101]]=Zcs:=rfl
   have hfr:=Zy 0 hNil Zcs
   rw [e2] at h2
   rw [e]
   generalize Zcs=R at h2 hfr ⊢
   generalize WC [110,111,110,101]=G at hz1 h2
   obtain ⟨k1,nm1,s1,b1,kids1⟩:=R
   obtain ⟨k2,nm2,s2,b2,kids2⟩:=G
   simp only [Tm.cells,Za] at hz1 h2 hfr ⊢
   cases b<;>simp only [Zq,Z8]
   all_goals
    refine Jw tOk fe81.ok hfr ?_
    repeat' first|refine Jc (hz1 _) ?_|refine Jc (h2 _) ?_|refine Js ?_|refine Jt ?_|refine Jo ?_|fail
   all_goals exact Z2 _ _ _ _ _ _ _
 | f, [t], _, _ => by
   intro b
   have hz1:=Zss t
   have e:Z5 (f+1) [t]=XC t:=rfl
   have hj:(Za [t])[0]? = some t.cells:=rfl
   have hl:=Zb [t]
   have hfr:=Zy 0 hNil (XC t)
   have b0:ZV E0 .eql 3 (.int .i64 ((Za [t]).length:Int)) (.int .i64 0)=some (.bool false):=V9 (by rw [hl];simp)
   have b1:ZV E0 .eql 3 (.int .i64 ((Za [t]).length:Int)) (.int .i64 1)=some (.bool true):=ZdT (by rw [hl];simp)
   rw [e]
   generalize Za [t]=L at hj hl b0 b1 ⊢
   generalize XC t=R at hz1 hfr ⊢
   obtain ⟨k1,nm1,s1,tb1,kids1⟩:=R
   obtain ⟨k2,nm2,s2,tb2,kids2⟩:=t
   simp only [Tm.cells] at hz1 hfr hj ⊢
   refine Jw tOk fe81.ok hfr ?_
   repeat' first|refine Jc (hz1 _) ?_|refine Ji ?_|refine Jl ?_|refine Jx ?_|refine Jt ?_|refine Jo ?_|fail
   all_goals exact Z2 _ _ _ _ _ _ _
 |0,a::c::r,hf,_=>by simp at hf
 | f + 1, a :: c :: r, hf, h32 => by
   intro b
   have hne:a::c::r≠ []:=by simp
   have hlen:(a::c::r).length=r.length+2:=rfl
   have hp:=WY (r.length+2)
   have hh:=Ur (n:=r.length+2) (by omega)
   rw [hlen] at hf h32
   have hs:=c96 h32
   have t1:=ZpY b hne (k:=Zo (r.length+2)) (by rw [hlen];omega)
   have t2:=ZsJ b hne (k:=Zo (r.length+2)) (by rw [hlen];omega)
   have x1:=c81 f (l:=(a::c::r).take (Zo (r.length+2))) (by simp only [List.length_take,List.length_cons];omega) (by simp only [List.length_take,List.length_cons];omega) false
   have x2:=c81 f (l:=(a::c::r).drop (Zo (r.length+2))) (by simp only [List.length_drop,List.length_cons];omega) (by simp only [List.length_drop,List.length_cons];omega) false
   rw [Z1] at x1 x2
   have hN:=Zns (Z5 (f+1) ((a::c::r).take (Zo (r.length+2)))) (Z5 (f+1) ((a::c::r).drop (Zo (r.length+2))))
   have e:Z5 (f+1+1) (a::c::r)=YQ (Z5 (f+1) ((a::c::r).take (Zo (r.length+2)))) (Z5 (f+1) ((a::c::r).drop (Zo (r.length+2)))):=rfl
   rw [e]
   generalize Z5 (f+1) ((a::c::r).take (Zo (r.length+2)))=X at x1 hN ⊢
   generalize Z5 (f+1) ((a::c::r).drop (Zo (r.length+2)))=Y at x2 hN ⊢
   have hl:=Zb (a::c::r)
   rw [hlen] at hl
   have b0:ZV E0 .eql 3 (.int .i64 ((Za (a::c::r)).length:Int)) (.int .i64 0)=some (.bool false):=V9 (by rw [hl];omega)
   have b1:ZV E0 .eql 3 (.int .i64 ((Za (a::c::r)).length:Int)) (.int .i64 1)=some (.bool false):=V9 (by rw [hl];omega)
   have hs:∀ H,CallOk E0 Tryz.prog 96 [.int .i64 ((Za (a::c::r)).length:Int)] H (.int .i64 (Zo (r.length+2):Int)) H:=by
    rw [hl]
    exact hs
   have hfr:=Zy 0 hNil (YQ X Y)
   generalize Za (a::c::r)=L at t1 t2 hl b0 b1 hs ⊢
   generalize Za ((a::c::r).take (Zo (r.length+2)))=L1 at t1 x1
   generalize Za ((a::c::r).drop (Zo (r.length+2)))=L2 at t2 x2
   generalize YQ X Y=R at hN hfr ⊢
   obtain ⟨k1,nm1,s1,tb1,kids1⟩:=R
   obtain ⟨k2,nm2,s2,tb2,kids2⟩:=X
   obtain ⟨k3,nm3,s3,tb3,kids3⟩:=Y
   simp only [Tm.cells] at x1 x2 hN hfr ⊢
   refine Jw tOk fe81.ok hfr ?_
   repeat' first|refine Jc (hs _) ?_|refine Ji ?_|refine Jl ?_|refine Jt ?_|refine Jo ?_|(apply dCl;rfl;rfl;rfl;rfl;rfl;first|exact x1 _|exact x2 _|exact hN _)|(apply dSl;rfl;rfl;rfl;rfl;rfl;rfl;assumption;exact IsV.any _;rfl)|refine Jh ?_|(apply Wp.drawS tOk follows;kernel_rfl;rfl)|fail
   all_goals exact Z2 _ _ _ _ _ _ _
theorem c78 (hl:∀ t,t∈l→t.Ok∧t.size≤90000) (b:Bool):∀ H,CallOk E0 Tryz.prog 78 [slV b 4 (Za l)] H (.int .i64 (ZbS l)) H:=by
 have hln:=Zb l
 refine Jw tOk fe78.ok rfl ?_
 by_cases hlen:32<l.length
 · have hg : ZV E0 .gtr 3 (.int .i64 ((Za l).length : Int)) (.int .i64 32) = some (.bool true) := ZgZ (by omega)
   simp only [ZbS,if_pos hlen]
   repeat' first|refine Ji ?_|refine Jl ?_|refine Jo ?_|fail
   all_goals rfl
 have hg:ZV E0 .gtr 3 (.int .i64 ((Za l).length:Int)) (.int .i64 32)=some (.bool false):=Zhb (by omega)
 simp only [ZbS,if_neg hlen]
 repeat' first|refine Ji ?_|refine Jl ?_|refine Jo ?_|fail
 clear hg
 refine Wp.while (fun k tm H=>∃ (i:Nat) (base:TM),i+k=l.length∧Zhs l=Zhs (l.drop i)∧tm=ovr base [(9,slV b 4 (Za l)),(10,.int .i64 (l.length:Int)),(11,.int .i64 (i:Int))]∧H=⟨[],0,[],0⟩)
  (fun k tm H hI=>Wp.drop ?_) l.length _ _ ⟨0,_,by omega,by simp,Zi ⟨rfl,Zh (by rw [hln]),rfl,trivial⟩,rfl⟩
 obtain ⟨i,base,hi,hI,rfl,rfl⟩:=hI
 by_cases hlt:i<l.length
 · obtain ⟨t', ht'⟩ : ∃ t', l[i]? = some t' := ⟨l[i], by simp⟩
   have m1:=hl t' (List.mem_of_getElem? ht')
   have hc:=c74 m1.1 (by omega)
   rw [ZM ht'] at hI
   simp only [Zhs] at hI
   have hlx:ZV E0 .lss 3 (.int .i64 (i:Int)) (.int .i64 (l.length:Int))=some (.bool true):=We (by omega)
   generalize t'.valid=e at hc hI
   have be:=Ye e
   obtain ⟨k',nm',s',b',kids'⟩:=t'
   have hj1:=Zk ht'
   simp only [Tm.cells] at hc
   generalize Za l=L at hj1 ⊢
   by_cases he:e=0
   · rw [decide_eq_false (not_not_intro he)] at be
     rw [if_neg (not_not_intro he)] at hI
     repeat' first|refine Jc (hc _) ?_|refine Ji ?_|refine Jx ?_|refine Jo ?_|fail
     exact DropQ.go [(9,slV b 4 L),(10,.int .i64 (l.length:Int)),(11,.int .i64 ((i+1:Nat):Int))] ⟨rfl,rfl,Zh (Ze (n:=i+1) (by omega)),trivial⟩
      (by simp [Zm,under]) rfl rfl (LoopI.go (k-1) (by omega) ⟨i+1,_,by omega,hI,rfl,rfl⟩)
   · rw [decide_eq_true he] at be
     rw [if_pos he] at hI
     rw [hI]
     repeat' first|refine Jc (hc _) ?_|refine Ji ?_|refine Jx ?_|refine Jo ?_|fail
     all_goals rfl
 · have e : i = l.length := by omega
   subst e
   rw [List.drop_length] at hI
   rw [hI]
   have hlx:ZV E0 .lss 3 (.int .i64 (l.length:Int)) (.int .i64 (l.length:Int))=some (.bool false):=XS (by omega)
   repeat' first|refine Ji ?_|refine Jo ?_|fail
   all_goals rfl
theorem c79 (hlen:l.length≤32) (hl:∀ t,t∈l→t.Ok∧t.size≤2000) (b:Bool):∀ H,CallOk E0 Tryz.prog 79 [slV b 4 (Za l)] H (.int .i64 (if (Z5 33 l).valid≠0 then 3 else 0)) H:=by
 have c2:=c81 32 hlen hlen b
 obtain ⟨q1,q2⟩:=Um (S:=2000) 32 hlen hl
 have q3:=Nat.mul_le_mul_right (2000+11) (show max l.length 1≤32 by omega)
 have c3:=c74 q1 (by omega)
 clear q1 q2 q3
 have c2:∀ H,CallOk E0 Tryz.prog 81 [slV b 4 (Za l)] H (.agg (Z5 33 l).cells) H:=c2
 have c3:∀ H,CallOk E0 Tryz.prog 74 [.agg (Z5 33 l).cells] H (.int .i64 (Z5 33 l).valid) H:=c3
 generalize Z5 33 l=X at c2 c3 ⊢
 generalize X.valid=e at c3 ⊢
 have be:=Ye e
 obtain ⟨k2,nm2,s2,tb2,kids2⟩:=X
 simp only [Tm.cells] at c2 c3
 by_cases he:e=0
 · rw [decide_eq_false (not_not_intro he)] at be
   rw [if_neg (not_not_intro he)]
   refine Jw tOk fe79.ok rfl ?_
   repeat' first|refine Jc (c2 _) ?_|refine Jc (c3 _) ?_|refine Ji ?_|refine Jo ?_|fail
   all_goals rfl
 · rw [decide_eq_true he] at be
   rw [if_pos he]
   refine Jw tOk fe79.ok rfl ?_
   repeat' first|refine Jc (c2 _) ?_|refine Jc (c3 _) ?_|refine Ji ?_|refine Jo ?_|fail
   all_goals rfl
theorem c40 (hl:∀ t,t∈l→t.Ok∧t.size≤2000) (b:Bool):∀ H,CallOk E0 Tryz.prog 40 [slV b 4 (Za l)] H (.tup [.agg (ZS l).1.cl.cells,.int .i64 (ZS l).2]) H:=by
 have c1:=c78 (fun t ht=>⟨(hl t ht).1,by have:=(hl t ht).2;omega⟩) b
 have be:=Ye (ZbS l)
 have hfz:=YG 0 hNil Tm.zero
 have hzc:Tm.zero.cl=Tm.zero:=rfl
 unfold ZS
 by_cases he:ZbS l=0
 · rw [he] at c1 be
   rw [if_neg (not_not_intro he)]
   have hlen:=QN he
   have c2:=c81 32 hlen hlen b
   have c3:=c79 hlen hl b
   obtain ⟨q1,q2⟩:=Um (S:=2000) 32 hlen hl
   have q3:=Nat.mul_le_mul_right (2000+11) (show max l.length 1≤32 by omega)
   have c4:=c80 q1 (by omega)
   have hft:=fun m H=>YG m H (Z5 33 l).cl 0
   show ∀ H,CallOk E0 Tryz.prog _ _ H (.tup [.agg (if (Z5 33 l).valid≠0 then (Tm.zero,(3:Int)) else (Z5 33 l,0)).1.cl.cells,.int .i64 (if (Z5 33 l).valid≠0 then (Tm.zero,(3:Int)) else (Z5 33 l,0)).2]) H
   clear q1 q2 q3
   have c2:∀ H,CallOk E0 Tryz.prog 81 [slV b 4 (Za l)] H (.agg (Z5 33 l).cells) H:=c2
   have c4:∀ H,CallOk E0 Tryz.prog 80 [.agg (Z5 33 l).cells] H (.agg (Z5 33 l).cl.cells) H:=c4
   generalize Z5 33 l=X at c2 c3 c4 hft ⊢
   generalize X.valid=e at c3 ⊢
   have b2:=Ye e
   generalize hXc:X.cl=Y at c4 hft
   obtain ⟨k3,nm3,s3,tb3,kids3⟩:=Y
   by_cases hv:e=0
   · rw [if_neg (not_not_intro hv)] at c3 ⊢
     have b3:=Ye 0
     simp only [hXc]
     obtain ⟨k2,nm2,s2,tb2,kids2⟩:=X
     simp only [Tm.cells] at c2 c4 hft ⊢
     refine Jw tOk fe40.ok (hft 0 hNil) ?_
     repeat' first|(apply qCl;rfl;rfl;rfl;rfl;first|exact c1 _|exact c2 _|exact c3 _|exact c4 _)|refine Ji ?_|refine Jo ?_|fail
     all_goals exact hft _ _
   · rw [if_pos hv] at c3 ⊢
     simp only [hzc]
     clear hXc
     refine Jw tOk fe40.ok (hfz _) ?_
     repeat' first|refine Jc (c1 _) ?_|refine Jc (c3 _) ?_|refine Ji ?_|refine Jt ?_|refine Jo ?_|fail
     all_goals (rw [Zn];rfl)
 · rw [decide_eq_true he] at be
   rw [if_pos he]
   generalize ZbS l=e at c1 be ⊢
   have hfr:=hfz e
   simp only [hzc]
   refine Jw tOk fe40.ok hfr ?_
   repeat' first|refine Jc (c1 _) ?_|refine Ji ?_|refine Jo ?_|fail
   all_goals (rw [Zn];rfl)
open Go.Proofs
def Wv (l:List Tm) (k:Tm):Tm×Tm×Bool:=if (ZS l).2≠0 then (.zero,.zero,false) else ((ZS l).1,(Yw id (ZS l).1 l.length k).1,decide ((Yw id (ZS l).1 l.length k).2=0))
theorem ZnQ (b:Bool) (L:List (List PV)) (k:Tm):ZC [slV b 4 L,.agg k.cells]=some [slV b 4 L,.agg k.cells]:=by
 simp only [ZC,Yl,ZeE]
theorem c46 (hl:∀ t,t∈l→t.Ok∧t.size≤900) (b:Bool) {k:Tm} (hk:k.Ok) (hks:k.size≤900):∀ H,CallOk E0 Tryz.prog 46 [slV b 4 (Za l),.agg k.cells] H (.tup [.agg (Wv l k).1.cells,.agg (Wv l k).2.1.cells,.bool (Wv l k).2.2]) H:=by
 have c1:=c89 (fun t ht=>⟨(hl t ht).1,by have:=(hl t ht).2;omega⟩) b
 have hh:=Zbw hl
 have be:=Ye (ZS l).2
 have c2:=c90 hh.1 (by have:=hh.2;omega) hk (by omega) (l.length:Int)
 have hfr:=UE 0 hNil (Wv l k).1 (Wv l k).2.1 (Wv l k).2.2
 have hft:=fun m H=>UE m H (Wv l k).1 (Wv l k).2.1 (Wv l k).2.2
 have hln:=Zb l
 unfold Wv at hfr hft ⊢
 by_cases he:(ZS l).2=0
 · rw [decide_eq_false (not_not_intro he)] at be
   rw [if_neg (not_not_intro he)] at hfr hft ⊢
   clear he hh
   generalize ZS l=R at c1 c2 be hfr hft ⊢
   obtain ⟨X,e⟩:=R
   simp only [] at c1 c2 be hfr hft ⊢
   rw [← hln] at c2 hfr hft ⊢
   generalize Yw id X ((Za l).length:Int) k=S at c2 hfr hft ⊢
   obtain ⟨Y,e2⟩:=S
   simp only [] at c2 hfr hft ⊢
   have e3:ZV E0 .eql 32 (.int .i64 e2) (.int .i64 0)=some (.bool (decide (e2=0))):=by
    show some (PV.bool (e2==0))=_
    by_cases h:e2=0<;>simp [h]
   have hfz:=ZnQ b (Za l) k
   obtain ⟨k1,nm1,s1,b1,kids1⟩:=X
   obtain ⟨k2,nm2,s2,b2,kids2⟩:=Y
   obtain ⟨k3,nm3,s3,b3,kids3⟩:=k
   simp only [Tm.cells] at c1 c2 hfr hft hfz ⊢
   refine Zr (own:=(fun d=>[29999,50032,50041,40216,40217,40226].any (Nat.beq d))) tOk fe46.ok hfz hfr ?_
   refine Wp.seq ?_
   repeat' first|refine Jc (c1 _) ?_|refine Jc (c2 _) ?_|refine Ji ?_|refine Jl ?_|refine Jt ?_|refine Jo ?_|refine JD ?_|refine Jh ?_|(apply Wp.drawS tOk follows;kernel_rfl;rfl)|fail
   all_goals exact hft _ _
 · rw [decide_eq_true he] at be
   rw [if_pos he] at hfr ⊢
   clear c2 hh hft
   generalize ZS l=R at c1 be ⊢
   obtain ⟨X,e⟩:=R
   simp only [] at c1 be ⊢
   have hfz:=ZnQ b (Za l) k
   rw [Zn] at hfr ⊢
   obtain ⟨k1,nm1,s1,b1,kids1⟩:=X
   obtain ⟨k3,nm3,s3,b3,kids3⟩:=k
   simp only [Tm.cells] at c1 hfz ⊢
   refine Zr (own:=(fun d=>[29999,50032,50041,40216,40217,40226].any (Nat.beq d))) tOk fe46.ok hfz hfr ?_
   refine Wp.seq ?_
   repeat' first|refine Jc (c1 _) ?_|refine Ji ?_|refine Jt ?_|refine Jo ?_|fail
   all_goals rfl
structure Sv where
 name:Bs
 key:Tm
 lb:Bool
 log:List Tm
 kb:Bool
 keys:List En
def Sv.cells (s:Sv):List PV:= .str s.name::(s.key.cells++ [slV s.lb 4 (Za s.log),slV s.kb 6 (enC s.keys)])
structure SvOk (s:Sv):Prop where
 n:s.name.length≤1000
 k:s.key.Ok
 ks:s.key.size≤900
 l:∀ t,t∈s.log→t.Ok
 ls:∀ t,t∈s.log→t.size≤900
 ll:s.log.length≤40
 e:Wz 900 s.keys
 el:s.keys.length≤1000
def ZhD (log:List Tm) (k:Tm):Nat→Nat→Bool
 |_,0=>true
 | i, m + 1 => match log[i]? with
   | some t=>Za3 (log.take i) t k&&ZhD log k (i+1) m
   | none=>true
def enB:List En→List En→Bool
 | [],[]=>true
 |x::r,y::r'=>decide (x.name=y.name)&&(decide (x.idx=y.idx)&&(decide (x.key.cmp y.key=0)&&enB r r'))
 |_,_=>false
theorem Ze8:∀ {l m:List En},l.length≠m.length→enB l m=false
 | [],[],h=>absurd rfl h
 | [],_::_,_=>rfl
 |_::_,[],_=>rfl
 | x :: r, y :: r', h => by
   simp only [enB,Ze8 (l:=r) (m:=r') (fun e=>h (by simp [e])),Bool.and_false]
def svV (s:Sv):Int:=if Y6 s.name=false then 1 else if s.key.cmp (skT s.name)≠0 then 1 else if 32<s.log.length then 1 else if ZhD s.log s.key 0 s.log.length=false then 1 else if (Wv s.log s.key).2.2=false then 1 else
 if enB (YF s.log s.log.length) s.keys=false then 1 else 0
end Go.Vm.Seat
