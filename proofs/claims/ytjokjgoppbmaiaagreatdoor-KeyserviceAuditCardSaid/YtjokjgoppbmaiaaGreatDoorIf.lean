/-
  Proofs of a fork: of the program, of the document.
-/
import Derived.Test.YtjokjgoppbmaiaaGreatDoorGf
import Derived.Test.YtjokjgoppbmaiaaGreatDoorDc
import Derived.Test.YtjokjgoppbmaiaaGreatDoorFi
set_option maxHeartbeats 64000000
set_option maxRecDepth 100000
namespace Go.Vm.Seat
open Go.Proofs
theorem isB_cells (k:Int) (nm:Bs) (s:Int) (b:Bool) (kids:List Tm) (w:Bs) (n:Nat):(Tm.mk k nm s b kids).isB w n=(decide (k=3) && (decide (nm=w) && decide (kids.length=n))):=by
 simp only [Tm.isB]
 congr 2
 by_cases h:nm=w <;> simp [h]
theorem eqlL2 (l:List Tm):aBin E0 .eql 3 (.int .i64 ((cellsL l).length:Int)) (.int .i64 2)=some (.bool (decide (l.length=2))):=by
 show some (PV.bool (((cellsL l).length:Int) == 2))=_
 rw [cellsL_length]
 congr 2
 rw [Bool.eq_iff_iff]
 simp
 omega
theorem c174 (t:Tm) (w:Bs):∀ H,CallOk E0 Tryz.prog 174 [.agg t.cells,.str w] H (.bool (t.isB w 2)) H:=by
 obtain ⟨k,nm,s,b,kids⟩:=t
 rw [isB_cells]
 have hl:=eqlL2 kids
 simp only [Tm.cells]
 generalize decide (kids.length=2)=D at hl ⊢
 by_cases h1:k=3
 · rw [decide_eq_true h1]
   have e1:=eql0_t h1
   by_cases h2:nm=w
   · rw [decide_eq_true h2]
     have e2:=eqlS_t h2
     clear h1 h2
     refine κw tOk fe174.ok rfl ?_
     repeat' first | refine κn ?_ | refine κi ?_ | refine κl ?_ | refine κt ?_ | refine κg ?_ | refine κa ?_ | refine κf ?_ | fail
     all_goals rfl
   · rw [decide_eq_false h2]
     have e2:=eqlS_f h2
     refine κw tOk fe174.ok rfl ?_
     repeat' first | refine κn ?_ | refine κk ?_ | refine κi ?_ | refine κt ?_ | refine κg ?_ | refine κa ?_ | refine κf ?_ | fail
     all_goals rfl
 · rw [decide_eq_false h1]
   have e1:=eql0_f h1
   refine κw tOk fe174.ok rfl ?_
   repeat' first | refine κn ?_ | refine κk ?_ | refine κi ?_ | refine κt ?_ | refine κg ?_ | refine κa ?_ | refine κf ?_ | fail
   all_goals rfl
theorem c180 (t:Tm) (w:Bs):∀ H,CallOk E0 Tryz.prog 180 [.agg t.cells,.str w] H (.bool (t.isB w 2)) H:=by
 obtain ⟨k,nm,s,b,kids⟩:=t
 rw [isB_cells]
 have hl:=eqlL2 kids
 simp only [Tm.cells]
 generalize decide (kids.length=2)=D at hl ⊢
 by_cases h1:k=3
 · rw [decide_eq_true h1]
   have e1:=eql0_t h1
   by_cases h2:nm=w
   · rw [decide_eq_true h2]
     have e2:=eqlS_t h2
     clear h1 h2
     refine κw tOk fe180.ok rfl ?_
     repeat' first | refine κn ?_ | refine κi ?_ | refine κl ?_ | refine κt ?_ | refine κg ?_ | refine κa ?_ | refine κf ?_ | fail
     all_goals rfl
   · rw [decide_eq_false h2]
     have e2:=eqlS_f h2
     refine κw tOk fe180.ok rfl ?_
     repeat' first | refine κn ?_ | refine κk ?_ | refine κi ?_ | refine κt ?_ | refine κg ?_ | refine κa ?_ | refine κf ?_ | fail
     all_goals rfl
 · rw [decide_eq_false h1]
   have e1:=eql0_f h1
   refine κw tOk fe180.ok rfl ?_
   repeat' first | refine κn ?_ | refine κk ?_ | refine κi ?_ | refine κt ?_ | refine κg ?_ | refine κa ?_ | refine κf ?_ | fail
   all_goals rfl
theorem isB2 {t:Tm} {w:Bs} (h:t.isB w 2=true):∃ s b x y,t= .mk 3 w s b [x,y]:=by
 obtain ⟨k,nm,s,b,kids⟩:=t
 rw [isB_cells] at h
 simp only [Bool.and_eq_true,decide_eq_true_eq] at h
 obtain ⟨rfl,rfl,h⟩:=h
 match kids,h with
 | [x,y],_=>exact ⟨s,b,x,y,rfl⟩
theorem kids_ok {k:Int} {nm:Bs} {s:Int} {b:Bool} {x y:Tm} (h:(Tm.mk k nm s b [x,y]).Ok) {S:Nat} (hs:(Tm.mk k nm s b [x,y]).size≤S):(x.Ok∧x.size≤S)∧y.Ok∧y.size≤S:=by
 simp only [Tm.size,sizeL] at hs
 cases h with
 | mk _ _ _ _ hk=>exact ⟨⟨hk x (by simp),by omega⟩,hk y (by simp),by omega⟩
def sgX (t:Tm):Tm:=kid0 (kid1 (kid0 t))
def sgY (t:Tm):Tm:=kid1 (kid1 (kid0 t))
def sgP (t k z:Tm):Tm×Tm×Bool:=if sgnF t k=true then (sgX t,sgY t,true) else (z,z,false)
def shpF (t k:Tm):Bool:=t.isB signN 2 && (decide ((kid1 t).cmp k=0) && ((kid0 t).isB pairN 2 && (decide ((kid0 (kid0 t)).cmp (tagT ledgerN)=0) && (kid1 (kid0 t)).isB pairN 2)))
def sgR (t k z:Tm):Tm×Tm×Bool:=if shpF t k=true then (sgX t,sgY t,atomD (sgX t)) else (z,z,false)
theorem sgn_shp (t k:Tm):sgnF t k=(shpF t k && atomD (sgX t)):=by simp only [sgnF,shpF,sgX,Bool.and_assoc]
theorem atomD_mk (k:Int) (nm:Bs) (s:Int) (b:Bool) (l:List Tm):atomD (.mk k nm s b l)=(decide (k=2) && decide (s=4)):=rfl
theorem neq_i (a b:Int):aBin E0 .neq 3 (.int .i64 a) (.int .i64 b)=some (.bool (!decide (a=b))):=by
 show some (PV.bool (!(a == b)))=_
 by_cases h:a=b <;> simp [h]
theorem eql_i (a b:Int):aBin E0 .eql 3 (.int .i64 a) (.int .i64 b)=some (.bool (decide (a=b))):=by
 show some (PV.bool (a == b))=_
 by_cases h:a=b <;> simp [h]
theorem frzG_tm2 (t:Tm):frzG (.agg t.cells)=some (.agg t.cells):=by
 obtain ⟨k,nm,s,tb,kids⟩:=t
 simp only [Tm.cells,frzG,frzL,frz1_slV]
 rfl
theorem frz2T (t k:Tm):frzGL [.agg t.cells,.agg k.cells]=some [.agg t.cells,.agg k.cells]:=by
 simp only [frzGL,frzG_tm2]
theorem c88 {t k Z:Tm} (hZ:Z.cells= [.int .i64 0,.str [],.int .i64 0,.nils]) (ht:t.Ok) (hts:t.size≤1000000) (hk:k.Ok) (hks:k.size≤1000000):∀ H,CallOk E0 Tryz.prog 88 [.agg t.cells,.agg k.cells] H (.tup [.agg (sgP t k Z).1.cells,.agg (sgP t k Z).2.1.cells,.bool (sgP t k Z).2.2]) H:=by
 have c1:=c174 t signN
 have cg:=c132 ledgerN
 have hgo:(tagT ledgerN).Ok∧(tagT ledgerN).size≤1000000:=⟨okTag (by decide),by decide⟩
 have hfz:=frz2T t k
 have hfr:=fun m H=>frz3_two m H
 have hfin:∀ x y:Tm,∀ m H,frz3 m H (.tup [.agg x.cells,.agg y.cells,.bool false])=some (.tup [.agg x.cells,.agg y.cells,.bool false]):=fun x y m H=>hfr m H x y false
 cases hB1:t.isB signN 2 with
 | false =>
   have e:sgP t k Z=(Z,Z,false):=by simp only [sgP,sgnF,hB1,Bool.false_and];rfl
   rw [e]
   rw [hB1] at c1
   have hf:=hfin Z Z
   clear hfin hfr cg hgo hB1 e
   try simp only [hZ] at hf ⊢
   obtain ⟨k1,nm1,s1,b1,kids1⟩:=t
   obtain ⟨k2,nm2,s2,b2,kids2⟩:=k
   simp only [Tm.cells] at c1 hfz hf ⊢
   refine callOk_wp (own:=(fun d=>[29999,50065,50072,50073,40128,40570,40602].any (Nat.beq d))) tOk fe88.ok hfz (hf 0 hNil) ?_
   refine Wp.seq ?_
   repeat' first | refine κn ?_ | refine κt ?_ | refine κg ?_ | (apply dK;rfl;rfl;rfl) | refine κd (c1 _) ?_ | (apply dT (ty:=4);rfl;rfl;rfl;rfl) | refine κh ?_ | refine κa ?_ | (apply Wp.drawS tOk follows;kernel_rfl;rfl) | refine κf ?_ | fail
   all_goals exact hf _ _
 | true =>
   obtain ⟨s,b,x,y,rfl⟩:=isB2 hB1
   obtain ⟨⟨hx,hxs⟩,hy,hys⟩:=kids_ok ht hts
   rw [hB1] at c1
   have c2:=c89 hy hk hys hks
   have hj0:(cellsL [x,y])[0]? = some x.cells:=rfl
   have hj1:(cellsL [x,y])[1]? = some y.cells:=rfl
   have k0:kid0 (.mk 3 signN s b [x,y])=x:=rfl
   have k1:kid1 (.mk 3 signN s b [x,y])=y:=rfl
   have c3:=c174 x pairN
   cases hB2:decide (y.cmp k=0) with
   | false =>
     have e:sgP (.mk 3 signN s b [x,y]) k Z=(Z,Z,false):=by simp only [sgP,sgnF,hB1,k1,hB2,Bool.false_and,Bool.and_false];rfl
     rw [e]
     rw [hB2] at c2
     have hf:=hfin Z Z
     clear hfin hfr cg hgo hB1 hB2 e c3 k0 k1
     try simp only [hZ] at hf ⊢
     simp only [Tm.cells] at c1 hfz hf ⊢
     generalize cellsL [x,y]=L at c1 hj0 hj1 hfz hf ⊢
     obtain ⟨k2,nm2,s2,b2,kids2⟩:=k
     obtain ⟨k3,nm3,s3,b3,kids3⟩:=x
     obtain ⟨k4,nm4,s4,b4,kids4⟩:=y
     simp only [Tm.cells] at c1 c2 hj0 hj1 hfz hf ⊢
     refine callOk_wp (own:=(fun d=>[29999,50065,50072,50073,40128,40570,40602].any (Nat.beq d))) tOk fe88.ok hfz (hf 0 hNil) ?_
     refine Wp.seq ?_
     repeat' first | refine κn ?_ | refine κt ?_ | refine κg ?_ | (apply dK;rfl;rfl;rfl) | refine κd (c1 _) ?_ | refine κd (c2 _) ?_ | refine κI ?_ | (apply dT (ty:=4);rfl;rfl;rfl;rfl) | (apply dF (ty:=4);rfl;rfl;rfl;rfl) | refine κh ?_ | refine κa ?_ | (apply Wp.drawS tOk follows;kernel_rfl;rfl) | refine κf ?_ | fail
     all_goals exact hf _ _
   | true =>
     rw [hB2] at c2
     cases hB3:x.isB pairN 2 with
     | false =>
       have e:sgP (.mk 3 signN s b [x,y]) k Z=(Z,Z,false):=by simp only [sgP,sgnF,hB1,k0,k1,hB2,hB3,Bool.false_and,Bool.and_false];rfl
       rw [e]
       rw [hB3] at c3
       have hf:=hfin Z Z
       clear hfin hfr cg hgo hB1 hB2 hB3 e k0 k1
       try simp only [hZ] at hf ⊢
       simp only [Tm.cells] at c1 hfz hf ⊢
       generalize cellsL [x,y]=L at c1 hj0 hj1 hfz hf ⊢
       obtain ⟨k2,nm2,s2,b2,kids2⟩:=k
       obtain ⟨k3,nm3,s3,b3,kids3⟩:=x
       obtain ⟨k4,nm4,s4,b4,kids4⟩:=y
       simp only [Tm.cells] at c1 c2 c3 hj0 hj1 hfz hf ⊢
       refine callOk_wp (own:=(fun d=>[29999,50065,50072,50073,40128,40570,40602].any (Nat.beq d))) tOk fe88.ok hfz (hf 0 hNil) ?_
       refine Wp.seq ?_
       repeat' first | refine κn ?_ | refine κt ?_ | refine κg ?_ | (apply dK;rfl;rfl;rfl) | (apply dCl;rfl;rfl;rfl;rfl;rfl;first | exact c1 _ | exact c2 _ | exact c3 _) | refine κI ?_ | (apply dT (ty:=4);rfl;rfl;rfl;rfl) | (apply dF (ty:=4);rfl;rfl;rfl;rfl) | refine κh ?_ | refine κa ?_ | (apply Wp.drawS tOk follows;kernel_rfl;rfl) | refine κf ?_ | fail
       all_goals exact hf _ _
     | true =>
       obtain ⟨s',b',u,v,rfl⟩:=isB2 hB3
       obtain ⟨⟨hu,hus⟩,hv,hvs⟩:=kids_ok hx hxs
       rw [hB3] at c3
       have c4:=c89 hu hgo.1 hus hgo.2
       have c5:=c174 v pairN
       have hi0:(cellsL [u,v])[0]? = some u.cells:=rfl
       have hi1:(cellsL [u,v])[1]? = some v.cells:=rfl
       have k2:kid0 (.mk 3 pairN s' b' [u,v])=u:=rfl
       have k3:kid1 (.mk 3 pairN s' b' [u,v])=v:=rfl
       generalize hG:tagT ledgerN=G at cg c4 hgo
       cases hB4:decide (u.cmp G=0) with
       | false =>
         have e:sgP (.mk 3 signN s b [.mk 3 pairN s' b' [u,v],y]) k Z=(Z,Z,false):=by simp only [sgP,sgnF,hB1,k0,k1,k2,k3,hB2,hB3,hG,hB4,Bool.false_and,Bool.and_false];rfl
         rw [e]
         rw [hB4] at c4
         have hf:=hfin Z Z
         clear hfin hfr hgo hB1 hB2 hB3 hB4 e k0 k1 k2 k3 hG
         try simp only [hZ] at hf ⊢
         simp only [Tm.cells] at c1 hj0 c3 hfz hf ⊢
         generalize cellsL [.mk 3 pairN s' b' [u,v],y]=L at c1 hj0 hj1 hfz hf ⊢
         generalize cellsL [u,v]=M at c3 hi0 hi1 hj0
         obtain ⟨k2,nm2,s2,b2,kids2⟩:=k
         obtain ⟨k3,nm3,s3,b3,kids3⟩:=u
         obtain ⟨k4,nm4,s4,b4,kids4⟩:=y
         obtain ⟨k5,nm5,s5,b5,kids5⟩:=G
         simp only [Tm.cells] at c1 c2 c3 c4 cg hj0 hj1 hi0 hi1 hfz hf ⊢
         refine callOk_wp (own:=(fun d=>[29999,50065,50072,50073,40128,40570,40602].any (Nat.beq d))) tOk fe88.ok hfz (hf 0 hNil) ?_
         refine Wp.seq ?_
         repeat' first | refine κn ?_ | refine κt ?_ | refine κg ?_ | (apply dCl;rfl;rfl;rfl;rfl;rfl;first | exact c1 _ | exact c2 _ | exact c3 _ | exact c4 _ | exact cg _) | refine κI ?_ | (apply dT (ty:=4);rfl;rfl;rfl;rfl) | (apply dF (ty:=4);rfl;rfl;rfl;rfl) | refine κh ?_ | refine κa ?_ | (apply Wp.drawS tOk follows;kernel_rfl;rfl) | refine κf ?_ | fail
         all_goals exact hf _ _
       | true =>
         rw [hB4] at c4
         cases hB5:v.isB pairN 2 with
         | false =>
           have e:sgP (.mk 3 signN s b [.mk 3 pairN s' b' [u,v],y]) k Z=(Z,Z,false):=by simp only [sgP,sgnF,hB1,k0,k1,k2,k3,hB2,hB3,hG,hB4,hB5,Bool.false_and,Bool.and_false];rfl
           rw [e]
           rw [hB5] at c5
           have hf:=hfin Z Z
           clear hfin hfr hgo hB1 hB2 hB3 hB4 hB5 e k0 k1 k2 k3 hG
           try simp only [hZ] at hf ⊢
           simp only [Tm.cells] at c1 hj0 c3 hfz hf ⊢
           generalize cellsL [.mk 3 pairN s' b' [u,v],y]=L at c1 hj0 hj1 hfz hf ⊢
           generalize cellsL [u,v]=M at c3 hi0 hi1 hj0
           obtain ⟨k2,nm2,s2,b2,kids2⟩:=k
           obtain ⟨k3,nm3,s3,b3,kids3⟩:=u
           obtain ⟨k4,nm4,s4,b4,kids4⟩:=y
           obtain ⟨k5,nm5,s5,b5,kids5⟩:=G
           obtain ⟨k6,nm6,s6,b6,kids6⟩:=v
           simp only [Tm.cells] at c1 c2 c3 c4 c5 cg hj0 hj1 hi0 hi1 hfz hf ⊢
           refine callOk_wp (own:=(fun d=>[29999,50065,50072,50073,40128,40570,40602].any (Nat.beq d))) tOk fe88.ok hfz (hf 0 hNil) ?_
           refine Wp.seq ?_
           repeat' first | refine κn ?_ | refine κk ?_ | refine κc (c5 _) ?_ | refine κx ?_ | refine κt ?_ | refine κg ?_ | (apply dCl;rfl;rfl;rfl;rfl;rfl;first | exact c1 _ | exact c2 _ | exact c3 _ | exact c4 _ | exact cg _) | refine κI ?_ | (apply dF (ty:=4);rfl;rfl;rfl;rfl) | refine κh ?_ | refine κa ?_ | (apply Wp.drawS tOk follows;kernel_rfl;rfl) | refine κf ?_ | fail
           all_goals exact hf _ _
         | true =>
           obtain ⟨s'',b'',n,w,rfl⟩:=isB2 hB5
           rw [hB5] at c5
           have hm0:(cellsL [n,w])[0]? = some n.cells:=rfl
           have hm1:(cellsL [n,w])[1]? = some w.cells:=rfl
           have k4:kid0 (.mk 3 pairN s'' b'' [n,w])=n:=rfl
           have k5:kid1 (.mk 3 pairN s'' b'' [n,w])=w:=rfl
           have e:sgP (.mk 3 signN s b [.mk 3 pairN s' b' [u,.mk 3 pairN s'' b'' [n,w]],y]) k Z=if atomD n=true then (n,w,true) else (Z,Z,false):=by simp only [sgP,sgnF,sgX,sgY,hB1,k0,k1,k2,k3,k4,k5,hB2,hB3,hG,hB4,hB5,Bool.true_and]
           rw [e]
           clear e hgo hB1 hB2 hB3 hB4 hB5 k0 k1 k2 k3 k4 k5 hG
           obtain ⟨kn,nmn,sn,bn,kidsn⟩:=n
           rw [atomD_mk]
           have q1:=neq_i kn 2
           have q2:=neq_i sn 4
           have q3:=eql_i kn 2
           have q4:=eql_i sn 4
           generalize decide (kn=2)=D1 at q1 q3 ⊢
           generalize decide (sn=4)=D2 at q2 q4 ⊢
           have hf:=hfr
           have hz:=hfin Z Z
           have hf:=fun m H=>hfr m H (.mk kn nmn sn bn kidsn) w true
           clear hfin hfr
           have hO:(D1=true∧D2=true)∨D1=false∨(D1=true∧D2=false):=by cases D1 <;> cases D2 <;> simp
           rcases hO with ⟨rfl,rfl⟩ | rfl | ⟨rfl,rfl⟩
           all_goals simp only [Bool.true_and,Bool.false_and,Bool.false_eq_true,if_false,if_true]
           all_goals
            try simp only [hZ] at hz ⊢
            simp only [Tm.cells] at c1 hj0 c3 hi1 c5 hm0 hf hfz hz ⊢
            generalize cellsL [.mk 3 pairN s' b' [u,.mk 3 pairN s'' b'' [.mk kn nmn sn bn kidsn,w]],y]=L at c1 hj0 hj1 hfz hz ⊢
            generalize cellsL [u,.mk 3 pairN s'' b'' [.mk kn nmn sn bn kidsn,w]]=M at c3 hi0 hi1 hj0
            generalize cellsL [.mk kn nmn sn bn kidsn,w]=N at c5 hm0 hm1 hi1
            obtain ⟨k2,nm2,s2,b2,kids2⟩:=k
            obtain ⟨k3,nm3,s3,b3,kids3⟩:=u
            obtain ⟨k4,nm4,s4,b4,kids4⟩:=y
            obtain ⟨k5,nm5,s5,b5,kids5⟩:=G
            obtain ⟨k6,nm6,s6,b6,kids6⟩:=w
            simp only [Tm.cells] at c1 c2 c3 c4 c5 cg hj0 hj1 hi0 hi1 hm0 hm1 hf hfz hz ⊢
            first
             | refine callOk_wp (own:=(fun d=>[29999,50065,50072,50073,40128,40570,40602].any (Nat.beq d))) tOk fe88.ok hfz (hf 0 hNil) ?_
             | refine callOk_wp (own:=(fun d=>[29999,50065,50072,50073,40128,40570,40602].any (Nat.beq d))) tOk fe88.ok hfz (hz 0 hNil) ?_
            refine Wp.seq ?_
            repeat' first | refine κn ?_ | refine κk ?_ | refine κc (c5 _) ?_ | refine κi ?_ | refine κx ?_ | refine κt ?_ | refine κg ?_ | (apply dCl;rfl;rfl;rfl;rfl;rfl;first | exact c1 _ | exact c2 _ | exact c3 _ | exact c4 _ | exact cg _) | refine κI ?_ | (apply dT (ty:=4);rfl;rfl;rfl;rfl) | (apply dF (ty:=4);rfl;rfl;rfl;rfl) | refine κh ?_ | refine κa ?_ | (apply Wp.drawS tOk follows;kernel_rfl;rfl) | refine κf ?_ | fail
           all_goals first
            | exact hf _ _
            | exact hz _ _
theorem c96 {t k Z:Tm} (hZ:Z.cells=t.cells) (ht:t.Ok) (hts:t.size≤1000000) (hk:k.Ok) (hks:k.size≤1000000):∀ H,CallOk E0 Tryz.prog 96 [.agg t.cells,.agg k.cells] H (.tup [.agg (sgR t k Z).1.cells,.agg (sgR t k Z).2.1.cells,.bool (sgR t k Z).2.2]) H:=by
 have c1:=c180 t signN
 have cg:=c181 ledgerN
 have hgo:(tagT ledgerN).Ok∧(tagT ledgerN).size≤1000000:=⟨okTag (by decide),by decide⟩
 have hfz:=frz2T t k
 have hfr:=fun m H=>frz3_two m H
 have hfin:∀ x y:Tm,∀ m H,frz3 m H (.tup [.agg x.cells,.agg y.cells,.bool false])=some (.tup [.agg x.cells,.agg y.cells,.bool false]):=fun x y m H=>hfr m H x y false
 cases hB1:t.isB signN 2 with
 | false =>
   have e:sgR t k Z=(Z,Z,false):=by simp only [sgR,shpF,hB1,Bool.false_and];rfl
   rw [e]
   rw [hB1] at c1
   have hf:=hfin Z Z
   clear hfin hfr cg hgo hB1 e
   try simp only [hZ] at hf ⊢
   obtain ⟨k1,nm1,s1,b1,kids1⟩:=t
   obtain ⟨k2,nm2,s2,b2,kids2⟩:=k
   simp only [Tm.cells] at c1 hfz hf ⊢
   refine callOk_wp (own:=(fun d=>[29999,50017,50024,50025,50129,50136,50137,40136,40290,40354,40472,40474,40490,40544,40546,40576,40578].any (Nat.beq d))) tOk fe96.ok hfz (hf 0 hNil) ?_
   refine Wp.seq ?_
   repeat' first | refine κn ?_ | refine κt ?_ | refine κg ?_ | (apply dK;rfl;rfl;rfl) | refine κd (c1 _) ?_ | (apply dT (ty:=4);rfl;rfl;rfl;rfl) | (apply dF (ty:=4);rfl;rfl;rfl;rfl) | refine κh ?_ | refine κa ?_ | (apply Wp.drawS tOk follows;kernel_rfl;rfl) | refine κf ?_ | fail
   all_goals exact hf _ _
 | true =>
   obtain ⟨s,b,x,y,rfl⟩:=isB2 hB1
   obtain ⟨⟨hx,hxs⟩,hy,hys⟩:=kids_ok ht hts
   rw [hB1] at c1
   have c2:=c15 hy hk hys hks
   have hj0:(cellsL [x,y])[0]? = some x.cells:=rfl
   have hj1:(cellsL [x,y])[1]? = some y.cells:=rfl
   have k0:kid0 (.mk 3 signN s b [x,y])=x:=rfl
   have k1:kid1 (.mk 3 signN s b [x,y])=y:=rfl
   have c3:=c180 x pairN
   cases hB2:decide (y.cmp k=0) with
   | false =>
     have e:sgR (.mk 3 signN s b [x,y]) k Z=(Z,Z,false):=by simp only [sgR,shpF,hB1,k1,hB2,Bool.false_and,Bool.and_false];rfl
     rw [e]
     rw [hB2] at c2
     have hf:=hfin Z Z
     clear hfin hfr cg hgo hB1 hB2 e c3 k0 k1
     try simp only [hZ] at hf ⊢
     simp only [Tm.cells] at c1 hfz hf ⊢
     generalize cellsL [x,y]=L at c1 hj0 hj1 hfz hf ⊢
     obtain ⟨k2,nm2,s2,b2,kids2⟩:=k
     obtain ⟨k3,nm3,s3,b3,kids3⟩:=x
     obtain ⟨k4,nm4,s4,b4,kids4⟩:=y
     simp only [Tm.cells] at c1 c2 hj0 hj1 hfz hf ⊢
     refine callOk_wp (own:=(fun d=>[29999,50017,50024,50025,50129,50136,50137,40136,40290,40354,40472,40474,40490,40544,40546,40576,40578].any (Nat.beq d))) tOk fe96.ok hfz (hf 0 hNil) ?_
     refine Wp.seq ?_
     repeat' first | refine κn ?_ | refine κt ?_ | refine κg ?_ | (apply dK;rfl;rfl;rfl) | refine κd (c1 _) ?_ | refine κd (c2 _) ?_ | refine κI ?_ | (apply dT (ty:=4);rfl;rfl;rfl;rfl) | (apply dF (ty:=4);rfl;rfl;rfl;rfl) | refine κh ?_ | refine κa ?_ | (apply Wp.drawS tOk follows;kernel_rfl;rfl) | refine κf ?_ | fail
     all_goals exact hf _ _
   | true =>
     rw [hB2] at c2
     cases hB3:x.isB pairN 2 with
     | false =>
       have e:sgR (.mk 3 signN s b [x,y]) k Z=(Z,Z,false):=by simp only [sgR,shpF,hB1,k0,k1,hB2,hB3,Bool.false_and,Bool.and_false];rfl
       rw [e]
       rw [hB3] at c3
       have hf:=hfin Z Z
       clear hfin hfr cg hgo hB1 hB2 hB3 e k0 k1
       try simp only [hZ] at hf ⊢
       simp only [Tm.cells] at c1 hfz hf ⊢
       generalize cellsL [x,y]=L at c1 hj0 hj1 hfz hf ⊢
       obtain ⟨k2,nm2,s2,b2,kids2⟩:=k
       obtain ⟨k3,nm3,s3,b3,kids3⟩:=x
       obtain ⟨k4,nm4,s4,b4,kids4⟩:=y
       simp only [Tm.cells] at c1 c2 c3 hj0 hj1 hfz hf ⊢
       refine callOk_wp (own:=(fun d=>[29999,50017,50024,50025,50129,50136,50137,40136,40290,40354,40472,40474,40490,40544,40546,40576,40578].any (Nat.beq d))) tOk fe96.ok hfz (hf 0 hNil) ?_
       refine Wp.seq ?_
       repeat' first | refine κn ?_ | refine κt ?_ | refine κg ?_ | (apply dCl;rfl;rfl;rfl;rfl;rfl;first | exact c1 _ | exact c2 _ | exact c3 _) | refine κI ?_ | (apply dT (ty:=4);rfl;rfl;rfl;rfl) | (apply dF (ty:=4);rfl;rfl;rfl;rfl) | refine κh ?_ | refine κa ?_ | (apply Wp.drawS tOk follows;kernel_rfl;rfl) | refine κf ?_ | fail
       all_goals exact hf _ _
     | true =>
       obtain ⟨s',b',u,v,rfl⟩:=isB2 hB3
       obtain ⟨⟨hu,hus⟩,hv,hvs⟩:=kids_ok hx hxs
       rw [hB3] at c3
       have c4:=c15 hu hgo.1 hus hgo.2
       have c5:=c180 v pairN
       have hi0:(cellsL [u,v])[0]? = some u.cells:=rfl
       have hi1:(cellsL [u,v])[1]? = some v.cells:=rfl
       have k2:kid0 (.mk 3 pairN s' b' [u,v])=u:=rfl
       have k3:kid1 (.mk 3 pairN s' b' [u,v])=v:=rfl
       generalize hG:tagT ledgerN=G at cg c4 hgo
       cases hB4:decide (u.cmp G=0) with
       | false =>
         have e:sgR (.mk 3 signN s b [.mk 3 pairN s' b' [u,v],y]) k Z=(Z,Z,false):=by simp only [sgR,shpF,hB1,k0,k1,k2,k3,hB2,hB3,hG,hB4,Bool.false_and,Bool.and_false];rfl
         rw [e]
         rw [hB4] at c4
         have hf:=hfin Z Z
         clear hfin hfr hgo hB1 hB2 hB3 hB4 e k0 k1 k2 k3 hG
         try simp only [hZ] at hf ⊢
         simp only [Tm.cells] at c1 hj0 c3 hfz hf ⊢
         generalize cellsL [.mk 3 pairN s' b' [u,v],y]=L at c1 hj0 hj1 hfz hf ⊢
         generalize cellsL [u,v]=M at c3 hi0 hi1 hj0
         obtain ⟨k2,nm2,s2,b2,kids2⟩:=k
         obtain ⟨k3,nm3,s3,b3,kids3⟩:=u
         obtain ⟨k4,nm4,s4,b4,kids4⟩:=y
         obtain ⟨k5,nm5,s5,b5,kids5⟩:=G
         simp only [Tm.cells] at c1 c2 c3 c4 cg hj0 hj1 hi0 hi1 hfz hf ⊢
         refine callOk_wp (own:=(fun d=>[29999,50017,50024,50025,50129,50136,50137,40136,40290,40354,40472,40474,40490,40544,40546,40576,40578].any (Nat.beq d))) tOk fe96.ok hfz (hf 0 hNil) ?_
         refine Wp.seq ?_
         repeat' first | refine κn ?_ | refine κx ?_ | refine κt ?_ | refine κg ?_ | (apply dK;rfl;rfl;rfl) | (apply dCl;rfl;rfl;rfl;rfl;rfl;first | exact c1 _ | exact c2 _ | exact c3 _ | exact c4 _ | exact cg _) | refine κI ?_ | (apply dT (ty:=4);rfl;rfl;rfl;rfl) | (apply dF (ty:=4);rfl;rfl;rfl;rfl) | refine κh ?_ | refine κa ?_ | (apply Wp.drawS tOk follows;kernel_rfl;rfl) | refine κf ?_ | fail
         all_goals exact hf _ _
       | true =>
         rw [hB4] at c4
         cases hB5:v.isB pairN 2 with
         | false =>
           have e:sgR (.mk 3 signN s b [.mk 3 pairN s' b' [u,v],y]) k Z=(Z,Z,false):=by simp only [sgR,shpF,hB1,k0,k1,k2,k3,hB2,hB3,hG,hB4,hB5,Bool.and_false];rfl
           rw [e]
           rw [hB5] at c5
           have hf:=hfin Z Z
           clear hfin hfr hgo hB1 hB2 hB3 hB4 hB5 e k0 k1 k2 k3 hG
           try simp only [hZ] at hf ⊢
           simp only [Tm.cells] at c1 hj0 c3 hfz hf ⊢
           generalize cellsL [.mk 3 pairN s' b' [u,v],y]=L at c1 hj0 hj1 hfz hf ⊢
           generalize cellsL [u,v]=M at c3 hi0 hi1 hj0
           obtain ⟨k2,nm2,s2,b2,kids2⟩:=k
           obtain ⟨k3,nm3,s3,b3,kids3⟩:=u
           obtain ⟨k4,nm4,s4,b4,kids4⟩:=y
           obtain ⟨k5,nm5,s5,b5,kids5⟩:=G
           obtain ⟨k6,nm6,s6,b6,kids6⟩:=v
           simp only [Tm.cells] at c1 c2 c3 c4 c5 cg hj0 hj1 hi0 hi1 hfz hf ⊢
           refine callOk_wp (own:=(fun d=>[29999,50017,50024,50025,50129,50136,50137,40136,40290,40354,40472,40474,40490,40544,40546,40576,40578].any (Nat.beq d))) tOk fe96.ok hfz (hf 0 hNil) ?_
           refine Wp.seq ?_
           repeat' first | refine κn ?_ | refine κx ?_ | refine κt ?_ | refine κg ?_ | (apply dCl;rfl;rfl;rfl;rfl;rfl;first | exact c1 _ | exact c2 _ | exact c3 _ | exact c4 _ | exact c5 _ | exact cg _) | refine κI ?_ | (apply dT (ty:=4);rfl;rfl;rfl;rfl) | (apply dF (ty:=4);rfl;rfl;rfl;rfl) | refine κh ?_ | refine κa ?_ | (apply Wp.drawS tOk follows;kernel_rfl;rfl) | refine κf ?_ | fail
           all_goals exact hf _ _
         | true =>
           obtain ⟨s'',b'',n,w,rfl⟩:=isB2 hB5
           rw [hB5] at c5
           have hm0:(cellsL [n,w])[0]? = some n.cells:=rfl
           have hm1:(cellsL [n,w])[1]? = some w.cells:=rfl
           have k4:kid0 (.mk 3 pairN s'' b'' [n,w])=n:=rfl
           have k5:kid1 (.mk 3 pairN s'' b'' [n,w])=w:=rfl
           have e:sgR (.mk 3 signN s b [.mk 3 pairN s' b' [u,.mk 3 pairN s'' b'' [n,w]],y]) k Z=(n,w,atomD n):=by simp only [sgR,shpF,sgX,sgY,hB1,k0,k1,k2,k3,k4,k5,hB2,hB3,hG,hB4,hB5,Bool.true_and];rfl
           rw [e]
           clear e hgo hB1 hB2 hB3 hB4 hB5 k0 k1 k2 k3 k4 k5 hG
           obtain ⟨kn,nmn,sn,bn,kidsn⟩:=n
           rw [atomD_mk]
           have q1:=neq_i kn 2
           have q2:=neq_i sn 4
           have q3:=eql_i kn 2
           have q4:=eql_i sn 4
           generalize decide (kn=2)=D1 at q1 q3 ⊢
           generalize decide (sn=4)=D2 at q2 q4 ⊢
           have hf:=fun m H=>hfr m H (.mk kn nmn sn bn kidsn) w (D1 && D2)
           clear hfin hfr
           have hO:(D1=true∧D2=true)∨D1=false∨(D1=true∧D2=false):=by cases D1 <;> cases D2 <;> simp
           rcases hO with ⟨rfl,rfl⟩ | rfl | ⟨rfl,rfl⟩
           all_goals simp only [Bool.true_and,Bool.false_and] at hf ⊢
           all_goals
            simp only [Tm.cells] at c1 hj0 c3 hi1 c5 hm0 hf hfz ⊢
            generalize cellsL [.mk 3 pairN s' b' [u,.mk 3 pairN s'' b'' [.mk kn nmn sn bn kidsn,w]],y]=L at c1 hj0 hj1 hfz ⊢
            generalize cellsL [u,.mk 3 pairN s'' b'' [.mk kn nmn sn bn kidsn,w]]=M at c3 hi0 hi1 hj0
            generalize cellsL [.mk kn nmn sn bn kidsn,w]=N at c5 hm0 hm1 hi1
            obtain ⟨k2,nm2,s2,b2,kids2⟩:=k
            obtain ⟨k3,nm3,s3,b3,kids3⟩:=u
            obtain ⟨k4,nm4,s4,b4,kids4⟩:=y
            obtain ⟨k5,nm5,s5,b5,kids5⟩:=G
            obtain ⟨k6,nm6,s6,b6,kids6⟩:=w
            simp only [Tm.cells] at c1 c2 c3 c4 c5 cg hj0 hj1 hi0 hi1 hm0 hm1 hf hfz ⊢
            refine callOk_wp (own:=(fun d=>[29999,50017,50024,50025,50129,50136,50137,40136,40290,40354,40472,40474,40490,40544,40546,40576,40578].any (Nat.beq d))) tOk fe96.ok hfz (hf 0 hNil) ?_
            refine Wp.seq ?_
            repeat' first | refine κn ?_ | refine κx ?_ | refine κt ?_ | refine κg ?_ | (apply dK;rfl;rfl;rfl) | (apply dCl;rfl;rfl;rfl;rfl;rfl;first | exact c1 _ | exact c2 _ | exact c3 _ | exact c4 _ | exact c5 _ | exact cg _) | refine κD ?_ | refine κI ?_ | (apply dT (ty:=4);rfl;rfl;rfl;rfl) | (apply dF (ty:=4);rfl;rfl;rfl;rfl) | refine κh ?_ | refine κa ?_ | (apply Wp.drawS tOk follows;kernel_rfl;rfl) | refine κf ?_ | fail
           all_goals exact hf _ _
end Go.Vm.Seat
