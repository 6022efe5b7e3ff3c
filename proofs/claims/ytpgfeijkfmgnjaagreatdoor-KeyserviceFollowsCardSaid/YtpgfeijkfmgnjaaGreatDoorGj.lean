/-
  What the document's reader answers to an answer.
-/
import Derived.Test.YtpgfeijkfmgnjaaGreatDoorGf
set_option maxHeartbeats 0
set_option maxRecDepth 100000
namespace Go.Vm.Seat
variable {t x:Tm} {a k s:Int} {nm:Bs} {b:Bool} {c:Rd} {S:Nat}
open Go.Proofs
theorem c32 {u:Tm} (ht:t.Ok) (hu:u.Ok) (h1:t.size≤1000000) (h2:u.size≤1000000):∀ H,CallOk E0 Tryz.prog 32 [.agg t.cells,.agg u.cells] H (.bool (decide (t.cmp u=0))) H:=by
 have hc:=fun H=>Zlw (d75 ht hu (by omega) (by omega) H)
 generalize t.cmp u=c at hc ⊢
 obtain ⟨k,nm,s,b,kz⟩:=t
 obtain ⟨k',nm',s',b',kz'⟩:=u
 simp only [Tm.cells] at hc ⊢
 refine Jw tOk fe32.ok rfl ?_
 repeat' first|refine Jc (hc _) ?_|refine Jt ?_|refine Jb ?_ ?_|refine Jo ?_|intro hb
 all_goals first|rfl|(congr 1;simp_all;done)
theorem YH (name:Bs) (key:Tm) (i t:Int):(Zv name key i t).cells= .str name::(key.cells++ [.bool false,.nils,.nils,.int .i64 i,.int .i64 0,.int .i64 t]):=by
 simp only [Zv,Cred.cells]
 rw [show Y2 []=([]:List (List PV)) from rfl]
 simp only [Zq]
theorem ZlF (name:Bs) (key:Tm) (i t:Int):Wr E0 65 [(0,.str name),(1,.agg key.cells),(4,.int .i64 i),(6,.int .i64 t)]=some (.agg (Zv name key i t).cells):=by
 rw [YH]
 obtain ⟨k,nm,s,b,kz⟩:=key
 rfl
theorem ZbR (m:Nat) (H:Heap) (x:Cred):frz3 m H (.agg x.cells)=some (.agg x.cells):=Zc3 m H x
theorem c31 {name:Bs} {key pub:Tm} (hn:name.length≤1000) (hk:key.Ok) (hks:key.size≤20000) (hp:pub.Ok) (hps:pub.size≤20000) (i t:Int):∀ H,CallOk E0 Tryz.prog 31 [.agg key.cells,.str name,.agg pub.cells,.int .i64 i,.int .i64 t] H (.tup [.agg ((Zv name pub i t).issue key).1.cells,.int .i64 ((Zv name pub i t).issue key).2]) H:=by
 have hc:=c59 (Zv name pub i t) (key:=key) (by simp only [Zv];omega) (by simp [Zv]) (by simp [Zv]) (by simp [Zv]) (by simp [Zv]) hp (by simp only [Zv];omega) hk (by omega)
 have hb:=ZlF name pub i t
 have hfr:=Yr 0 hNil ((Zv name pub i t).issue key).1 ((Zv name pub i t).issue key).2
 have hft:=fun m H=>Yr m H ((Zv name pub i t).issue key).1 ((Zv name pub i t).issue key).2
 rw [YH] at hc hb
 generalize (Zv name pub i t).issue key=R at hc hfr hft ⊢
 obtain ⟨⟨k,nm,s,b,kz⟩,e⟩:=R
 clear hn hk hks hp hps
 obtain ⟨k1,nm1,s1,b1,kz1⟩:=key
 obtain ⟨k2,nm2,s2,b2,kz2⟩:=pub
 simp only [Tm.cells,List.cons_append,List.nil_append] at hc hb hfr hft ⊢
 refine Jw tOk fe31.ok hfr ?_
 repeat' first|refine Jc (hc _) ?_|(apply qBd;rfl;rfl;rfl;assumption;exact IsV.aggN)|refine Jo ?_|fail
 all_goals exact hft _ _
theorem c92 (name:Bs) (key:Tm) (i t:Int):∀ H,CallOk E0 Tryz.prog 92 [.str name,.agg key.cells,.int .i64 i,.int .i64 t] H (.agg (Zv name key i t).cells) H:=by
 have hb:=ZlF name key i t
 have hfr:=ZbR 0 hNil (Zv name key i t)
 have hft:=fun m H=>ZbR m H (Zv name key i t)
 rw [YH] at hb hfr hft ⊢
 obtain ⟨k2,nm2,s2,b2,kz2⟩:=key
 simp only [Tm.cells,List.cons_append,List.nil_append] at hb hfr hft ⊢
 refine Jw tOk fe92.ok hfr ?_
 repeat' first|(apply qBd;rfl;rfl;rfl;assumption;exact IsV.aggN)|refine Jo ?_|fail
 all_goals exact hft _ _
theorem ZeA (m:Nat) (H:Heap) (t:Tm) (b:Bool):frz3 m H (.tup [.agg t.cells,.bool b])=some (.tup [.agg t.cells,.bool b]):=by
 have h:frz2 m H (.agg t.cells)=some (.agg t.cells):=Zz m H t
 show (match YR m H [.agg t.cells,.bool b] with|some vs'=>some (PV.tup vs')|none=>none)=_
 simp only [YR,h]
 rfl
theorem Zgz:(Tm.mk k nm s b [x]).size=x.size+1:=by simp only [Tm.size,Zx];omega
theorem ZnV (h:(Tm.mk k nm s b [x]).Ok):x.Ok:=by
 cases h with
 |mk _ _ _ _ hk=>exact hk x (by simp)
theorem ZuG (l:List Tm):ZP E0 .gtr 3 (.int .i64 ((Za l).length:Int)) (.int .i64 0)=some (.bool (decide (l≠ []))):=by
 show some (PV.bool (decide ((0:Int)<((Za l).length:Int))))=_
 rw [Zb]
 congr 2
 cases l<;>simp
theorem ZqH (h:a=0):ZP E0 .eql 30 (.int .i64 a) (.int .i64 0)=some (.bool true):=by
 show some (PV.bool (a==0))=_
 rw [h,beq_self_eq_true]
theorem Zrh (h:a≠0):ZP E0 .eql 30 (.int .i64 a) (.int .i64 0)=some (.bool false):=by
 show some (PV.bool (a==0))=_
 rw [beq_eq_false_iff_ne.2 h]
theorem ZkO (f:Tm→Tm) (h:Zhi c.svc=false):VI f c=false:=by simp only [VI,h,Bool.false_and]
theorem c30 (hc:ZiF 20000 c):∃ x:Tm,(VI Tm.cl c=true→x=YB c.svc)∧∀ H,CallOk E0 Tryz.prog 30 [.agg c.cells] H (.tup [.agg x.cells,.bool (VI Tm.cl c)]) H:=by
 obtain ⟨svc,n,h,sg⟩:=c
 obtain ⟨⟨o1,z1⟩,⟨o2,z2⟩,o3,z3⟩:=hc
 simp only [] at o1 z1 o2 z2 o3 z3
 have hF:=c72 o1 (by omega)
 obtain ⟨M,hM,hV⟩:=c73 o1 (by omega)
 have hMl:=ZuG M
 have hg:svc.ground=decide (M= []):=by
  unfold Tm.ground
  cases h:Uc 1 svc.all with
  | nil=>rw [hM.2 h];rfl
  | cons a r =>
    have h2:M≠ []:=fun e=>by rw [hM.1 e] at h;cases h
    simp [h2]
 by_cases hb:Zhi svc=true
 · simp only [Zhi, Bool.and_eq_true, decide_eq_true_eq] at hb
   obtain ⟨⟨hb1,⟨hb2,hb3⟩,hb4⟩,hb5⟩:=hb
   obtain ⟨s,b,x,rfl⟩:=Zma hb1 hb3
   have hx:=ZnV o1
   rw [Zgz] at z1
   have hsv:Zhi (.mk 3 [112,107] s b [x])=true:=by
    simp only [Zhi,Bool.and_eq_true,decide_eq_true_eq]
    exact ⟨⟨hb1,⟨hb2,hb3⟩,hb4⟩,hb5⟩
   rw [hb5] at hg
   obtain rfl:M= []:=of_decide_eq_true hg.symm
   have hFt:(decide ((Tm.mk 3 [112,107] s b [x]).valid=0∧(Tm.mk 3 [112,107] s b [x]).th=0)&&(Tm.mk 3 [112,107] s b [x]).fre)=true:=by rw [decide_eq_true ⟨hb2,hb3⟩,hb4];rfl
   rw [hFt] at hF
   have hj:(Za [x])[0]? = some x.cells:=rfl
   have hln:(Za [x]).length=1:=rfl
   have hk0:YB (.mk 3 [112,107] s b [x])=x:=rfl
   have hft:=fun m H b=>ZeA m H x b
   have hfz:∀ b,frz3 0 hNil (.tup [.agg Tm.zero.cells,.bool b])=some (.tup [.agg Tm.zero.cells,.bool b]):=fun b=>ZeA 0 hNil _ b
   clear hb1 hb2 hb3 hb4 hb5 hg hM hMl hFt
   simp only [Za,Zq] at hV
   by_cases hn:n=0
   · subst hn
     have q1:=Zob h
     have q2:=Zob sg
     have e:VI Tm.cl ⟨.mk 3 [112,107] s b [x],0,h,sg⟩=(QV h&&QV sg):=by
      simp only [VI,hsv,Bool.true_and,if_true]
     refine ⟨x,fun _=>hk0.symm,?_⟩
     rw [e]
     generalize QV h=B1 at q1 ⊢
     generalize QV sg=B2 at q2 ⊢
     have hfr:=hft 0 hNil (B1&&B2)
     clear e hsv o1 o2 o3 z1 z2 z3 hx hk0
     simp only [Rd.cells,Tm.cells] at hF hV ⊢
     generalize Za [x]=L at hF hV hj hln ⊢
     obtain ⟨k1,nm1,s1,b1,kz1⟩:=x
     obtain ⟨k2,nm2,s2,b2,kz2⟩:=h
     obtain ⟨k3,nm3,s3,b3,kz3⟩:=sg
     simp only [Tm.cells,List.cons_append,List.nil_append] at q1 q2 hj hft hfr ⊢
     cases B1<;>cases B2
     all_goals
      refine Zm (own:=fun d=>Nat.beq d 30013) tOk fe30.ok (by simp only [ZJ,frzG,XY,ZD];rfl) hfr ?_
      refine Wp.seq ?_
      repeat' first|refine Jc (hF _) ?_|refine Jc (hV _) ?_|refine Jt ?_|refine Jo ?_|(apply dK;rfl;rfl;rfl)|refine Jd (q1 _) ?_|refine Jd (q2 _) ?_|refine JI ?_|(apply dT (ty:=4);rfl;rfl;rfl;rfl)|(apply dF (ty:=4);rfl;rfl;rfl;rfl)|refine Jh ?_|(apply dWS tOk follows;rfl;kernel_rfl;rfl)|fail
     all_goals first
      | exact hft _ _ _
      | (exfalso;rw [hln] at hb;simp at hb;done)
   · have en := VC hn
     by_cases hr:n<1∨32<n
     · have e : VI Tm.cl ⟨.mk 3 [112, 107] s b [x], n, h, sg⟩ = false := by
         simp only [VI,hsv,Bool.true_and,if_neg hn,if_pos hr]
       refine ⟨.zero,(by intro hq;rw [e] at hq;cases hq),?_⟩
       rw [e]
       have hfr:=hfz false
       clear e hsv o1 o2 o3 z1 z2 z3 hx hk0
       simp only [Rd.cells,Tm.cells] at hF hV ⊢
       generalize Za [x]=L at hF hV hj hln ⊢
       obtain ⟨k1,nm1,s1,b1,kz1⟩:=x
       obtain ⟨k2,nm2,s2,b2,kz2⟩:=h
       obtain ⟨k3,nm3,s3,b3,kz3⟩:=sg
       simp only [Tm.cells,List.cons_append,List.nil_append] at hj hft ⊢
       by_cases h1:n<1
       · have e1 := X3 h1
         refine Zm (own:=fun d=>Nat.beq d 30013) tOk fe30.ok (by simp only [ZJ,frzG,XY,ZD];rfl) hfr ?_
         refine Wp.seq ?_
         repeat' first|refine Jk ?_|refine Jc (hF _) ?_|refine Jc (hV _) ?_|refine Ji ?_|refine Jt ?_|refine Jo ?_|fail
         all_goals (rw [Zk];rfl)
       · have e1 := Xo h1
         have e2:=Ze3 (a:=n) (b:=32) (by omega)
         refine Zm (own:=fun d=>Nat.beq d 30013) tOk fe30.ok (by simp only [ZJ,frzG,XY,ZD];rfl) hfr ?_
         refine Wp.seq ?_
         repeat' first|refine Jc (hF _) ?_|refine Jc (hV _) ?_|refine Ji ?_|refine Jt ?_|refine Jo ?_|fail
         all_goals (rw [Zk];rfl)
     · have e1 := Xo (a := n) (b := 1) (by omega)
       have e2:=ZdX (a:=n) (b:=32) (by omega)
       have cs:=c27 o2 (by omega) hx (by omega) n
       have hso:=ZcO Tm.cl (fun t ht=>⟨Wi ht,YN t⟩) n o2 hx
       have cq:=c32 hso.1 o3 (by omega) (by omega)
       have e:VI Tm.cl ⟨.mk 3 [112,107] s b [x],n,h,sg⟩=(decide ((Z5 Tm.cl h n x).2=0)&&decide ((Z5 Tm.cl h n x).1.cmp sg=0)):=by
        simp only [VI,hsv,Bool.true_and,if_neg hn,if_neg hr]
        rfl
       refine ⟨x,fun _=>hk0.symm,?_⟩
       rw [e]
       clear e hsv hso
       generalize Z5 Tm.cl h n x=S at cs cq ⊢
       obtain ⟨S,e'⟩:=S
       simp only [] at cs cq ⊢
       generalize decide (S.cmp sg=0)=D at cq ⊢
       have hfr:=hft 0 hNil (decide (e'=0)&&D)
       clear o1 o2 o3 z1 z2 z3 hx hk0
       simp only [Rd.cells,Tm.cells] at hF hV ⊢
       generalize Za [x]=L at hF hV hj hln ⊢
       obtain ⟨k1,nm1,s1,b1,kz1⟩:=x
       obtain ⟨k2,nm2,s2,b2,kz2⟩:=h
       obtain ⟨k3,nm3,s3,b3,kz3⟩:=sg
       obtain ⟨k4,nm4,s4,b4,kz4⟩:=S
       simp only [Tm.cells,List.cons_append,List.nil_append] at cs cq hj hft hfr ⊢
       by_cases he:e'=0
       · have e3 := ZqH he
         rw [decide_eq_true he] at hfr ⊢
         refine Zm (own:=fun d=>Nat.beq d 30013) tOk fe30.ok (by simp only [ZJ,frzG,XY,ZD];rfl) hfr ?_
         refine Wp.seq ?_
         repeat' first|refine Jc (hF _) ?_|refine Jc (hV _) ?_|refine Ji ?_|refine Jt ?_|refine Jo ?_|refine Jd (cs _) ?_|refine Jd (cq _) ?_|(apply dAl;rfl;rfl;rfl;rfl;exact IsV.ptrM;exact IsH.mkN)|refine JD ?_|refine JI ?_|(apply dT (ty:=4);rfl;rfl;rfl;rfl)|refine Jh ?_|(apply dWS tOk follows;rfl;kernel_rfl;rfl)|(apply dWB tOk follows;rfl;kernel_rfl;rfl;exact IsH.mkN)|fail
         all_goals first
          | exact hft _ _ _
          | (exfalso;rw [hln] at hb;simp at hb;done)
       · have e3 := Zrh he
         rw [decide_eq_false he] at hfr ⊢
         refine Zm (own:=fun d=>Nat.beq d 30013) tOk fe30.ok (by simp only [ZJ,frzG,XY,ZD];rfl) hfr ?_
         refine Wp.seq ?_
         repeat' first|refine Jc (hF _) ?_|refine Jc (hV _) ?_|refine Ji ?_|refine Jt ?_|refine Jo ?_|(apply dK;rfl;rfl;rfl)|refine Jd (cs _) ?_|(apply dAl;rfl;rfl;rfl;rfl;exact IsV.ptrM;exact IsH.mkN)|refine JD ?_|refine JI ?_|(apply dF (ty:=4);rfl;rfl;rfl;rfl)|refine Jh ?_|(apply dWS tOk follows;rfl;kernel_rfl;rfl)|(apply dWB tOk follows;rfl;kernel_rfl;rfl;exact IsH.mkN)|fail
         all_goals first
          | exact hft _ _ _
          | (exfalso;rw [hln] at hb;simp at hb;done)
 · have hb : Zhi svc = false := by simpa using hb
   have e:=ZkO Tm.cl (c:=⟨svc,n,h,sg⟩) hb
   refine ⟨.zero,(by intro hq;rw [e] at hq;cases hq),?_⟩
   rw [e]
   clear e
   have hfr:frz3 0 hNil (.tup [.agg Tm.zero.cells,.bool false])=some (.tup [.agg Tm.zero.cells,.bool false]):=ZeA 0 hNil _ _
   simp only [Zhi,hg] at hb
   generalize (decide (svc.valid=0∧svc.th=0)&&svc.fre)=F at hF hb
   generalize Za M=LM at hV hMl
   clear hM hg o1 o2 o3 z1 z2 z3
   obtain ⟨k,nm,s,b,kz⟩:=svc
   obtain ⟨k2,nm2,s2,b2,kz2⟩:=h
   obtain ⟨k3,nm3,s3,b3,kz3⟩:=sg
   simp only [Rd.cells,Tm.cells,List.cons_append,List.nil_append] at hF hV ⊢
   by_cases h1:k=3
   · subst h1
     by_cases h2:nm= [112,107]
     · subst h2
       have hb:(F&&decide (M= []))=false:=by simpa [pkB] using hb
       cases F with
       | false =>
         refine Zm (own:=fun d=>Nat.beq d 30013) tOk fe30.ok (by simp only [ZJ,frzG,XY,ZD];rfl) hfr ?_
         refine Wp.seq ?_
         repeat' first|refine Jk ?_|refine Jc (hF _) ?_|refine Jt ?_|refine Jo ?_|fail
         all_goals (rw [Zk];rfl)
       | true =>
         have hb:¬ M= []:=by simpa using hb
         rw [decide_eq_true hb] at hMl
         obtain ⟨c0,r0,rfl⟩:∃ c0 r0,LM=c0::r0:=by
          cases LM with
          | nil=>exact absurd hMl (by intro h;cases (show some (PV.bool false)=some (PV.bool true) from h))
          | cons c0 r0=>exact ⟨_,_,rfl⟩
         rw [Zw] at hV
         refine Zm (own:=fun d=>Nat.beq d 30013) tOk fe30.ok (by simp only [ZJ,frzG,XY,ZD];rfl) hfr ?_
         refine Wp.seq ?_
         repeat' first|refine Jc (hF _) ?_|refine Jc (hV _) ?_|refine Ji ?_|refine Jt ?_|refine Jo ?_|fail
         all_goals (rw [Zk];rfl)
     · have e2 := ZnH h2
       refine Zm (own:=fun d=>Nat.beq d 30013) tOk fe30.ok (by simp only [ZJ,frzG,XY,ZD];rfl) hfr ?_
       refine Wp.seq ?_
       repeat' first|refine Jk ?_|refine Ji ?_|refine Jt ?_|refine Jo ?_|fail
       all_goals (rw [Zk];rfl)
   · have e1 := Zif h1
     refine Zm (own:=fun d=>Nat.beq d 30013) tOk fe30.ok (by simp only [ZJ,frzG,XY,ZD];rfl) hfr ?_
     refine Wp.seq ?_
     repeat' first|refine Jk ?_|refine Ji ?_|refine Jt ?_|refine Jo ?_|fail
     all_goals (rw [Zk];rfl)
abbrev Zpf:=Rd×Tm×Int
def ZjS (R:Zpf):PV:= .tup [.agg R.1.cells,.agg R.2.1.cells,.int .i64 R.2.2]
theorem Zdv:Rd.zero.cells= [.int .i64 0,.str [],.int .i64 0,.nils,.int .i64 0,.int .i64 0,.str [],.int .i64 0,.nils,.int .i64 0,.str [],.int .i64 0,.nils]:=by
 simp only [Rd.zero,Rd.cells,Zk]
 rfl
theorem ZdO (e:Int):ZjS (.zero,.zero,e)= .tup [.agg [.int .i64 0,.str [],.int .i64 0,.nils,.int .i64 0,.int .i64 0,.str [],.int .i64 0,.nils,.int .i64 0,.str [],.int .i64 0,.nils],.agg [.int .i64 0,.str [],.int .i64 0,.nils],.int .i64 e]:=by
 simp only [ZjS,Zdv,Zk]
theorem Zix (m:Nat) (H:Heap) (x:Rd):frz2 m H (.agg x.cells)=some (.agg x.cells):=by
 obtain ⟨⟨k1,nm1,s1,b1,kz1⟩,n,⟨k2,nm2,s2,b2,kz2⟩,k3,nm3,s3,b3,kz3⟩:=x
 have h1:∀ cs,frz3 m H (.agg cs)=frz2 m H (.agg cs):=fun _=>rfl
 rw [← h1,Ws]
 simp only [Rd.cells,Tm.cells,List.cons_append,List.nil_append,Qf,U0]
 rfl
theorem Zdh (m:Nat) (H:Heap) (R:Zpf):frz3 m H (ZjS R)=some (ZjS R):=by
 have h1:frz2 m H (.agg R.2.1.cells)=some (.agg R.2.1.cells):=Zz m H R.2.1
 have h2:=Zix m H R.1
 show (match YR m H [.agg R.1.cells,.agg R.2.1.cells,.int .i64 R.2.2] with|some vs'=>some (PV.tup vs')|none=>none)=_
 simp only [YR,h1,h2]
 rfl
theorem ZmH (x y z:Tm) (n:Int):Wr E0 34 [(0,.agg x.cells),(1,.int .i64 n),(2,.agg y.cells),(3,.agg z.cells)]=some (.agg (Rd.mk x n y z).cells):=by
 obtain ⟨k1,nm1,s1,b1,kz1⟩:=x
 obtain ⟨k2,nm2,s2,b2,kz2⟩:=y
 obtain ⟨k3,nm3,s3,b3,kz3⟩:=z
 rfl
structure AnSm (a:An) (S:Nat):Prop where
 ok:AnOk a
 n:a.name.length≤100
 e:a.entry.size≤S
 h:a.head.size≤S
 s:a.signed.size≤S
 i:∀ t,t∈a.incl→t.size≤S
 x:∀ t,t∈a.ext→t.size≤S
 wi:(Lit.int .i64 a.idx).wf=true
 ws:(Lit.int .i64 a.size).wf=true
theorem Zm3 (ht:t.Ok) (hs:t.size≤S) (h1:1≤S):(YB t).Ok∧(YB t).size≤S:=by
 obtain ⟨k,nm,s,b,kz⟩:=t
 cases kz with
 |nil=>exact ⟨Tm.ok_zero,by simpa [YB,Tm.zero,Tm.size,Zx] using h1⟩
 | cons x r =>
   refine ⟨?_,?_⟩
   · cases ht with
     | mk _ _ _ _ hk=>exact hk x (by simp)
   · simp only [Tm.size, Zx] at hs
     show x.size≤S
     omega
theorem W0 (ht:t.Ok) (hs:t.size≤S) (h1:1≤S):(Zf t).1.key.Ok∧(Zf t).1.key.size≤S∧(Zf t).1.sub.length≤1000:=by
 have hz:Tm.zero.size≤S:=by simpa [Tm.zero,Tm.size,Zx] using h1
 rcases VQ t with e|⟨_,v,w,_⟩
 · rw [e]
   exact ⟨Tm.ok_zero,hz,by simp [Cred.zero]⟩
 · exact ⟨ht.part w,by have:=w.1;omega,(Zhg (.inr v)).1⟩
def ZrH (B1 B2 B3 B4 B5 B6 B7 B8 B9 B10:Bool) (R:Zpf):Zpf:=
 if B1=false then (.zero,.zero,1) else if B2=true then (.zero,.zero,2) else if B3=true∨B4=false then (.zero,.zero,2) else if B5=true then (.zero,.zero,9) else
 if B6=true∨B7=false∨B8=false∨B9=true∧B10=false then (.zero,.zero,18) else R
theorem Zmw (c : Rd) (a : An) : ZjO c a = ZrH (VI Tm.cl c) (decide ((Zf a.entry).2 ≠ 0)) (decide (((Zv a.name (Zf a.entry).1.key a.idx 9999).issue (YB c.svc)).2 ≠ 0)) (decide (((Zv a.name (Zf a.entry).1.key a.idx 9999).issue (YB c.svc)).1.cmp a.entry = 0)) (decide (a.size < c.size))
  (decide ((Z5 Tm.cl a.head a.size (YB c.svc)).2≠0)) (decide ((Z5 Tm.cl a.head a.size (YB c.svc)).1.cmp a.signed=0)) (Vv a.head a.size a.idx a.entry a.incl) (decide (0<c.size)) (V8 c.head c.size a.head a.size a.ext) (⟨c.svc.cl,a.size,a.head.cl,a.signed.cl⟩,(Zf a.entry).1.key.cl,0):=by
 unfold ZjO ZrH
 simp only [decide_eq_true_eq,decide_eq_false_iff_not]
theorem Ztr (B2 B3 B4 B5 B6 B7 B8 B9 B10 : Bool) : (B2 = true) ∨ (B2 = false ∧ B3 = true) ∨ (B2 = false ∧ B3 = false ∧ B4 = false) ∨ (B2 = false ∧ B3 = false ∧ B4 = true ∧ B5 = true) ∨ (B2 = false ∧ B3 = false ∧ B4 = true ∧ B5 = false ∧ B6 = true) ∨ (B2 = false ∧ B3 = false ∧ B4 = true ∧ B5 = false ∧ B6 = false ∧ B7 = false)
  ∨(B2=false∧B3=false∧B4=true∧B5=false∧B6=false∧B7=true∧B8=false)∨(B2=false∧B3=false∧B4=true∧B5=false∧B6=false∧B7=true∧B8=true∧B9=true∧B10=false)∨(B2=false∧B3=false∧B4=true∧B5=false∧B6=false∧B7=true∧B8=true∧B9=false)
  ∨(B2=false∧B3=false∧B4=true∧B5=false∧B6=false∧B7=true∧B8=true∧B9=true∧B10=true):=by
 cases B2<;>simp
 cases B3<;>simp
 cases B4<;>simp
 cases B5<;>simp
 cases B6<;>simp
 cases B7<;>simp
 cases B8<;>simp
 cases B9<;>simp
theorem Zqt (a b:Int):ZP E0 .lss 3 (.int .i64 a) (.int .i64 b)=some (.bool (decide (a<b))):=rfl
theorem ZpR (a:Int):ZP E0 .gtr 3 (.int .i64 a) (.int .i64 0)=some (.bool (decide (0<a))):=rfl
theorem c11 (hc:ZiF 2000 c) (wc:(Lit.int .i64 c.size).wf=true) {a:An} (ha:AnSm a 2000):∀ H,CallOk E0 Tryz.prog 11 [.agg c.cells,.agg a.cells] H (ZjS (ZjO c a)) H:=by
 obtain ⟨x,hx,ck⟩:=c30 (c:=c) ⟨⟨hc.1.1,by have:=hc.1.2;omega⟩,⟨hc.2.1.1,by have:=hc.2.1.2;omega⟩,hc.2.2.1,by have:=hc.2.2.2;omega⟩
 rw [Zmw]
 generalize hK:VI Tm.cl c=K at hx ck ⊢
 have hfv:=Zdh 0 hNil
 cases K with
 | false =>
   have hfr:=hfv (.zero,.zero,1)
   show ∀ H,CallOk E0 Tryz.prog _ _ H (ZjS (.zero,.zero,1)) H
   rw [ZdO] at hfr ⊢
   clear hx hK ha hc
   obtain ⟨⟨k1,nm1,s1,b1,kz1⟩,n,⟨k2,nm2,s2,b2,kz2⟩,k3,nm3,s3,b3,kz3⟩:=c
   obtain ⟨name,⟨k4,nm4,s4,b4,kz4⟩,ai,n',⟨k5,nm5,s5,b5,kz5⟩,⟨k6,nm6,s6,b6,kz6⟩,ib,incl,eb,ext⟩:=a
   obtain ⟨k7,nm7,s7,b7,kz7⟩:=x
   simp only [Rd.cells,An.cells,Tm.cells,List.cons_append,List.nil_append] at ck ⊢
   refine Jw tOk fe11.ok hfr ?_
   repeat' first|refine Jc (ck _) ?_|refine Jt ?_|refine Jo ?_|fail
   all_goals rfl
 | true =>
   have hx:=hx rfl
   subst hx
   have hkid:=Zm3 hc.1.1 hc.1.2 (by omega)
   obtain ⟨r1,r2,r3⟩:=W0 ha.ok.e ha.e (by omega)
   have cr:=c24 ha.ok.e (by have:=ha.e;omega)
   have ci:=c31 (name:=a.name) (by have:=ha.n;omega) hkid.1 (by have:=hkid.2;omega) r1 (by omega) a.idx 9999
   have hio:((Zv a.name (Zf a.entry).1.key a.idx 9999).issue (YB c.svc)).1.Ok∧((Zv a.name (Zf a.entry).1.key a.idx 9999).issue (YB c.svc)).1.size≤1000000:=by
    have h:=Xe (x:=Zv a.name (Zf a.entry).1.key a.idx 9999) (key:=YB c.svc) r1 hkid.1
    exact ⟨h.1,by have:=h.2;have:=hkid.2;simp only [Zv] at this h ⊢;omega⟩
   have cq1:=c32 hio.1 ha.ok.e hio.2 (by have:=ha.e;omega)
   have cs:=c27 ha.ok.h (by have:=ha.h;omega) hkid.1 (by have:=hkid.2;omega) a.size
   have hso:=ZcO Tm.cl (fun t ht=>⟨Wi ht,YN t⟩) a.size ha.ok.h hkid.1
   have cq2:=c32 hso.1 ha.ok.s (by have:=hso.2;have:=ha.h;have:=hkid.2;omega) (by have:=ha.s;omega)
   have c8:=c33 ha.ok.h (by have:=ha.h;omega) ha.ok.e (by have:=ha.e;omega) (fun t ht=>⟨ha.ok.i t ht,by have:=ha.i t ht;omega⟩) a.ib ha.ws ha.wi
   have c10:=c34 hc.2.1.1 (by have:=hc.2.1.2;omega) ha.ok.h (by have:=ha.h;omega) (fun t ht=>⟨ha.ok.x t ht,by have:=ha.x t ht;omega⟩) a.eb wc ha.ws
   have p1:=c20 hc.1.1 (by have:=hc.1.2;omega)
   have p2:=c20 ha.ok.h (by have:=ha.h;omega)
   have p3:=c20 ha.ok.s (by have:=ha.s;omega)
   have p4:=c20 r1 (by omega)
   have hbd:=ZmH c.svc.cl a.head.cl a.signed.cl a.size
   have e5:=Zqt a.size c.size
   have e9:=ZpR c.size
   have e2:=YF (Zf a.entry).2
   have e3:=YF ((Zv a.name (Zf a.entry).1.key a.idx 9999).issue (YB c.svc)).2
   have e6:=YF (Z5 Tm.cl a.head a.size (YB c.svc)).2
   clear hio hso r1 r2 r3 hkid hK hc ha wc
   generalize (Zv a.name (Zf a.entry).1.key a.idx 9999).issue (YB c.svc)=I at ci cq1 e3 ⊢
   generalize Z5 Tm.cl a.head a.size (YB c.svc)=S at cs cq2 e6 ⊢
   generalize Vv a.head a.size a.idx a.entry a.incl=B8 at c8 ⊢
   generalize V8 c.head c.size a.head a.size a.ext=B10 at c10 ⊢
   generalize Zf a.entry=R at cr ci p4 e2 ⊢
   obtain ⟨I,I2⟩:=I
   obtain ⟨S,S2⟩:=S
   obtain ⟨⟨sub,⟨k8,nm8,s8,b8,kz8⟩,iss,pn,per,en,exc,ser,fr,till⟩,R2⟩:=R
   simp only [] at cr ci p4 e2 cq1 e3 cs cq2 e6 ⊢
   generalize decide (R2≠0)=B2 at e2 ⊢
   generalize decide (I2≠0)=B3 at e3 ⊢
   generalize decide (I.cmp a.entry=0)=B4 at cq1 ⊢
   generalize decide (a.size<c.size)=B5 at e5 ⊢
   generalize decide (S2≠0)=B6 at e6 ⊢
   generalize decide (S.cmp a.signed=0)=B7 at cq2 ⊢
   generalize decide (0<c.size)=B9 at e9 ⊢
   generalize (Tm.mk k8 nm8 s8 b8 kz8).cl=P4 at p4 ⊢
   have hok:=hfv (⟨c.svc.cl,a.size,a.head.cl,a.signed.cl⟩,P4,0)
   have hokt:=fun m H=>Zdh m H (⟨c.svc.cl,a.size,a.head.cl,a.signed.cl⟩,P4,0)
   unfold ZjS at hok hokt
   simp only [] at hok hokt
   have hz:∀ e,ZjS (.zero,.zero,e)=_:=ZdO
   have hzf:=fun e=>hfv (.zero,.zero,e)
   have hO:ZjS (⟨c.svc.cl,a.size,a.head.cl,a.signed.cl⟩,P4,0)= .tup [.agg (Rd.mk c.svc.cl a.size a.head.cl a.signed.cl).cells,.agg P4.cells,.int .i64 0]:=rfl
   rcases Ztr B2 B3 B4 B5 B6 B7 B8 B9 B10 with rfl|⟨rfl,rfl⟩|⟨rfl,rfl,rfl⟩|⟨rfl,rfl,rfl,rfl⟩|⟨rfl,rfl,rfl,rfl,rfl⟩|⟨rfl,rfl,rfl,rfl,rfl,rfl⟩|⟨rfl,rfl,rfl,rfl,rfl,rfl,rfl⟩|⟨rfl,rfl,rfl,rfl,rfl,rfl,rfl,rfl,rfl⟩|⟨rfl,rfl,rfl,rfl,rfl,rfl,rfl,rfl⟩|⟨rfl,rfl,rfl,rfl,rfl,rfl,rfl,rfl,rfl⟩
   all_goals simp only [ZrH,Bool.true_eq_false,Bool.false_eq_true,if_false,if_true,or_true,true_or,or_self,and_false,false_and,and_self,hz,hO] at hzf ⊢
   all_goals
    generalize c.svc.cl=Q1 at p1 hbd hok hokt hO ⊢
    generalize a.head.cl=Q2 at p2 hbd hok hokt hO ⊢
    generalize a.signed.cl=Q3 at p3 hbd hok hokt hO ⊢
    generalize YB c.svc=kx at ck ci cs
    clear hz hO hfv
    obtain ⟨⟨k1,nm1,s1,b1,kz1⟩,n,⟨k2,nm2,s2,b2,kz2⟩,k3,nm3,s3,b3,kz3⟩:=c
    obtain ⟨name,⟨k4,nm4,s4,b4,kz4⟩,ai,n',⟨k5,nm5,s5,b5,kz5⟩,⟨k6,nm6,s6,b6,kz6⟩,ib,incl,eb,ext⟩:=a
    obtain ⟨k7,nm7,s7,b7,kz7⟩:=kx
    obtain ⟨k9,nm9,s9,b9,kz9⟩:=I
    obtain ⟨ka,nma,sa,ba,kza⟩:=S
    obtain ⟨kb,nmb,sb,bb,kzb⟩:=Q1
    obtain ⟨kc,nmc,sc,bc,kzc⟩:=Q2
    obtain ⟨kd,nmd,sd,bd,kzd⟩:=Q3
    obtain ⟨ke,nme,se,be,kze⟩:=P4
    simp only [Rd.cells,An.cells,Cred.cells,Tm.cells,List.cons_append,List.nil_append] at ck ci cs cr cq1 cq2 c8 c10 p1 p2 p3 p4 hbd hok hokt ⊢
    first
     | refine Zm (own:=fun _=>false) tOk fe11.ok (by simp only [ZJ,frzG,XY,ZD];rfl) hok ?_
     | refine Jw tOk fe11.ok (hzf _) ?_
    repeat' first|refine Jk ?_|(apply qCl;rfl;rfl;rfl;rfl;first|exact ck _|exact cr _|exact ci _|exact cq1 _|exact cs _|exact cq2 _|exact c8 _|exact c10 _)|refine Ji ?_|refine Jt ?_|refine Jo ?_|(apply dCl;rfl;rfl;rfl;rfl;rfl;first|exact p1 _|exact p2 _|exact p3 _|exact p4 _)|(apply dBd;rfl;rfl;rfl;assumption;exact IsV.aggN;rfl)|refine Jh ?_|(apply Wp.drawS tOk follows;kernel_rfl;rfl)|fail
   all_goals first
    | exact hokt _ _
    | rfl
theorem ZoL (a b:Bs):ZP E0 .neq 9 (.str a) (.str b)=some (.bool (decide (a≠b))):=by
 show some (PV.bool (!(a==b)))=_
 by_cases h:a=b<;>simp [h]
