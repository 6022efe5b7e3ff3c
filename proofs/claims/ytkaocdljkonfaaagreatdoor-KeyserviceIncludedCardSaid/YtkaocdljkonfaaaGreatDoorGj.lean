/-
  Readers of a service: the entry that is looked for, the key that is trusted. Readers of a service: the key that the document's reader trusts. What a r
-/
import Derived.Test.YtkaocdljkonfaaaGreatDoorGf
set_option maxHeartbeats 64000000
set_option maxRecDepth 100000
namespace Go.Vm.Seat
variable {t x:Tm} {a k s:Int} {nm:Bs} {b:Bool} {c:Rd} {S:Nat}
open Go.Proofs
theorem c39 {u:Tm} (ht:t.Ok) (hu:u.Ok) (h1:t.size≤1000000) (h2:u.size≤1000000):∀ H,CallOk E0 Tryz.prog 39 [.agg t.cells,.agg u.cells] H (.bool (decide (t.cmp u=0))) H:=by
 have hc:=fun H=>Zll (d77 ht hu (by omega) (by omega) H)
 generalize t.cmp u=c at hc ⊢
 obtain ⟨k,nm,s,b,kids⟩:=t
 obtain ⟨k',nm',s',b',kids'⟩:=u
 simp only [Tm.cells] at hc ⊢
 refine Jw tOk fe39.ok rfl ?_
 repeat' first|refine Jc (hc _) ?_|refine Jt ?_|refine Jb ?_ ?_|refine Jo ?_|intro hb
 all_goals first|rfl|(congr 1;simp_all;done)
theorem Yy (name:Bs) (key:Tm) (i t:Int):(Zj name key i t).cells= .str name::(key.cells++ [.bool false,.nils,.nils,.int .i64 i,.int .i64 0,.int .i64 t]):=by
 simp only [Zj,Cred.cells]
 rw [show Y8 []=([]:List (List PV)) from rfl]
 simp only [Zq]
theorem ZlN (name:Bs) (key:Tm) (i t:Int):XZ E0 91 [(0,.str name),(1,.agg key.cells),(4,.int .i64 i),(6,.int .i64 t)]=some (.agg (Zj name key i t).cells):=by
 rw [Yy]
 obtain ⟨k,nm,s,b,kids⟩:=key
 rfl
theorem Zbx (m:Nat) (H:Heap) (x:Cred):frz3 m H (.agg x.cells)=some (.agg x.cells):=Zdq m H x
theorem c58 {name:Bs} {key pub:Tm} (hn:name.length≤1000) (hk:key.Ok) (hks:key.size≤20000) (hp:pub.Ok) (hps:pub.size≤20000) (i t:Int):∀ H,CallOk E0 Tryz.prog 58 [.agg key.cells,.str name,.agg pub.cells,.int .i64 i,.int .i64 t] H (.tup [.agg ((Zj name pub i t).issue key).1.cells,.int .i64 ((Zj name pub i t).issue key).2]) H:=by
 have hc:=ZrP (Zj name pub i t) (key:=key) (by simp only [Zj];omega) (by simp [Zj]) (by simp [Zj]) (by simp [Zj]) (by simp [Zj]) hp (by simp only [Zj];omega) hk (by omega)
 have hb:=ZlN name pub i t
 have hfr:=YG 0 hNil ((Zj name pub i t).issue key).1 ((Zj name pub i t).issue key).2
 have hft:=fun m H=>YG m H ((Zj name pub i t).issue key).1 ((Zj name pub i t).issue key).2
 rw [Yy] at hc hb
 generalize (Zj name pub i t).issue key=R at hc hfr hft ⊢
 obtain ⟨⟨k,nm,s,b,kids⟩,e⟩:=R
 clear hn hk hks hp hps
 obtain ⟨k1,nm1,s1,b1,kids1⟩:=key
 obtain ⟨k2,nm2,s2,b2,kids2⟩:=pub
 simp only [Tm.cells,List.cons_append,List.nil_append] at hc hb hfr hft ⊢
 refine Jw tOk fe58.ok hfr ?_
 repeat' first|refine Jc (hc _) ?_|(apply qBd;rfl;rfl;rfl;assumption;exact IsV.aggN)|refine Jo ?_|fail
 all_goals exact hft _ _
theorem c68 (name:Bs) (key:Tm) (i t:Int):∀ H,CallOk E0 Tryz.prog 68 [.str name,.agg key.cells,.int .i64 i,.int .i64 t] H (.agg (Zj name key i t).cells) H:=by
 have hb:=ZlN name key i t
 have hfr:=Zbx 0 hNil (Zj name key i t)
 have hft:=fun m H=>Zbx m H (Zj name key i t)
 rw [Yy] at hb hfr hft ⊢
 obtain ⟨k2,nm2,s2,b2,kids2⟩:=key
 simp only [Tm.cells,List.cons_append,List.nil_append] at hb hfr hft ⊢
 refine Jw tOk fe68.ok hfr ?_
 repeat' first|(apply qBd;rfl;rfl;rfl;assumption;exact IsV.aggN)|refine Jo ?_|fail
 all_goals exact hft _ _
theorem ZeP (m:Nat) (H:Heap) (t:Tm) (b:Bool):frz3 m H (.tup [.agg t.cells,.bool b])=some (.tup [.agg t.cells,.bool b]):=by
 have h:frz2 m H (.agg t.cells)=some (.agg t.cells):=Zy m H t
 show (match Xk m H [.agg t.cells,.bool b] with|some vs'=>some (PV.tup vs')|none=>none)=_
 simp only [Xk,h]
 rfl
theorem QU:(Tm.mk k nm s b [x]).size=x.size+1:=by simp only [Tm.size,Zz];omega
theorem Zoz (h:(Tm.mk k nm s b [x]).Ok):x.Ok:=by
 cases h with
 |mk _ _ _ _ hk=>exact hk x (by simp)
theorem Zuq (l:List Tm):ZV E0 .gtr 3 (.int .i64 ((Za l).length:Int)) (.int .i64 0)=some (.bool (decide (l≠ []))):=by
 show some (PV.bool (decide ((0:Int)<((Za l).length:Int))))=_
 rw [Zb]
 congr 2
 cases l<;>simp
theorem Zqp (h:a=0):ZV E0 .eql 32 (.int .i64 a) (.int .i64 0)=some (.bool true):=by
 show some (PV.bool (a==0))=_
 rw [h,beq_self_eq_true]
theorem Zp2 (h:a≠0):ZV E0 .eql 32 (.int .i64 a) (.int .i64 0)=some (.bool false):=by
 show some (PV.bool (a==0))=_
 rw [beq_eq_false_iff_ne.2 h]
theorem Zj0 (f:Tm→Tm) (h:ZlT c.svc=false):ZgQ f c=false:=by simp only [ZgQ,h,Bool.false_and]
theorem c56 (hc:Zhd 20000 c):∃ x:Tm,(ZgQ Tm.cl c=true→x=Zal c.svc)∧∀ H,CallOk E0 Tryz.prog 56 [.agg c.cells] H (.tup [.agg x.cells,.bool (ZgQ Tm.cl c)]) H:=by
 obtain ⟨svc,n,h,sg⟩:=c
 obtain ⟨⟨o1,z1⟩,⟨o2,z2⟩,o3,z3⟩:=hc
 simp only [] at o1 z1 o2 z2 o3 z3
 have hF:=Zso o1 (by omega)
 obtain ⟨M,hM,hV⟩:=ZrY o1 (by omega)
 have hMl:=Zuq M
 have hg:svc.ground=decide (M= []):=by
  unfold Tm.ground
  cases h:V8 1 svc.all with
  | nil=>rw [hM.2 h];rfl
  | cons a r =>
    have h2:M≠ []:=fun e=>by rw [hM.1 e] at h;cases h
    simp [h2]
 by_cases hb:ZlT svc=true
 · simp only [ZlT, Bool.and_eq_true, decide_eq_true_eq] at hb
   obtain ⟨⟨hb1,⟨hb2,hb3⟩,hb4⟩,hb5⟩:=hb
   obtain ⟨s,b,x,rfl⟩:=Zl7 hb1 hb3
   have hx:=Zoz o1
   rw [QU] at z1
   have hsv:ZlT (.mk 3 [112,107] s b [x])=true:=by
    simp only [ZlT,Bool.and_eq_true,decide_eq_true_eq]
    exact ⟨⟨hb1,⟨hb2,hb3⟩,hb4⟩,hb5⟩
   rw [hb5] at hg
   obtain rfl:M= []:=of_decide_eq_true hg.symm
   have hFt:(decide ((Tm.mk 3 [112,107] s b [x]).valid=0∧(Tm.mk 3 [112,107] s b [x]).th=0)&&(Tm.mk 3 [112,107] s b [x]).fre)=true:=by rw [decide_eq_true ⟨hb2,hb3⟩,hb4];rfl
   rw [hFt] at hF
   have hj:(Za [x])[0]? = some x.cells:=rfl
   have hln:(Za [x]).length=1:=rfl
   have hk0:Zal (.mk 3 [112,107] s b [x])=x:=rfl
   have hft:=fun m H b=>ZeP m H x b
   have hfz:∀ b,frz3 0 hNil (.tup [.agg Tm.zero.cells,.bool b])=some (.tup [.agg Tm.zero.cells,.bool b]):=fun b=>ZeP 0 hNil _ b
   clear hb1 hb2 hb3 hb4 hb5 hg hM hMl hFt
   simp only [Za,Zq] at hV
   by_cases hn:n=0
   · subst hn
     have q1:=ZnD h
     have q2:=ZnD sg
     have e:ZgQ Tm.cl ⟨.mk 3 [112,107] s b [x],0,h,sg⟩=(Zcz h&&Zcz sg):=by
      simp only [ZgQ,hsv,Bool.true_and,if_true]
     refine ⟨x,fun _=>hk0.symm,?_⟩
     rw [e]
     generalize Zcz h=B1 at q1 ⊢
     generalize Zcz sg=B2 at q2 ⊢
     have hfr:=hft 0 hNil (B1&&B2)
     clear e hsv o1 o2 o3 z1 z2 z3 hx hk0
     simp only [Rd.cells,Tm.cells] at hF hV ⊢
     generalize Za [x]=L at hF hV hj hln ⊢
     obtain ⟨k1,nm1,s1,b1,kids1⟩:=x
     obtain ⟨k2,nm2,s2,b2,kids2⟩:=h
     obtain ⟨k3,nm3,s3,b3,kids3⟩:=sg
     simp only [Tm.cells,List.cons_append,List.nil_append] at q1 q2 hj hft hfr ⊢
     cases B1<;>cases B2
     all_goals
      refine Zr (own:=fun d=>Nat.beq d 30013) tOk fe56.ok (by simp only [ZC,frzG,Xm,Zu];rfl) hfr ?_
      refine Wp.seq ?_
      repeat' first|refine Jc (hF _) ?_|refine Jc (hV _) ?_|refine Jt ?_|refine Jo ?_|(apply dK;rfl;rfl;rfl)|refine Jd (q1 _) ?_|refine Jd (q2 _) ?_|refine JI ?_|(apply dT (ty:=4);rfl;rfl;rfl;rfl)|(apply dF (ty:=4);rfl;rfl;rfl;rfl)|refine Jh ?_|(apply dWS tOk follows;rfl;kernel_rfl;rfl)|fail
     all_goals first
      | exact hft _ _ _
      | (exfalso;rw [hln] at hb;simp at hb;done)
   · have en := V9 hn
     by_cases hr:n<1∨32<n
     · have e : ZgQ Tm.cl ⟨.mk 3 [112, 107] s b [x], n, h, sg⟩ = false := by
         simp only [ZgQ,hsv,Bool.true_and,if_neg hn,if_pos hr]
       refine ⟨.zero,(by intro hq;rw [e] at hq;cases hq),?_⟩
       rw [e]
       have hfr:=hfz false
       clear e hsv o1 o2 o3 z1 z2 z3 hx hk0
       simp only [Rd.cells,Tm.cells] at hF hV ⊢
       generalize Za [x]=L at hF hV hj hln ⊢
       obtain ⟨k1,nm1,s1,b1,kids1⟩:=x
       obtain ⟨k2,nm2,s2,b2,kids2⟩:=h
       obtain ⟨k3,nm3,s3,b3,kids3⟩:=sg
       simp only [Tm.cells,List.cons_append,List.nil_append] at hj hft ⊢
       by_cases h1:n<1
       · have e1 := We h1
         refine Zr (own:=fun d=>Nat.beq d 30013) tOk fe56.ok (by simp only [ZC,frzG,Xm,Zu];rfl) hfr ?_
         refine Wp.seq ?_
         repeat' first|refine Jk ?_|refine Jc (hF _) ?_|refine Jc (hV _) ?_|refine Ji ?_|refine Jt ?_|refine Jo ?_|fail
         all_goals (rw [Zn];rfl)
       · have e1 := XS h1
         have e2:=ZgZ (a:=n) (b:=32) (by omega)
         refine Zr (own:=fun d=>Nat.beq d 30013) tOk fe56.ok (by simp only [ZC,frzG,Xm,Zu];rfl) hfr ?_
         refine Wp.seq ?_
         repeat' first|refine Jc (hF _) ?_|refine Jc (hV _) ?_|refine Ji ?_|refine Jt ?_|refine Jo ?_|fail
         all_goals (rw [Zn];rfl)
     · have e1 := XS (a := n) (b := 1) (by omega)
       have e2:=Zhb (a:=n) (b:=32) (by omega)
       have cs:=c41 o2 (by omega) hx (by omega) n
       have hso:=Zi6 Tm.cl (fun t ht=>⟨Vi ht,YK t⟩) n o2 hx
       have cq:=c39 hso.1 o3 (by omega) (by omega)
       have e:ZgQ Tm.cl ⟨.mk 3 [112,107] s b [x],n,h,sg⟩=(decide ((Yw Tm.cl h n x).2=0)&&decide ((Yw Tm.cl h n x).1.cmp sg=0)):=by
        simp only [ZgQ,hsv,Bool.true_and,if_neg hn,if_neg hr]
        rfl
       refine ⟨x,fun _=>hk0.symm,?_⟩
       rw [e]
       clear e hsv hso
       generalize Yw Tm.cl h n x=S at cs cq ⊢
       obtain ⟨S,e'⟩:=S
       simp only [] at cs cq ⊢
       generalize decide (S.cmp sg=0)=D at cq ⊢
       have hfr:=hft 0 hNil (decide (e'=0)&&D)
       clear o1 o2 o3 z1 z2 z3 hx hk0
       simp only [Rd.cells,Tm.cells] at hF hV ⊢
       generalize Za [x]=L at hF hV hj hln ⊢
       obtain ⟨k1,nm1,s1,b1,kids1⟩:=x
       obtain ⟨k2,nm2,s2,b2,kids2⟩:=h
       obtain ⟨k3,nm3,s3,b3,kids3⟩:=sg
       obtain ⟨k4,nm4,s4,b4,kids4⟩:=S
       simp only [Tm.cells,List.cons_append,List.nil_append] at cs cq hj hft hfr ⊢
       by_cases he:e'=0
       · have e3 := Zqp he
         rw [decide_eq_true he] at hfr ⊢
         refine Zr (own:=fun d=>Nat.beq d 30013) tOk fe56.ok (by simp only [ZC,frzG,Xm,Zu];rfl) hfr ?_
         refine Wp.seq ?_
         repeat' first|refine Jc (hF _) ?_|refine Jc (hV _) ?_|refine Ji ?_|refine Jt ?_|refine Jo ?_|refine Jd (cs _) ?_|refine Jd (cq _) ?_|(apply dAl;rfl;rfl;rfl;rfl;exact IsV.ptrM;exact IsH.mkN)|refine JD ?_|refine JI ?_|(apply dT (ty:=4);rfl;rfl;rfl;rfl)|refine Jh ?_|(apply dWS tOk follows;rfl;kernel_rfl;rfl)|(apply dWB tOk follows;rfl;kernel_rfl;rfl;exact IsH.mkN)|fail
         all_goals first
          | exact hft _ _ _
          | (exfalso;rw [hln] at hb;simp at hb;done)
       · have e3 := Zp2 he
         rw [decide_eq_false he] at hfr ⊢
         refine Zr (own:=fun d=>Nat.beq d 30013) tOk fe56.ok (by simp only [ZC,frzG,Xm,Zu];rfl) hfr ?_
         refine Wp.seq ?_
         repeat' first|refine Jc (hF _) ?_|refine Jc (hV _) ?_|refine Ji ?_|refine Jt ?_|refine Jo ?_|(apply dK;rfl;rfl;rfl)|refine Jd (cs _) ?_|(apply dAl;rfl;rfl;rfl;rfl;exact IsV.ptrM;exact IsH.mkN)|refine JD ?_|refine JI ?_|(apply dF (ty:=4);rfl;rfl;rfl;rfl)|refine Jh ?_|(apply dWS tOk follows;rfl;kernel_rfl;rfl)|(apply dWB tOk follows;rfl;kernel_rfl;rfl;exact IsH.mkN)|fail
         all_goals first
          | exact hft _ _ _
          | (exfalso;rw [hln] at hb;simp at hb;done)
 · have hb : ZlT svc = false := by simpa using hb
   have e:=Zj0 Tm.cl (c:=⟨svc,n,h,sg⟩) hb
   refine ⟨.zero,(by intro hq;rw [e] at hq;cases hq),?_⟩
   rw [e]
   clear e
   have hfr:frz3 0 hNil (.tup [.agg Tm.zero.cells,.bool false])=some (.tup [.agg Tm.zero.cells,.bool false]):=ZeP 0 hNil _ _
   simp only [ZlT,hg] at hb
   generalize (decide (svc.valid=0∧svc.th=0)&&svc.fre)=F at hF hb
   generalize Za M=LM at hV hMl
   clear hM hg o1 o2 o3 z1 z2 z3
   obtain ⟨k,nm,s,b,kids⟩:=svc
   obtain ⟨k2,nm2,s2,b2,kids2⟩:=h
   obtain ⟨k3,nm3,s3,b3,kids3⟩:=sg
   simp only [Rd.cells,Tm.cells,List.cons_append,List.nil_append] at hF hV ⊢
   by_cases h1:k=3
   · subst h1
     by_cases h2:nm= [112,107]
     · subst h2
       have hb:(F&&decide (M= []))=false:=by simpa [pkB] using hb
       cases F with
       | false =>
         refine Zr (own:=fun d=>Nat.beq d 30013) tOk fe56.ok (by simp only [ZC,frzG,Xm,Zu];rfl) hfr ?_
         refine Wp.seq ?_
         repeat' first|refine Jk ?_|refine Jc (hF _) ?_|refine Jt ?_|refine Jo ?_|fail
         all_goals (rw [Zn];rfl)
       | true =>
         have hb:¬ M= []:=by simpa using hb
         rw [decide_eq_true hb] at hMl
         obtain ⟨c0,r0,rfl⟩:∃ c0 r0,LM=c0::r0:=by
          cases LM with
          | nil=>exact absurd hMl (by intro h;cases (show some (PV.bool false)=some (PV.bool true) from h))
          | cons c0 r0=>exact ⟨_,_,rfl⟩
         rw [Zw] at hV
         refine Zr (own:=fun d=>Nat.beq d 30013) tOk fe56.ok (by simp only [ZC,frzG,Xm,Zu];rfl) hfr ?_
         refine Wp.seq ?_
         repeat' first|refine Jc (hF _) ?_|refine Jc (hV _) ?_|refine Ji ?_|refine Jt ?_|refine Jo ?_|fail
         all_goals (rw [Zn];rfl)
     · have e2 := ZnI h2
       refine Zr (own:=fun d=>Nat.beq d 30013) tOk fe56.ok (by simp only [ZC,frzG,Xm,Zu];rfl) hfr ?_
       refine Wp.seq ?_
       repeat' first|refine Jk ?_|refine Ji ?_|refine Jt ?_|refine Jo ?_|fail
       all_goals (rw [Zn];rfl)
   · have e1 := ZiH h1
     refine Zr (own:=fun d=>Nat.beq d 30013) tOk fe56.ok (by simp only [ZC,frzG,Xm,Zu];rfl) hfr ?_
     refine Wp.seq ?_
     repeat' first|refine Jk ?_|refine Ji ?_|refine Jt ?_|refine Jo ?_|fail
     all_goals (rw [Zn];rfl)
open Go.Proofs
open Go.Proofs
abbrev Zo7:=Rd×Tm×Int
def ZjR (R:Zo7):PV:= .tup [.agg R.1.cells,.agg R.2.1.cells,.int .i64 R.2.2]
theorem ZaY:Rd.zero.cells= [.int .i64 0,.str [],.int .i64 0,.nils,.int .i64 0,.int .i64 0,.str [],.int .i64 0,.nils,.int .i64 0,.str [],.int .i64 0,.nils]:=by
 simp only [Rd.zero,Rd.cells,Zn]
 rfl
theorem Zc0 (e:Int):ZjR (.zero,.zero,e)= .tup [.agg [.int .i64 0,.str [],.int .i64 0,.nils,.int .i64 0,.int .i64 0,.str [],.int .i64 0,.nils,.int .i64 0,.str [],.int .i64 0,.nils],.agg [.int .i64 0,.str [],.int .i64 0,.nils],.int .i64 e]:=by
 simp only [ZjR,ZaY,Zn]
theorem Zje (m:Nat) (H:Heap) (x:Rd):frz2 m H (.agg x.cells)=some (.agg x.cells):=by
 obtain ⟨⟨k1,nm1,s1,b1,kids1⟩,n,⟨k2,nm2,s2,b2,kids2⟩,k3,nm3,s3,b3,kids3⟩:=x
 have h1:∀ cs,frz3 m H (.agg cs)=frz2 m H (.agg cs):=fun _=>rfl
 rw [← h1,Wq]
 simp only [Rd.cells,Tm.cells,List.cons_append,List.nil_append,Qf,UI]
 rfl
theorem Zc7 (m:Nat) (H:Heap) (R:Zo7):frz3 m H (ZjR R)=some (ZjR R):=by
 have h1:frz2 m H (.agg R.2.1.cells)=some (.agg R.2.1.cells):=Zy m H R.2.1
 have h2:=Zje m H R.1
 show (match Xk m H [.agg R.1.cells,.agg R.2.1.cells,.int .i64 R.2.2] with|some vs'=>some (PV.tup vs')|none=>none)=_
 simp only [Xk,h1,h2]
 rfl
theorem ZmZ (x y z:Tm) (n:Int):XZ E0 31 [(0,.agg x.cells),(1,.int .i64 n),(2,.agg y.cells),(3,.agg z.cells)]=some (.agg (Rd.mk x n y z).cells):=by
 obtain ⟨k1,nm1,s1,b1,kids1⟩:=x
 obtain ⟨k2,nm2,s2,b2,kids2⟩:=y
 obtain ⟨k3,nm3,s3,b3,kids3⟩:=z
 rfl
structure AnSm (a:An) (S:Nat):Prop where
 ok:AnOk a
 n:a.name.length≤100
 e:a.entry.size≤S
 h:a.head.size≤S
 s:a.signed.size≤S
 i:∀ t,t∈a.incl→t.size≤S
 x:∀ t,t∈a.ext→t.size≤S
 wi:(Lit.int .i64 a.idx).wf=true
 ws:(Lit.int .i64 a.size).wf=true
theorem Znh (ht:t.Ok) (hs:t.size≤S) (h1:1≤S):(Zal t).Ok∧(Zal t).size≤S:=by
 obtain ⟨k,nm,s,b,kids⟩:=t
 cases kids with
 |nil=>exact ⟨Tm.ok_zero,by simpa [Zal,Tm.zero,Tm.size,Zz] using h1⟩
 | cons x r =>
   refine ⟨?_,?_⟩
   · cases ht with
     | mk _ _ _ _ hk=>exact hk x (by simp)
   · simp only [Tm.size, Zz] at hs
     show x.size≤S
     omega
theorem WW (ht:t.Ok) (hs:t.size≤S) (h1:1≤S):(Zf t).1.key.Ok∧(Zf t).1.key.size≤S∧(Zf t).1.sub.length≤1000:=by
 have hz:Tm.zero.size≤S:=by simpa [Tm.zero,Tm.size,Zz] using h1
 rcases UY t with e|⟨_,v,w,_⟩
 · rw [e]
   exact ⟨Tm.ok_zero,hz,by simp [Cred.zero]⟩
 · exact ⟨ht.part w,by have:=w.1;omega,(ZgJ (.inr v)).1⟩
def Zpr (B1 B2 B3 B4 B5 B6 B7 B8 B9 B10:Bool) (R:Zo7):Zo7:=
 if B1=false then (.zero,.zero,1) else if B2=true then (.zero,.zero,2) else if B3=true∨B4=false then (.zero,.zero,2) else if B5=true then (.zero,.zero,9) else
 if B6=true∨B7=false∨B8=false∨B9=true∧B10=false then (.zero,.zero,18) else R
theorem ZmI (c : Rd) (a : An) : Zhk c a = Zpr (ZgQ Tm.cl c) (decide ((Zf a.entry).2 ≠ 0)) (decide (((Zj a.name (Zf a.entry).1.key a.idx 9999).issue (Zal c.svc)).2 ≠ 0)) (decide (((Zj a.name (Zf a.entry).1.key a.idx 9999).issue (Zal c.svc)).1.cmp a.entry = 0)) (decide (a.size < c.size))
  (decide ((Yw Tm.cl a.head a.size (Zal c.svc)).2≠0)) (decide ((Yw Tm.cl a.head a.size (Zal c.svc)).1.cmp a.signed=0)) (Vh a.head a.size a.idx a.entry a.incl) (decide (0<c.size)) (Zaq c.head c.size a.head a.size a.ext) (⟨c.svc.cl,a.size,a.head.cl,a.signed.cl⟩,(Zf a.entry).1.key.cl,0):=by
 unfold Zhk Zpr
 simp only [decide_eq_true_eq,decide_eq_false_iff_not]
theorem Zt2 (B2 B3 B4 B5 B6 B7 B8 B9 B10 : Bool) : (B2 = true) ∨ (B2 = false ∧ B3 = true) ∨ (B2 = false ∧ B3 = false ∧ B4 = false) ∨ (B2 = false ∧ B3 = false ∧ B4 = true ∧ B5 = true) ∨ (B2 = false ∧ B3 = false ∧ B4 = true ∧ B5 = false ∧ B6 = true) ∨ (B2 = false ∧ B3 = false ∧ B4 = true ∧ B5 = false ∧ B6 = false ∧ B7 = false)
  ∨(B2=false∧B3=false∧B4=true∧B5=false∧B6=false∧B7=true∧B8=false)∨(B2=false∧B3=false∧B4=true∧B5=false∧B6=false∧B7=true∧B8=true∧B9=true∧B10=false)∨(B2=false∧B3=false∧B4=true∧B5=false∧B6=false∧B7=true∧B8=true∧B9=false)
  ∨(B2=false∧B3=false∧B4=true∧B5=false∧B6=false∧B7=true∧B8=true∧B9=true∧B10=true):=by
 cases B2<;>simp
 cases B3<;>simp
 cases B4<;>simp
 cases B5<;>simp
 cases B6<;>simp
 cases B7<;>simp
 cases B8<;>simp
 cases B9<;>simp
theorem ZqL (a b:Int):ZV E0 .lss 3 (.int .i64 a) (.int .i64 b)=some (.bool (decide (a<b))):=rfl
theorem Zp9 (a:Int):ZV E0 .gtr 3 (.int .i64 a) (.int .i64 0)=some (.bool (decide (0<a))):=rfl
theorem c22 (hc:Zhd 2000 c) (wc:(Lit.int .i64 c.size).wf=true) {a:An} (ha:AnSm a 2000):∀ H,CallOk E0 Tryz.prog 22 [.agg c.cells,.agg a.cells] H (ZjR (Zhk c a)) H:=by
 obtain ⟨x,hx,ck⟩:=c56 (c:=c) ⟨⟨hc.1.1,by have:=hc.1.2;omega⟩,⟨hc.2.1.1,by have:=hc.2.1.2;omega⟩,hc.2.2.1,by have:=hc.2.2.2;omega⟩
 rw [ZmI]
 generalize hK:ZgQ Tm.cl c=K at hx ck ⊢
 have hfv:=Zc7 0 hNil
 cases K with
 | false =>
   have hfr:=hfv (.zero,.zero,1)
   show ∀ H,CallOk E0 Tryz.prog _ _ H (ZjR (.zero,.zero,1)) H
   rw [Zc0] at hfr ⊢
   clear hx hK ha hc
   obtain ⟨⟨k1,nm1,s1,b1,kids1⟩,n,⟨k2,nm2,s2,b2,kids2⟩,k3,nm3,s3,b3,kids3⟩:=c
   obtain ⟨name,⟨k4,nm4,s4,b4,kids4⟩,ai,n',⟨k5,nm5,s5,b5,kids5⟩,⟨k6,nm6,s6,b6,kids6⟩,ib,incl,eb,ext⟩:=a
   obtain ⟨k7,nm7,s7,b7,kids7⟩:=x
   simp only [Rd.cells,An.cells,Tm.cells,List.cons_append,List.nil_append] at ck ⊢
   refine Jw tOk fe22.ok hfr ?_
   repeat' first|refine Jc (ck _) ?_|refine Jt ?_|refine Jo ?_|fail
   all_goals rfl
 | true =>
   have hx:=hx rfl
   subst hx
   have hkid:=Znh hc.1.1 hc.1.2 (by omega)
   obtain ⟨r1,r2,r3⟩:=WW ha.ok.e ha.e (by omega)
   have cr:=c57 ha.ok.e (by have:=ha.e;omega)
   have ci:=c58 (name:=a.name) (by have:=ha.n;omega) hkid.1 (by have:=hkid.2;omega) r1 (by omega) a.idx 9999
   have hio:((Zj a.name (Zf a.entry).1.key a.idx 9999).issue (Zal c.svc)).1.Ok∧((Zj a.name (Zf a.entry).1.key a.idx 9999).issue (Zal c.svc)).1.size≤1000000:=by
    have h:=Yv (x:=Zj a.name (Zf a.entry).1.key a.idx 9999) (key:=Zal c.svc) r1 hkid.1
    exact ⟨h.1,by have:=h.2;have:=hkid.2;simp only [Zj] at this h ⊢;omega⟩
   have cq1:=c39 hio.1 ha.ok.e hio.2 (by have:=ha.e;omega)
   have cs:=c41 ha.ok.h (by have:=ha.h;omega) hkid.1 (by have:=hkid.2;omega) a.size
   have hso:=Zi6 Tm.cl (fun t ht=>⟨Vi ht,YK t⟩) a.size ha.ok.h hkid.1
   have cq2:=c39 hso.1 ha.ok.s (by have:=hso.2;have:=ha.h;have:=hkid.2;omega) (by have:=ha.s;omega)
   have c8:=c59 ha.ok.h (by have:=ha.h;omega) ha.ok.e (by have:=ha.e;omega) (fun t ht=>⟨ha.ok.i t ht,by have:=ha.i t ht;omega⟩) a.ib ha.ws ha.wi
   have c10:=c60 hc.2.1.1 (by have:=hc.2.1.2;omega) ha.ok.h (by have:=ha.h;omega) (fun t ht=>⟨ha.ok.x t ht,by have:=ha.x t ht;omega⟩) a.eb wc ha.ws
   have p1:=c33 hc.1.1 (by have:=hc.1.2;omega)
   have p2:=c33 ha.ok.h (by have:=ha.h;omega)
   have p3:=c33 ha.ok.s (by have:=ha.s;omega)
   have p4:=c33 r1 (by omega)
   have hbd:=ZmZ c.svc.cl a.head.cl a.signed.cl a.size
   have e5:=ZqL a.size c.size
   have e9:=Zp9 c.size
   have e2:=Ye (Zf a.entry).2
   have e3:=Ye ((Zj a.name (Zf a.entry).1.key a.idx 9999).issue (Zal c.svc)).2
   have e6:=Ye (Yw Tm.cl a.head a.size (Zal c.svc)).2
   clear hio hso r1 r2 r3 hkid hK hc ha wc
   generalize (Zj a.name (Zf a.entry).1.key a.idx 9999).issue (Zal c.svc)=I at ci cq1 e3 ⊢
   generalize Yw Tm.cl a.head a.size (Zal c.svc)=S at cs cq2 e6 ⊢
   generalize Vh a.head a.size a.idx a.entry a.incl=B8 at c8 ⊢
   generalize Zaq c.head c.size a.head a.size a.ext=B10 at c10 ⊢
   generalize Zf a.entry=R at cr ci p4 e2 ⊢
   obtain ⟨I,I2⟩:=I
   obtain ⟨S,S2⟩:=S
   obtain ⟨⟨sub,⟨k8,nm8,s8,b8,kids8⟩,iss,pn,per,en,exc,ser,fr,till⟩,R2⟩:=R
   simp only [] at cr ci p4 e2 cq1 e3 cs cq2 e6 ⊢
   generalize decide (R2≠0)=B2 at e2 ⊢
   generalize decide (I2≠0)=B3 at e3 ⊢
   generalize decide (I.cmp a.entry=0)=B4 at cq1 ⊢
   generalize decide (a.size<c.size)=B5 at e5 ⊢
   generalize decide (S2≠0)=B6 at e6 ⊢
   generalize decide (S.cmp a.signed=0)=B7 at cq2 ⊢
   generalize decide (0<c.size)=B9 at e9 ⊢
   generalize (Tm.mk k8 nm8 s8 b8 kids8).cl=P4 at p4 ⊢
   have hok:=hfv (⟨c.svc.cl,a.size,a.head.cl,a.signed.cl⟩,P4,0)
   have hokt:=fun m H=>Zc7 m H (⟨c.svc.cl,a.size,a.head.cl,a.signed.cl⟩,P4,0)
   unfold ZjR at hok hokt
   simp only [] at hok hokt
   have hz:∀ e,ZjR (.zero,.zero,e)=_:=Zc0
   have hzf:=fun e=>hfv (.zero,.zero,e)
   have hO:ZjR (⟨c.svc.cl,a.size,a.head.cl,a.signed.cl⟩,P4,0)= .tup [.agg (Rd.mk c.svc.cl a.size a.head.cl a.signed.cl).cells,.agg P4.cells,.int .i64 0]:=rfl
   rcases Zt2 B2 B3 B4 B5 B6 B7 B8 B9 B10 with rfl|⟨rfl,rfl⟩|⟨rfl,rfl,rfl⟩|⟨rfl,rfl,rfl,rfl⟩|⟨rfl,rfl,rfl,rfl,rfl⟩|⟨rfl,rfl,rfl,rfl,rfl,rfl⟩|⟨rfl,rfl,rfl,rfl,rfl,rfl,rfl⟩|⟨rfl,rfl,rfl,rfl,rfl,rfl,rfl,rfl,rfl⟩|⟨rfl,rfl,rfl,rfl,rfl,rfl,rfl,rfl⟩|⟨rfl,rfl,rfl,rfl,rfl,rfl,rfl,rfl,rfl⟩
   all_goals simp only [Zpr,Bool.true_eq_false,Bool.false_eq_true,if_false,if_true,or_true,true_or,or_self,and_false,false_and,and_self,hz,hO] at hzf ⊢
   all_goals
    generalize c.svc.cl=Q1 at p1 hbd hok hokt hO ⊢
    generalize a.head.cl=Q2 at p2 hbd hok hokt hO ⊢
    generalize a.signed.cl=Q3 at p3 hbd hok hokt hO ⊢
    generalize Zal c.svc=kx at ck ci cs
    clear hz hO hfv
    obtain ⟨⟨k1,nm1,s1,b1,kids1⟩,n,⟨k2,nm2,s2,b2,kids2⟩,k3,nm3,s3,b3,kids3⟩:=c
    obtain ⟨name,⟨k4,nm4,s4,b4,kids4⟩,ai,n',⟨k5,nm5,s5,b5,kids5⟩,⟨k6,nm6,s6,b6,kids6⟩,ib,incl,eb,ext⟩:=a
    obtain ⟨k7,nm7,s7,b7,kids7⟩:=kx
    obtain ⟨k9,nm9,s9,b9,kids9⟩:=I
    obtain ⟨ka,nma,sa,ba,kidsa⟩:=S
    obtain ⟨kb,nmb,sb,bb,kidsb⟩:=Q1
    obtain ⟨kc,nmc,sc,bc,kidsc⟩:=Q2
    obtain ⟨kd,nmd,sd,bd,kidsd⟩:=Q3
    obtain ⟨ke,nme,se,be,kidse⟩:=P4
    simp only [Rd.cells,An.cells,Cred.cells,Tm.cells,List.cons_append,List.nil_append] at ck ci cs cr cq1 cq2 c8 c10 p1 p2 p3 p4 hbd hok hokt ⊢
    first
     | refine Zr (own:=fun _=>false) tOk fe22.ok (by simp only [ZC,frzG,Xm,Zu];rfl) hok ?_
     | refine Jw tOk fe22.ok (hzf _) ?_
    repeat' first|refine Jk ?_|(apply qCl;rfl;rfl;rfl;rfl;first|exact ck _|exact cr _|exact ci _|exact cq1 _|exact cs _|exact cq2 _|exact c8 _|exact c10 _)|refine Ji ?_|refine Jt ?_|refine Jo ?_|(apply dCl;rfl;rfl;rfl;rfl;rfl;first|exact p1 _|exact p2 _|exact p3 _|exact p4 _)|(apply dBd;rfl;rfl;rfl;assumption;exact IsV.aggN;rfl)|refine Jh ?_|(apply Wp.drawS tOk follows;kernel_rfl;rfl)|fail
   all_goals first
    | exact hokt _ _
    | rfl
open Go.Proofs
theorem ZhE (a b:Bs):ZV E0 .neq 9 (.str a) (.str b)=some (.bool (decide (a≠b))):=by
 show some (PV.bool (!(a==b)))=_
 by_cases h:a=b<;>simp [h]
end Go.Vm.Seat
