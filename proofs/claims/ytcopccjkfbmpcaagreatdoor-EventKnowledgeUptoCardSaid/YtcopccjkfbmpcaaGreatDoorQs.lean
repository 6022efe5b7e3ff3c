/-
  What the environment has been given: the second text; both are the same.
-/
import Derived.Test.YtcopccjkfbmpcaaGreatDoorQq
set_option maxHeartbeats 0
set_option maxRecDepth 100000
namespace Go.Vm
theorem Za8:∀ (l:List Mo) (S:FSt) (i:Nat),(Zi4 S l i).2=0→∀ x,x∈l→x.alone=0
 | [],_,_,_,x,hx=>by cases hx
 | m :: r, S, i, h, x, hx => by
   simp only [Zi4] at h
   by_cases he:S.err m=0
   · rw [if_neg (by omega)] at h
     rcases List.mem_cons.1 hx with rfl|hx
     · by_cases ha : x.alone = 0
       · exact ha
       · rw [ZiA ha] at he;exact he
     · exact Za8 r _ _ h x hx
   · rw [if_pos he] at h
     exact absurd h he
theorem QW {l:List Mo} (h:(Yp l).2=0):∀ x,x∈l→x.alone=0:=by
 unfold Yp at h
 split at h
 · cases h
 · exact Za8 _ _ _ h
end Go.Vm
namespace Go.Vm.Seat
variable {l:List Mo}
open Go.Proofs
def knB (p:Ca×Int) (l:List Mo):List Tm×Int:=if p.2≠0 then ([],p.2) else if (Zbr p.1).2≠0 then ([],(Zbr p.1).2) else (WN ((Zbr p.1).1++YG l),0)
def knP (c:Ca) (l:List Mo):List Tm×Int:=if c.err≠0 then ([],c.err) else if (Yp l).2≠0 then ([],(Yp l).2) else knB (WM c l) l
structure TrF (l:List Mo):Prop where
 s:TrS l
 n:l.length≤420
 t:∀ m,m∈l→m.terms.length≤14
theorem WY (h:TrS l):∀ t,t∈YG l→t.Ok∧t.size≤90000:=fun t ht=>by
 obtain ⟨m,hm,ht⟩:=List.mem_flatMap.1 ht
 split at ht
 · exact (h.2 m hm).ts t ht
 · cases ht
theorem ZoD {C:Box} {L S:List Tm} (hl:L.length≤10000) (hs:S.length≤10000) (b:Bool):∃ id bx,ZO E0 29 29 (.own 1 4 0 L.length) (slV b 4 (Za S)) ⟨[C,.cells 4 (Za L)],0,[],0⟩=some (.own id 4 0 (L++S).length,⟨bx,0,[],0⟩)∧bx[id]? = some (.cells 4 (Za (L++S))):=by
 have hsm:=Zfd (H:=⟨[C,.cells 4 (Za L)],0,[],0⟩) (id:=1) (M:=L) rfl
 have he:=ZZ (s:= .own 1 4 0 L.length) Yd (ElV.slV b 4 (Za S)) (Zn _) rfl rfl ⟨[C,.cells 4 (Za L)],0,[],0⟩
 cases hS:Za S with
 | nil =>
   have hS2:S= []:=List.length_eq_zero_iff.1 (by rw [← Zb S,hS];rfl)
   rw [hS] at he
   refine ⟨1,[C,.cells 4 (Za L)],?_,by rw [hS2,List.append_nil];rfl⟩
   simp only [ZO,he]
   rw [hS2,List.append_nil]
 | cons y yr =>
   rw [hS] at he
   have hyl:(y::yr).length=S.length:=by rw [← hS,Zb]
   refine ⟨2,[C,.dead,.cells 4 (Za (L++S))],?_,rfl⟩
   simp only [ZO,he,Yz,XY,hsm]
   rw [if_pos ⟨trivial,Nat.zero_le _,Zb L,ZJ (by rw [Zb,hyl];omega) (by decide)⟩,Zt,hS,Zb,hyl,List.length_append]
   rfl
theorem c8 {c:Ca} (hc:c.Sm) (hl:TrF l) (b:Bool):∀ H,CallOk E0 Tryz.prog 8 [.agg c.cells,slV b 6 (moC l)] H (.tup [slV true 4 (Za (knP c l).1),.int .i64 (knP c l).2]) H:=by
 have k1:=c22 hc
 have k2:=c16 hl.s b
 have hcl:=Y4 l
 have hfz:Zz [.agg c.cells,slV b 6 (moC l)]=some [.agg c.cells,slV b 6 (moC l)]:=by
  obtain ⟨an,ag,bn,bad⟩:=c
  simp only [Ca.cells,Zz,Yk];simp only [frzG,XS,ZC]
 have hsta:c.cells= [slV c.an 1 (Zp c.ag),slV c.bn 1 (Zp c.bad)]:=rfl
 by_cases he:c.err=0
 rotate_left
 · rw [show knP c l = ([], c.err) from if_pos he]
   have n1:=X8 c.err 0
   rw [decide_eq_false he] at n1
   generalize c.err=e at k1 n1 ⊢
   rw [hsta] at hfz k1 ⊢
   simp only [Za,Zh]
   refine ZU (own:=fun d=>Nat.beq d 30010) tOk fe8.ok hfz rfl ?_
   refine Wp.seq ?_
   repeat' first|refine Jc (k1 _) ?_|refine Ji ?_|refine Jo ?_|fail
   all_goals rfl
 have hk0:knP c l=if (Yp l).2≠0 then ([],(Yp l).2) else knB (WM c l) l:=if_neg (by omega)
 rw [he] at k1
 by_cases hf:(Yp l).2=0
 rotate_left
 · rw [hk0, if_pos hf]
   have n1:=X8 (Yp l).2 0
   rw [decide_eq_false hf] at n1
   generalize (Yp l).2=e at k2 n1 ⊢
   rw [hsta] at hfz k1 ⊢
   simp only [Za,Zh]
   refine ZU (own:=fun d=>Nat.beq d 30010) tOk fe8.ok hfz rfl ?_
   refine Wp.seq ?_
   repeat' first|refine Jc (k1 _) ?_|refine Jc (k2 _) ?_|refine Ji ?_|refine Jt ?_|refine Jo ?_|fail
   all_goals rfl
 rw [if_neg (by omega)] at hk0
 have h6:∀ x,x∈l→x.kind=6→∃ a,x.agents= [a]:=fun x hx=>form_6 (QW hf x hx)
 rw [hf] at k2
 rw [hk0]
 clear hk0 he hf
 obtain ⟨⟨hl1,hl2⟩,hl3,hl4⟩:=hl
 have hsl:=WY ⟨hl1,hl2⟩
 have hsn:=Nat.le_trans (Up hl4) (Nat.mul_le_mul_left 14 hl3)
 have kS:=c26 hl3 hl4 b
 refine ZU (own:=fun d=>Nat.beq d 30010) tOk fe8.ok hfz (UN _ _ _ _) ?_
 refine Wp.seq ?_
 rw [hsta] at k1 ⊢
 repeat' first|refine Jc (k1 _) ?_|refine Jc (k2 _) ?_|refine Jl ?_|refine Jt ?_|refine Jo ?_|fail
 refine Wp.while (fun m2 tm H=>∃ (i:Nat) (base:TM) (d:Ca),i+m2=l.length∧d.Sm∧WM c l=WM d (l.drop i)∧tm=ovr base [(1,slV b 6 (moC l)),(2,.ptr 0 2 0 0),(24,slV b 6 (moC l)),(25,.int .i64 (l.length:Int)),(26,.int .i64 (i:Int))]∧H=⟨[.cells 2 [[slV d.an 1 (Zp d.ag),slV d.bn 1 (Zp d.bad)]]],0,[],0⟩)
  (fun m2 tm H hI=>Wp.drop ?_) l.length _ _ ⟨0,_,c,by omega,hc,by simp,Zf ⟨rfl,rfl,rfl,Ze (by rw [hcl]),rfl,trivial⟩,rfl⟩
 obtain ⟨i,base,d,hi,hd,hgo,rfl,rfl⟩:=hI
 rw [hgo]
 by_cases hlt:i<l.length
 · obtain ⟨m, hx⟩ : ∃ m, l[i]? = some m := ⟨l[i], by simp⟩
   have hj:=Va hx
   have hm6:=h6 m (List.mem_of_getElem? hx)
   have hlx:=Zr (i:Int) (l.length:Int)
   rw [decide_eq_true (by omega)] at hlx
   have q6:=ZaC m.kind 6
   clear kS k1 k2
   by_cases e6:m.kind=6
   · rw [decide_eq_true e6] at q6
     obtain ⟨a,ha⟩:=hm6 e6
     have hhd:m.hd=a:=by unfold Mo.hd;rw [ha];rfl
     have kR:=c23 hd a
     have hsa:=ZW (l:=[a]) (i:=0) rfl
     have n1:=X8 (Vn d a).2 0
     by_cases he:(Vn d a).2=0
     · rw [Zlk hx e6 (by rw [hhd]; exact he), hhd]
       have hsm:=Zmm hd a
       rw [decide_eq_true he] at n1
       rw [he] at kR n1
       generalize (Vn d a).1=d2 at kR hsm ⊢
       clear he hhd e6 hm6
       obtain ⟨kd,nu,ro,an,ag,go,tn,te⟩:=m
       simp only at ha
       subst ha
       obtain ⟨dn,dg,dm,dd⟩:=d
       obtain ⟨dn2,dg2,dm2,dd2⟩:=d2
       have hco:=ZdT dn2 dm2 (Zp dg2) (Zp dd2)
       simp only [Mo.cells,Ca.cells] at hj kR q6 ⊢
       repeat' first|refine Ji ?_|refine Jx ?_|refine Jo ?_|refine Jd (kR _) ?_|(apply dAl;rfl;rfl;rfl;rfl;exact IsV.ptrM;exact IsH.mkN)|refine JI ?_|refine Jh ?_|(apply dWB tOk follows;rfl;kernel_rfl;rfl;exact IsH.mkN)|fail
       refine DropQ.go [(1,slV b 6 (moC l)),(2,.ptr 0 2 0 0),(24,slV b 6 (moC l)),(25,.int .i64 (l.length:Int)),(26,.int .i64 ((i+1:Nat):Int))] ?_ ?_ rfl ?_ ?_
       · exact ⟨rfl,rfl,rfl,rfl,Ze (Zd (n:=i+1) (by omega)),trivial⟩
       · simp [Zj,under]
       · simp [YS,ZN,Zj]
       · exact LoopI.go (m2-1) (by omega) ⟨i+1,_,⟨dn2,dg2,dm2,dd2⟩,by omega,hsm,rfl,rfl,rfl⟩
     · rw [Zk4 hx e6 (by rw [hhd]; exact he), hhd]
       rw [show knB (Ca.zero,(Vn d a).2) l=([],(Vn d a).2) from if_pos he]
       rw [decide_eq_false he] at n1
       generalize (Vn d a).2=e at kR n1 ⊢
       generalize (Vn d a).1=d2 at kR
       clear he hhd e6 hm6
       obtain ⟨kd,nu,ro,an,ag,go,tn,te⟩:=m
       simp only at ha
       subst ha
       obtain ⟨dn,dg,dm,dd⟩:=d
       obtain ⟨dn2,dg2,dm2,dd2⟩:=d2
       have hco:=ZdT dn2 dm2 (Zp dg2) (Zp dd2)
       simp only [Mo.cells,Ca.cells] at hj kR q6 ⊢
       simp only [Za,Zh]
       repeat' first|refine Ji ?_|refine Jx ?_|refine Jo ?_|refine Jd (kR _) ?_|(apply dAl;rfl;rfl;rfl;rfl;exact IsV.ptrM;exact IsH.mkN)|refine JI ?_|refine Jh ?_|(apply dWB tOk follows;rfl;kernel_rfl;rfl;exact IsH.mkN)|fail
       all_goals rfl
   · rw [decide_eq_false e6] at q6
     rw [Zk7 hx e6]
     clear e6 hm6
     obtain ⟨kd,nu,ro,an,ag,go,tn,te⟩:=m
     simp only [Mo.cells] at hj q6
     repeat' first|refine Ji ?_|refine Jx ?_|refine Jo ?_|fail
     refine DropQ.go [(1,slV b 6 (moC l)),(2,.ptr 0 2 0 0),(24,slV b 6 (moC l)),(25,.int .i64 (l.length:Int)),(26,.int .i64 ((i+1:Nat):Int))] ?_ ?_ rfl ?_ ?_
     · exact ⟨rfl,rfl,rfl,rfl,Ze (Zd (n:=i+1) (by omega)),trivial⟩
     · simp [Zj,under]
     · simp [YS,ZN,Zj]
     · exact LoopI.go (m2-1) (by omega) ⟨i+1,_,d,by omega,hd,rfl,rfl,rfl⟩
 · have e : i = l.length := by omega
   subst e
   have hlx:=Zr (l.length:Int) (l.length:Int)
   rw [decide_eq_false (by omega)] at hlx
   rw [List.drop_length]
   have kI:=c24 hd
   have hkb:knB (WM d []) l=if (Zbr d).2≠0 then ([],(Zbr d).2) else (WN ((Zbr d).1++YG l),0):=if_neg (by simp [WM])
   rw [hkb]
   clear hkb hgo k1 k2
   by_cases hie:(Zbr d).2=0
   · rw [if_neg (by omega)]
     have hde:d.err=0:=by
      by_cases h:d.err=0
      · exact h
      · rw [show Zbr d=([],d.err) from if_pos h] at hie;exact hie
     have hip:Zbr d=(WN (Qf d),0):=if_neg (by omega)
     obtain ⟨g1',g2', -⟩:=err_len hde
     have hsz:∀ t,t∈Qf d→t.size≤3:=fun t ht=>(X4 hd t ht).2
     have hLne:=QN (WT g1') hsz
     obtain ⟨-, -,hLm⟩:=Wl (WT g1') hsz
     have hLl:(WN (Qf d)).length≤48:=Nat.le_trans (Zfi _ _) (ZeC g2')
     rw [hip] at kI ⊢
     simp only at kI ⊢
     have hLok:∀ t,t∈WN (Qf d)→t.Ok∧t.size≤3:=fun t ht=>X4 hd t (hLm t ht)
     generalize WN (Qf d)=L at kI hLne hLl hLok ⊢
     clear hip hde hie hsz hLm g1' g2'
     have kC:=ZkD hLne (by omega) ⟨[.cells 2 [[slV d.an 1 (Zp d.ag),slV d.bn 1 (Zp d.bad)]]],0,[],0⟩
     obtain ⟨id,bx,hap,hbx⟩:=ZoD (C:= .cells 2 [[slV d.an 1 (Zp d.ag),slV d.bn 1 (Zp d.bad)]]) (L:=L) (S:=YG l) (by omega) (by omega) true
     have hXne:L++YG l≠ []:=fun h=>hLne (List.append_eq_nil_iff.1 h).1
     have hXok:∀ t,t∈L++YG l→t.Ok∧t.size≤100000:=fun t ht=>by
      rcases List.mem_append.1 ht with h|h
      · have:=hLok t h;exact ⟨this.1,by have:=this.2;omega⟩
      · have:=hsl t h;exact ⟨this.1,by have:=this.2;omega⟩
     obtain ⟨s1,D,s2⟩:=ZhA (f:=30) c30 hbx hXne hXok (by rw [List.length_append];omega)
     have hMne:=QN hXne (N:=100000) fun t ht=>(hXok t ht).2
     have hlt2:=Zv hbx
     have hfin:=ZeT (H:=⟨bx.set id (.cells 4 (Za (WN (L++YG l))++D)),0,[],0⟩) (id:=id) (D:=D) hMne (by rw [Zs];simp [hlt2]) 0
     generalize WN (L++YG l)=M at s2 hfin hMne ⊢
     generalize L++YG l=X at hap s1 s2
     rw [ZiG hLne] at kI
     generalize YG l=S at kS hap
     obtain ⟨dn,dg,dm,dd⟩:=d
     simp only [Ca.cells] at kI kC hap ⊢
     clear hXne hXok hLok hbx hMne hsl hsn
     repeat' first|(apply qCl;rfl;rfl;rfl;rfl;first|exact kI _|exact kC|exact kS _|exact s1|exact s2)|refine JA ?_|refine Ji ?_|refine Jt ?_|refine Jo ?_|fail
     all_goals exact hfin
   · rw [if_pos hie]
     have n1:=X8 (Zbr d).2 0
     rw [decide_eq_false hie] at n1
     generalize (Zbr d).2=e at kI n1 ⊢
     generalize (Zbr d).1=L at kI
     obtain ⟨dn,dg,dm,dd⟩:=d
     simp only [Ca.cells] at kI ⊢
     simp only [Za,Zh]
     rcases W9 true (Za L) with hs|⟨el,hs⟩
     all_goals
      rw [hs] at kI
      repeat' first|refine Jc (kI _) ?_|refine Ji ?_|refine Jo ?_|fail
      all_goals rfl
end Go.Vm.Seat
namespace Go.Vm
variable {a:Bs}
theorem ZnB {ag:List Bs} (hn:ag.Nodup) {k:Nat} (h:ag[k]? = some a):ixS a ag 0=(k:Int):=by
 have key:∀ (l:List Bs) (i k:Nat),l.Nodup→l[k]? = some a→ixS a l i=((i+k:Nat):Int):=fun l=>by
  induction l with
  | nil=>intro i k _ h;simp at h
  | cons x r ih =>
    intro i k hn h
    obtain ⟨h1,h2⟩:=List.nodup_cons.1 hn
    simp only [ixS]
    cases k with
    | zero =>
      have:x=a:=by simpa using h
      rw [if_pos this.symm];simp
    | succ k =>
      have h3:r[k]? = some a:=by simpa using h
      have hne:¬ a=x:=fun e=>h1 (by rw [← e];exact List.mem_of_getElem? h3)
      rw [if_neg hne,ih (i+1) k h2 h3]
      congr 1
      omega
 have:=key ag 0 k hn h
 rwa [Nat.zero_add] at this
theorem QR {ag:List Bs} (hn:ag.Nodup) (p:Bs→Bool):∀ (l:List Bs) (k:Nat) (last:Int),ag.drop k=l→last<(k:Int)→bdE ag (l.filter p) last=0
 | [],_,_,_,_=>rfl
 | x :: r, k, last, h, hl => by
   have hx:ag[k]? = some x:=by
    have:=congrArg List.head? h
    simpa [List.head?_drop] using this
   have hr:ag.drop (k+1)=r:=by
    rw [← List.tail_drop,h];rfl
   rw [List.filter_cons]
   split
   · simp only [bdE]
     rw [ZnB hn hx,if_neg (by omega),if_neg (by omega)]
     exact QR hn p r (k+1) _ hr (by omega)
   · exact QR hn p r (k+1) _ hr (by omega)
theorem ZnE {c:Ca} (h:(Vn c a).2=0):(Vn c a).1.err=0:=by
 by_cases he:c.err=0
 rotate_left
 · rw [ZgH he] at h;exact absurd h he
 by_cases h2:Xt a c.ag=true
 rotate_left
 · rw [ZhN he (by simpa using h2)] at h;cases h
 by_cases h3:Xt a c.bad=true
 · rw [Zip he h2 h3] at h;cases h
 rw [Zh7 he h2 (by simpa using h3)]
 obtain ⟨g1,g2,g3⟩:=Seat.err_len he
 show (Ca.mk true c.ag true (c.ag.filter (rvF a c.bad))).err=0
 unfold Ca.err
 rw [if_neg (fun e=>g1 (List.length_eq_zero_iff.1 e)),if_neg (by simp only;omega),if_neg (by simp only;omega)]
 exact QR (Vc _ _ g3).1 _ c.ag 0 (-1) rfl (by omega)
theorem Zae:∀ (l:List Mo) (c:Ca),c.err=0→(WM c l).2=0→(WM c l).1.err=0
 | [],c,h,_=>h
 | m :: r, c, h, h2 => by
   simp only [WM] at h2 ⊢
   split at h2
   · rename_i h6
     rw [if_pos h6]
     split at h2
     · rename_i he;exact absurd h2 he
     · rename_i he
       rw [if_neg he]
       exact Zae r _ (ZnE (Classical.not_not.1 he)) h2
   · rename_i h6
     rw [if_neg h6]
     exact Zae r c h h2
end Go.Vm
namespace Go.Vm.Seat
variable {c:Ca} {l:List Mo}
open Go.Proofs
def knC (p:Ca×Int) (l:List Mo):List Tm×Int:=if p.2≠0 then ([],p.2) else (Qx ((Zik p.1).1++YG l),0)
def knR (c:Ca) (l:List Mo):List Tm×Int:=if c.err≠0 then ([],c.err) else if (Yp l).2≠0 then ([],(Yp l).2) else knC (WM c l) l
theorem Zn0 (hc:c.Sm) (he:c.err=0):∀ x,InC x (Zbr c).1↔InC x (Zik c).1:=fun x=>by
 obtain ⟨g1,g2,g3⟩:=err_len he
 rw [show Zbr c=(WN (Qf c),0) from if_neg (by omega),show Zik c=(Qx (Zc6 c),0) from if_neg (by omega)]
 simp only
 rw [(Wl (WT g1) (N:=3) fun t ht=>(X4 hc t ht).2).2.1,(ZfL _).2]
 unfold Qf Zc6
 rw [Zay (Vc _ _ g3).1,Xi,Xi]
 exact or_comm
theorem Zl1 (hc:c.Sm) (hl:TrF l):(knP c l).2=(knR c l).2∧(knP c l).1.map Tm.cl=(knR c l).1.map Tm.cl:=by
 unfold knP knR
 by_cases he:c.err=0
 rotate_left
 · rw [if_pos he,if_pos he];exact ⟨rfl,rfl⟩
 have he':¬ c.err≠0:=by omega
 rw [if_neg he',if_neg he']
 by_cases hf:(Yp l).2=0
 rotate_left
 · rw [if_pos hf,if_pos hf];exact ⟨rfl,rfl⟩
 have hf':¬ (Yp l).2≠0:=by omega
 rw [if_neg hf',if_neg hf']
 unfold knB knC
 by_cases hb:(WM c l).2=0
 rotate_left
 · rw [if_pos hb,if_pos hb];exact ⟨rfl,rfl⟩
 have hb':¬ (WM c l).2≠0:=by omega
 rw [if_neg hb',if_neg hb']
 have hd:=UY l c hc
 have hde:=Zae l c he hb
 generalize (WM c l).1=d at hd hde ⊢
 obtain ⟨g1,g2,g3⟩:=err_len hde
 have hin:=Zn0 hd hde
 have hip:Zbr d=(WN (Qf d),0):=if_neg (by omega)
 have hLne:=QN (WT g1) (N:=3) fun t ht=>(X4 hd t ht).2
 obtain ⟨-, -,hLm⟩:=Wl (WT g1) (N:=3) fun t ht=>(X4 hd t ht).2
 rw [hip] at hin ⊢
 rw [if_neg (show ¬ (WN (Qf d),(0:Int)).2≠0 by simp)]
 refine ⟨rfl,Zjw (fun h=>hLne (List.append_eq_nil_iff.1 h).1) (N:=90000) (fun t ht=>?_) fun x=>?_⟩
 · rcases List.mem_append.1 ht with h | h
   · have:=(X4 hd t (hLm t h)).2;omega
   · exact (WY hl.s t h).2
 · rw [Xi,Xi,hin]
theorem ZhC (hc:c.Sm) (he:c.err=0):(∀ t,t∈(Zik c).1→t.Ok∧t.size≤3)∧(Zik c).1.length≤48:=by
 obtain ⟨g1,g2,g3⟩:=err_len he
 rw [show Zik c=(Qx (Zc6 c),0) from if_neg (by omega)]
 have hm:∀ t,t∈Zc6 c→t.Ok∧t.size≤3:=fun t ht=>by
  rcases List.mem_append.1 ht with h|h
  · obtain ⟨a, ha, rfl⟩ := List.mem_map.1 h
    exact Zfh (hc.na a ha)
  · rw [Zay (Vc _ _ g3).1] at h
    exact ZeX hc.na _ t h
 refine ⟨fun t ht=>?_,?_⟩
 · rcases Ww _ _ _ ht with h | h
   · cases h
   · exact hm t h
 · have := VY (Zc6 c) []
   have h2:=Zcl c.bad g2 c.ag.length g2
   simp only [Zc6,List.length_append,List.length_map,List.length_nil] at this
   show (Qx (Zc6 c)).length≤48
   unfold Qx
   simp only [Zc6] at this ⊢
   omega
theorem c10 (hc:c.Sm) (hl:TrF l) (b:Bool):∀ H,CallOk E0 Tryz.prog 10 [.agg c.cells,slV b 6 (moC l)] H (.tup [slV true 4 (Za (knR c l).1),.int .i64 (knR c l).2]) H:=by
 have k1:=c31 hc
 have k2:=c32 hl.s b
 have hfz:Zz [.agg c.cells,slV b 6 (moC l)]=some [.agg c.cells,slV b 6 (moC l)]:=by
  obtain ⟨an,ag,bn,bad⟩:=c
  simp only [Ca.cells,Zz,Yk];simp only [frzG,XS,ZC]
 have hsta:c.cells= [slV c.an 1 (Zp c.ag),slV c.bn 1 (Zp c.bad)]:=rfl
 by_cases he:c.err=0
 rotate_left
 · rw [show knR c l = ([], c.err) from if_pos he]
   have n1:=X8 c.err 0
   rw [decide_eq_false he] at n1
   generalize c.err=e at k1 n1 ⊢
   rw [hsta] at hfz k1 ⊢
   simp only [Za,Zh]
   refine Jw tOk fe10.ok rfl ?_ hfz
   repeat' first|refine Jc (k1 _) ?_|refine Ji ?_|refine Jo ?_|fail
   all_goals rfl
 have hk0:knR c l=if (Yp l).2≠0 then ([],(Yp l).2) else knC (WM c l) l:=if_neg (by omega)
 rw [he] at k1
 by_cases hf:(Yp l).2=0
 rotate_left
 · rw [hk0, if_pos hf]
   have n1:=X8 (Yp l).2 0
   rw [decide_eq_false hf] at n1
   generalize (Yp l).2=e at k2 n1 ⊢
   rw [hsta] at hfz k1 ⊢
   simp only [Za,Zh]
   refine Jw tOk fe10.ok rfl ?_ hfz
   repeat' first|refine Jc (k1 _) ?_|refine Jc (k2 _) ?_|refine Ji ?_|refine Jt ?_|refine Jo ?_|fail
   all_goals rfl
 rw [if_neg (by omega)] at hk0
 have h6:∀ x,x∈l→x.kind=6→∃ a,x.agents= [a]:=fun x hx=>form_6 (QW hf x hx)
 rw [hf] at k2
 rw [hk0]
 clear hk0 hf
 have k3:=c33 hc hl.s.1 h6 b
 have hd:=UY l c hc
 have hde:=Zae l c he
 clear he
 obtain ⟨⟨hl1,hl2⟩,hl3,hl4⟩:=hl
 have hsl:=WY ⟨hl1,hl2⟩
 have hsn:=Nat.le_trans (Up hl4) (Nat.mul_le_mul_left 14 hl3)
 have kS:=c36 hl3 hl4 b
 unfold knC
 have n3:=X8 (WM c l).2 0
 by_cases hb:(WM c l).2=0
 · rw [if_neg (by omega)]
   have hde:=hde hb
   rw [decide_eq_true hb] at n3
   rw [hb] at k3 n3
   generalize (WM c l).1=d at k3 hd hde ⊢
   have kI:=c34 hd
   obtain ⟨i1,i2⟩:=ZhC hd hde
   generalize (Zik d).2=ie at kI
   generalize (Zik d).1=L at kI i1 i2 ⊢
   have hok:∀ t,t∈L++YG l→t.Ok∧t.size≤100000:=fun t ht=>by
    rcases List.mem_append.1 ht with h|h
    · have:=i1 t h;exact ⟨this.1,by have:=this.2;omega⟩
    · have:=hsl t h;exact ⟨this.1,by have:=this.2;omega⟩
   obtain ⟨o1,lv1,nt1,hap1,hA1, -⟩:=(ApV.full (es:=4) [] [] 0 (rfl:false=false) rfl).app Yd (.slV true 4 (Za L)) (Zn _) (ZJ (by simp only [Zb,List.length_nil];omega) (by decide)) (ZL _)
   rw [List.nil_append] at hA1
   obtain ⟨o2,lv2,nt2,hap2,hA2, -⟩:=hA1.app Yd (.slV true 4 (Za (YG l))) (Zn _) (ZJ (by simp only [Zb];omega) (by decide)) (ZL _)
   rw [← Zt] at hA2
   have hfz2:Zz [o2]=some [slV false 4 (Za (L++YG l))]:=by simp only [Zz,hA2.frzG]
   have k4:=c35 false hok (by rw [List.length_append];omega)
   have k5:=fun H=>ZS (k4 H) hfz2
   clear k4 hfz2
   obtain ⟨t1,rfl⟩:=QK hA1
   obtain ⟨t2,rfl⟩:=QK hA2
   clear hA1 hA2 hok hde
   have hfr:=UN 0 hNil (Qx (L++YG l)) 0
   generalize Qx (L++YG l)=M at k5 hfr ⊢
   generalize Za (L++YG l)=X at k5 hap2
   generalize YG l=S at kS hap2
   obtain ⟨dn,dg,dm,dd⟩:=d
   rw [hsta] at hfz k1 k3 ⊢
   simp only [Ca.cells] at k3 kI
   have hco:=ZdT dn dm (Zp dg) (Zp dd)
   refine Jw tOk fe10.ok hfr ?_ hfz
   repeat' first|(apply qCl;rfl;rfl;rfl;rfl;first|exact k1 _|exact k2 _|exact k3 _|exact kI _|exact kS _|exact k5 _)|refine Js ?_|refine JA ?_|refine Ji ?_|refine Jo ?_|fail
   all_goals exact UN _ _ _ _
 · rw [if_pos hb]
   rw [decide_eq_false hb] at n3
   generalize (WM c l).2=e at k3 n3 ⊢
   generalize (WM c l).1=d at k3
   obtain ⟨dn,dg,dm,dd⟩:=d
   rw [hsta] at hfz k1 k3 ⊢
   simp only [Ca.cells] at k3
   have hco:=ZdT dn dm (Zp dg) (Zp dd)
   simp only [Za,Zh]
   refine Jw tOk fe10.ok rfl ?_ hfz
   repeat' first|(apply qCl;rfl;rfl;rfl;rfl;first|exact k1 _|exact k2 _|exact k3 _)|refine Ji ?_|refine Jt ?_|refine Jo ?_|fail
   all_goals rfl
