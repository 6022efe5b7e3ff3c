/-
  A service with one more entry, as the document makes it.
-/
import Derived.Test.YtpgfeijkfmgnjaaGreatDoorHe
set_option maxHeartbeats 0
set_option maxRecDepth 100000
namespace Go.Vm.Seat
variable {s:Sv} {L:List (List PV)}
open Go.Proofs
theorem Ze6 (s:Sv):ZJ [.agg s.cells]=some [.agg s.cells]:=by
 obtain ⟨name,⟨k,nm,z,b,kz⟩,lb,log,kb,keys⟩:=s
 simp only [Sv.cells,Tm.cells,List.cons_append,List.nil_append,ZJ,frzG,XY,ZD]
 rfl
theorem c91 (h:SvOk s):∀ H,CallOk E0 Tryz.prog 91 [.agg s.cells] H (.int .i64 (svV s)) H:=by
 have hfz:=Ze6 s
 have c1:=c47 s.name (by have:=h.n;omega)
 have c2:=c48 s.name
 have hsk:=ZaE h.n
 have c3:=c13 h.k hsk.1 (by have:=h.ks;omega) (by omega)
 have hlog:=fun t ht=>And.intro (h.l t ht) (h.ls t ht)
 have c5:=ZvF hlog s.lb h.k h.ks
 have c6:=ZsB h.l h.ls h.ll s.lb
 have c4:=fun (i:Nat) (t:Tm) (ht:s.log[i]? = some t)=>Zuu (l:=s.log.take i) (fun u hu=>h.l u (List.mem_of_mem_take hu)) (fun u hu=>h.ls u (List.mem_of_mem_take hu)) (by have:=h.ll;rw [List.length_take];omega) false (h.l t (List.mem_of_getElem? ht)) (h.ls t (List.mem_of_getElem? ht)) h.k h.ks
 have hK:=Zcm (S:=900) (by omega) hlog s.log.length
 have hKl:=U6 s.log s.log.length
 have hE:=h.e
 have hEl:=h.el
 have hll:=h.ll
 have h1:=Zb s.log
 obtain ⟨V,hV⟩:∃ V,V=svV s:=⟨_,rfl⟩
 rw [← hV]
 unfold svV at hV
 clear h hlog
 obtain ⟨name,key,lb,log,kb,keys⟩:=s
 simp only [Sv.cells] at hfz c1 c2 c3 c4 c5 c6 hK hKl hE hEl hll h1 hV ⊢
 generalize skT name=SK at c2 c3 hV hsk
 obtain ⟨B2,hB2⟩:∃ B2,B2=decide (key.cmp SK=0):=⟨_,rfl⟩
 rw [← hB2] at c3
 obtain ⟨B3,hB3⟩:∃ B3,B3=decide (32<log.length):=⟨_,rfl⟩
 have e3:ZP E0 .gtr 3 (.int .i64 ((Za log).length:Int)) (.int .i64 32)=some (.bool B3):=by
  show some (PV.bool (decide ((32:Int)<((Za log).length:Int))))=_
  rw [hB3,h1]
  congr 2
  rw [decide_eq_decide]
  omega
 obtain ⟨B1,hB1⟩:∃ B1,B1=Xq name:=⟨_,rfl⟩
 rw [← hB1] at c1 hV
 obtain ⟨ks,nms,ss,bs,kzs⟩:=SK
 have hkey:=key
 by_cases hgo:B1=true∧B2=true∧B3=false
 · obtain ⟨rfl, rfl, rfl⟩ := hgo
   have q2:¬ key.cmp (.mk ks nms ss bs kzs)≠0:=fun e=>by simp [e] at hB2
   have q3:¬ 32<log.length:=fun e=>by simp [e] at hB3
   simp only [Bool.true_eq_false,if_false,if_neg q2,if_neg q3] at hV
   clear hB1 hB2 hB3 q2 hsk
   have c4':∀ (i:Nat) (t:Tm),log[i]? = some t→∀ H,CallOk E0 Tryz.prog 130 [.sl .none 4 (Za (log.take i)),.agg t.cells,.agg key.cells] H (.bool (Zbk (log.take i) t key)) H:=fun i t ht=>by
    have:=c4 i t ht
    rw [Z1] at this
    exact this
   clear c4
   obtain ⟨F,hF⟩:∃ F:List Tm→Tm→Bool,F=fun l t=>Zbk l t key:=⟨_,rfl⟩
   have hFi:∀ i m,Zjk log key i m=match m with|0=>true|m+1=>match log[i]? with|some t=>F (log.take i) t&&Zjk log key (i+1) m|none=>true:=fun i m=>by
    subst hF
    cases m<;>rfl
   have c4:∀ (i:Nat) (t:Tm),log[i]? = some t→∀ H,CallOk E0 Tryz.prog 130 [.sl .none 4 (Za (log.take i)),.agg t.cells,.agg key.cells] H (.bool (F (log.take i) t)) H:=by
    rw [hF]
    exact c4'
   clear c4' hF
   generalize Zjk log key=G at hFi hV
   generalize Wf log key=HV at c5 hV
   obtain ⟨X,Y,ok⟩:=HV
   obtain ⟨k,nm,z,kb',kz⟩:=key
   obtain ⟨kx,nmx,zx,bx,kzx⟩:=X
   obtain ⟨ky,nmy,zy,by',kzy⟩:=Y
   simp only [Tm.cells,List.cons_append,List.nil_append] at hfz c1 c2 c3 c4 c5 ⊢
   refine Jw tOk fe91.ok rfl ?_ hfz
   repeat' first|refine Jo ?_|(apply dCl;rfl;rfl;rfl;rfl;rfl;first|exact c1 _|exact c2 _|exact c3 _)|refine JD ?_|(apply dLn;rfl;rfl;rfl;rfl;rfl)|(apply dF (ty:=4);rfl;rfl;rfl;rfl)|refine Jh ?_|(apply Wp.draw tOk follows;kernel_rfl)|fail
   clear c1 c2 c3 e3 hfz
   refine Wp.while (fun m tm H=>∃ (i:Nat) (base:TM),i+m=log.length∧G 0 log.length=G i m∧tm=ovr base [(1,.ptr 0 7 0 0),(3,.int .i64 (i:Int))]∧H=⟨[.cells 7 [[.str name,.int .i64 k,.str nm,.int .i64 z,slV kb' 4 (Za kz),slV lb 4 (Za log),slV kb 6 (enC keys)]]],0,[],0⟩)
    (fun m tm H hI=>?_) log.length _ _ ⟨0,_,by omega,rfl,Zi ⟨rfl,rfl,trivial⟩,rfl⟩
   obtain ⟨i,base,hi,hI,rfl,rfl⟩:=hI
   by_cases hlt:i<log.length
   · obtain ⟨m', rfl⟩ : ∃ m', m = m' + 1 := ⟨m - 1, by omega⟩
     obtain ⟨t,ht⟩:∃ t,log[i]? = some t:=⟨log[i],by simp⟩
     have hlx:ZP E0 .lss 3 (.int .i64 (i:Int)) (.int .i64 ((Za log).length:Int))=some (.bool true):=X3 (by omega)
     have hcc:=c4 i t ht
     have hne:log≠ []:=fun e=>by rw [e] at hlt;simp at hlt
     have hp:=Zo3 lb hne (k:=i) (by omega)
     rw [hFi i (m'+1)] at hI
     simp only [ht] at hI
     generalize F (log.take i) t=D at hcc hI
     obtain ⟨kt,nmt,zt,bt,kzt⟩:=t
     have hj:=Zn ht
     simp only [Tm.cells] at hcc
     cases D with
     | true =>
       simp only [Bool.true_and] at hI
       repeat' first|refine Ji ?_|refine Jl ?_|refine Jo ?_|refine Jd (hcc _) ?_|(apply dSl;rfl;rfl;rfl;rfl;rfl;rfl;assumption;exact IsV.any _;rfl)|refine JI ?_|(apply dF (ty:=4);rfl;rfl;rfl;rfl)|refine Jh ?_|(apply Wp.draw tOk follows;kernel_rfl)|fail
       exact LoopI.go m' (by omega) ⟨i+1,_,by omega,hI,Zi ⟨rfl,Zj (Zg (n:=i+1) (by omega)),trivial⟩,rfl⟩
     | false =>
       simp only [Bool.false_and] at hI
       rw [if_pos hI] at hV
       subst hV
       repeat' first|refine Ji ?_|refine Jl ?_|refine Jo ?_|refine Jd (hcc _) ?_|(apply dSl;rfl;rfl;rfl;rfl;rfl;rfl;assumption;exact IsV.any _;rfl)|refine JI ?_|(apply dT (ty:=4);rfl;rfl;rfl;rfl)|refine Jh ?_|(apply Wp.draw tOk follows;kernel_rfl)|fail
       all_goals rfl
   · obtain rfl : m = 0 := by omega
     have e:i=log.length:=by omega
     subst e
     rw [hFi log.length 0] at hI
     rw [if_neg (by rw [hI];simp)] at hV
     have hlx:ZP E0 .lss 3 (.int .i64 (log.length:Int)) (.int .i64 ((Za log).length:Int))=some (.bool false):=Xo (by omega)
     clear c4 hFi hI
     cases ok with
     | false =>
       rw [if_pos rfl] at hV
       subst hV
       repeat' first|refine Jc (c5 _) ?_|refine Ji ?_|refine Jl ?_|refine Jt ?_|refine Jo ?_|fail
       all_goals rfl
     | true =>
       rw [if_neg (by simp)] at hV
       generalize YZ log log.length=K at c6 hK hKl hV
       have h2:=Yj K
       have h3:=Yj keys
       by_cases hle:K.length=keys.length
       · have en : ZP E0 .neq 3 (.int .i64 ((enC K).length : Int)) (.int .i64 ((enC keys).length : Int)) = some (.bool false) := Zjs (by rw [h2, h3, hle])
         repeat' first|refine Jc (c5 _) ?_|refine Jc (c6 _) ?_|refine Ji ?_|refine Jl ?_|refine Jt ?_|refine Jo ?_|fail
         refine Wp.while (fun m tm H=>∃ (i:Nat) (base:TM),i+m=K.length∧enB K keys=enB (K.drop i) (keys.drop i)∧tm=ovr base [(1,.ptr 0 7 0 0),(7,slV true 6 (enC K)),(8,.int .i64 (i:Int))]∧H=⟨[.cells 7 [[.str name,.int .i64 k,.str nm,.int .i64 z,slV kb' 4 (Za kz),slV lb 4 (Za log),slV kb 6 (enC keys)]],.cells 4 [[.int .i64 kx,.str nmx,.int .i64 zx,slV bx 4 (Za kzx)]],.cells 4 [[.int .i64 ky,.str nmy,.int .i64 zy,slV by' 4 (Za kzy)]]],0,[],0⟩)
          (fun m tm H hI=>?_) K.length _ _ ⟨0,_,by omega,by simp,Zi ⟨rfl,rfl,rfl,trivial⟩,rfl⟩
         clear en hlx c5 c6
         obtain ⟨i,base,hi,hI,rfl,rfl⟩:=hI
         by_cases hlt:i<K.length
         · obtain ⟨e, he⟩ : ∃ e, K[i]? = some e := ⟨K[i], by simp⟩
           obtain ⟨e',he'⟩:∃ e',keys[i]? = some e':=⟨keys[i]'(by omega),by simp⟩
           have hlx:ZP E0 .lss 3 (.int .i64 (i:Int)) (.int .i64 ((enC K).length:Int))=some (.bool true):=X3 (by omega)
           have o1:=hK e (List.mem_of_getElem? he)
           have o2:=hE e' (List.mem_of_getElem? he')
           have hs:=c13 o1.1.1 o2.1.1 (by have:=o1.1.2;omega) (by have:=o2.1.2;omega)
           rw [Z0 he,Z0 he'] at hI
           simp only [enB] at hI
           have b1:=ZoL e.name e'.name
           have b2:=Zmp e.idx e'.idx
           have hj1:=WC he
           have hj2:=WC he'
           have hlz:i<(enC K).length:=by omega
           have hlz2:i<(enC keys).length:=by omega
           generalize decide (e.key.cmp e'.key=0)=D at hs hI
           obtain ⟨N1,hN1⟩:∃ N1,N1=decide (e.name≠e'.name):=⟨_,rfl⟩
           obtain ⟨N2,hN2⟩:∃ N2,N2=decide (e.idx≠e'.idx):=⟨_,rfl⟩
           rw [← hN1] at b1
           rw [← hN2] at b2
           have x1:decide (e.name=e'.name)= !N1:=by rw [hN1];by_cases q:e.name=e'.name<;>simp [q]
           have x2:decide (e.idx=e'.idx)= !N2:=by rw [hN2];by_cases q:e.idx=e'.idx<;>simp [q]
           rw [x1,x2] at hI
           clear x1 x2 hN1 hN2 o1 o2 hK hE
           obtain ⟨na,⟨k1,n1,z1,t1,q1⟩,ia⟩:=e
           obtain ⟨nb,⟨k2,n2,z2,t2,q2⟩,ib⟩:=e'
           simp only [En.cells,Tm.cells,List.cons_append,List.nil_append] at hj1 hj2 hs b1 b2
           have hO:(N1=false∧N2=false∧D=true)∨(N1=true)∨(N1=false∧N2=true)∨(N1=false∧N2=false∧D=false):=by
            cases N1<;>cases N2<;>cases D<;>simp
           rcases hO with ⟨rfl,rfl,rfl⟩|hO
           · simp only [Bool.not_false, Bool.true_and] at hI
             repeat' first|refine Ji ?_|refine Jl ?_|refine Jo ?_|refine Jd (hs _) ?_|refine JD ?_|refine JI ?_|(apply dF (ty:=4);rfl;rfl;rfl;rfl)|refine Jh ?_|(apply Wp.draw tOk follows;kernel_rfl)|fail
             exact LoopI.go (m-1) (by omega) ⟨i+1,_,by omega,hI,Zi ⟨rfl,rfl,Zj (Zg (n:=i+1) (by omega)),trivial⟩,rfl⟩
           · have hv : V = 1 := by
               rw [hV,hI]
               rcases hO with rfl|⟨rfl,rfl⟩|⟨rfl,rfl,rfl⟩<;>simp
             subst hv
             clear hI hV
             rcases hO with rfl|⟨rfl,rfl⟩|⟨rfl,rfl,rfl⟩
             all_goals
              repeat' first|refine Ji ?_|refine Jl ?_|refine Jo ?_|(apply dK;rfl;rfl;rfl)|refine Jd (hs _) ?_|refine JD ?_|refine JI ?_|(apply dT (ty:=4);rfl;rfl;rfl;rfl)|(apply dF (ty:=4);rfl;rfl;rfl;rfl)|refine Jh ?_|(apply Wp.draw tOk follows;kernel_rfl)|fail
             all_goals rfl
         · have e : i = K.length := by omega
           subst e
           rw [List.drop_length,hle,List.drop_length] at hI
           rw [if_neg (by rw [hI];simp [enB])] at hV
           subst hV
           have hlx:ZP E0 .lss 3 (.int .i64 (K.length:Int)) (.int .i64 ((enC K).length:Int))=some (.bool false):=Xo (by omega)
           repeat' first|refine Ji ?_|refine Jl ?_|refine Jo ?_|fail
           all_goals rfl
       · rw [if_pos (ZeR hle)] at hV
         subst hV
         have en:ZP E0 .neq 3 (.int .i64 ((enC K).length:Int)) (.int .i64 ((enC keys).length:Int))=some (.bool true):=Zif (by rw [h2,h3];omega)
         repeat' first|refine Jc (c5 _) ?_|refine Jc (c6 _) ?_|refine Ji ?_|refine Jl ?_|refine Jt ?_|refine Jo ?_|fail
         all_goals rfl
 · have hv1 : V = 1 := by
     rw [hV]
     cases B1 with
     | false=>rfl
     | true =>
       cases B2 with
       | false =>
         have:key.cmp (.mk ks nms ss bs kzs)≠0:=of_decide_eq_false hB2.symm
         simp [this]
       | true =>
         cases B3 with
         | false=>exact absurd ⟨rfl,rfl,rfl⟩ hgo
         | true =>
           have q2:¬ key.cmp (.mk ks nms ss bs kzs)≠0:=fun e=>by simp [e] at hB2
           have q3:32<log.length:=of_decide_eq_true hB3.symm
           simp only [Bool.true_eq_false,if_false,if_neg q2,if_pos q3]
   subst hv1
   clear hV c4 c5 c6 hK hKl hE
   obtain ⟨k,nm,z,kb',kz⟩:=key
   simp only [Tm.cells,List.cons_append,List.nil_append] at hfz c1 c2 c3 ⊢
   have hO:B1=false∨(B1=true∧B2=false)∨(B1=true∧B2=true∧B3=true):=by
    revert hgo
    cases B1<;>cases B2<;>cases B3<;>simp
   clear hgo hB1 hB2 hB3
   rcases hO with rfl|⟨rfl,rfl⟩|⟨rfl,rfl,rfl⟩
   all_goals
    refine Jw tOk fe91.ok rfl ?_ hfz
    repeat' first|refine Jo ?_|(apply dK;rfl;rfl;rfl)|(apply dCl;rfl;rfl;rfl;rfl;rfl;first|exact c1 _|exact c2 _|exact c3 _)|refine JD ?_|(apply dLn;rfl;rfl;rfl;rfl;rfl)|(apply dT (ty:=4);rfl;rfl;rfl;rfl)|(apply dF (ty:=4);rfl;rfl;rfl;rfl)|refine Jh ?_|(apply Wp.draw tOk follows;kernel_rfl)|fail
   all_goals rfl
def WW (name:Bs):Sv:=⟨name,skT name,true,[],true,[]⟩
def svZero:Sv:=⟨[],.zero,true,[],true,[]⟩
theorem ZL:svZero.cells= [.str [],.int .i64 0,.str [],.int .i64 0,.nils,.nils,.nils]:=by
 simp only [svZero,Sv.cells,Zk,Za,enC,List.map_nil,Zq]
 rfl
theorem Zis (m:Nat) (H:Heap) (s:Sv):frz2 m H (.agg s.cells)=some (.agg s.cells):=by
 obtain ⟨name,⟨k,nm,z,b,kz⟩,lb,log,kb,keys⟩:=s
 have h1:∀ cs,frz3 m H (.agg cs)=frz2 m H (.agg cs):=fun _=>rfl
 rw [← h1,Ws]
 simp only [Sv.cells,Tm.cells,List.cons_append,List.nil_append,Qf,U0]
 rfl
theorem Y7 (m:Nat) (H:Heap) (s:Sv) (e:Int):frz3 m H (.tup [.agg s.cells,.int .i64 e])=some (.tup [.agg s.cells,.int .i64 e]):=by
 show (match YR m H [.agg s.cells,.int .i64 e] with|some vs'=>some (PV.tup vs')|none=>none)=_
 simp only [YR,Zis]
 rfl
theorem Zcw (m:Nat) (H:Heap) (c:Rd) (e:Int):frz3 m H (.tup [.agg c.cells,.int .i64 e])=some (.tup [.agg c.cells,.int .i64 e]):=by
 show (match YR m H [.agg c.cells,.int .i64 e] with|some vs'=>some (PV.tup vs')|none=>none)=_
 simp only [YR,Zix]
 rfl
theorem ZiS (name:Bs) (k:Tm):Wr E0 29 [(0,.str name),(1,.agg k.cells)]=some (.agg (Sv.mk name k true [] true []).cells):=by
 obtain ⟨kk,nm,z,b,kz⟩:=k
 simp only [Sv.cells,Tm.cells,Za,enC,List.map_nil,Zq]
 rfl
theorem c21 (name:Bs) (hn:name.length≤1000):∀ H,CallOk E0 Tryz.prog 21 [.str name] H (.tup [.agg (if Xq name=true then WW name else svZero).cells,.int .i64 (if Xq name=true then 0 else 2)]) H:=by
 have c1:=c47 name (by omega)
 have c2:=c48 name
 have hb:=ZiS name (skT name)
 unfold WW
 generalize Xq name=B at c1 ⊢
 cases B with
 | false =>
   have hfr:=Y7 0 hNil svZero 2
   show ∀ H,CallOk E0 Tryz.prog _ _ H (.tup [.agg svZero.cells,.int .i64 2]) H
   rw [ZL] at hfr ⊢
   refine Jw tOk fe21.ok hfr ?_
   repeat' first|refine Jc (c1 _) ?_|refine Jt ?_|refine Jo ?_|fail
   all_goals rfl
 | true =>
   have hfr:=Y7 0 hNil ⟨name,skT name,true,[],true,[]⟩ 0
   have hft:=fun m H=>Y7 m H ⟨name,skT name,true,[],true,[]⟩ 0
   show ∀ H,CallOk E0 Tryz.prog _ _ H (.tup [.agg (Sv.mk name (skT name) true [] true []).cells,.int .i64 0]) H
   generalize skT name=K at c2 hb hfr hft ⊢
   obtain ⟨kk,nm,z,b,kz⟩:=K
   simp only [Sv.cells,Tm.cells,List.cons_append,List.nil_append] at c2 hb hfr hft ⊢
   refine Jw tOk fe21.ok hfr ?_
   repeat' first|refine Jc (c1 _) ?_|refine Jc (c2 _) ?_|(apply qBd;rfl;rfl;rfl;assumption;exact IsV.aggN)|refine Jt ?_|refine Jo ?_|fail
   all_goals exact hft _ _
def pkT (k:Tm):Tm:= .mk 3 [112,107] 0 true [k]
theorem ZkT (x:Tm):Wr E0 34 [(0,.agg x.cells)]=some (.agg (Rd.mk x 0 .zero .zero).cells):=by
 obtain ⟨k1,nm1,s1,b1,kz1⟩:=x
 simp only [Rd.cells,Zk,Tm.cells]
 rfl
def ZnC (s:Sv) (t:Tm):Sv:=⟨s.name,s.key,false,s.log++ [t],true,YZ (s.log++ [t]) (s.log++ [t]).length⟩
def ZcQ (s:Sv) (x:Cred):Sv×Int:=if (x.issue s.key).2≠0 then (svZero,3) else if svV (ZnC s (x.issue s.key).1)≠0 then (svZero,3) else (ZnC s (x.issue s.key).1,0)
theorem Zhq (h:SvOk s) (hl:s.log.length≤32) {t:Tm} (ht:t.Ok) (hts:t.size≤900):SvOk (ZnC s t):=by
 have hm:∀ u,u∈s.log++ [t]→u.Ok∧u.size≤900:=fun u hu=>by
  simp only [List.mem_append,List.mem_singleton] at hu
  rcases hu with hu|rfl
  · exact ⟨h.l u hu,h.ls u hu⟩
  · exact ⟨ht,hts⟩
 have hk:=U6 (s.log++ [t]) (s.log++ [t]).length
 have h1:(s.log++ [t]).length=s.log.length+1:=by simp
 exact ⟨h.n,h.k,h.ks,fun u hu=>(hm u hu).1,fun u hu=>(hm u hu).2,by show (s.log++ [t]).length≤40;omega,Zcm (by omega) hm _,by show (YZ _ _).length≤1000;omega⟩
theorem Zod (s:Sv) (x:Cred):ZJ [.agg s.cells,.agg x.cells]=some [.agg s.cells,.agg x.cells]:=by
 obtain ⟨name,⟨k,nm,z,b,kz⟩,lb,log,kb,keys⟩:=s
 obtain ⟨sub,⟨k8,nm8,s8,b8,kz8⟩,iss,pn,per,en',exc,ser,fr,till⟩:=x
 simp only [Sv.cells,Cred.cells,Tm.cells,List.cons_append,List.nil_append,ZJ,frzG,XY,ZD]
 rfl
theorem Zle (name:Bs) (k:Tm) (o:PV) (h:Z7 o=true):Wr E0 29 [(0,.str name),(1,.agg k.cells),(2,o)]=some (.agg (.str name::(k.cells++ [o,.nils]))):=by
 obtain ⟨kk,nm,z,b,kz⟩:=k
 cases o<;>first|rfl|cases h
theorem ZnM {o:PV} {lv:List Nat} {nt:Nat} (h:ApV false 4 L o lv nt):∃ tl,o= .sl tl 4 L:=by
 cases h with
 |nil _ _ h=>cases h
 |full _ _ _ _=>exact ⟨_,rfl⟩
 |tok _ k _ _ _ _ _ _=>exact ⟨_,rfl⟩
theorem Un (b:Bool) (n:Nat) (L:List (List PV)):slV b n L= .nils∨slV b n L= .sl .none n L:=by
 cases L with
 | nil =>
   cases b
   · exact .inr (Z1 _ _)
   · exact .inl (Zq _)
 |cons a r=>exact .inr (Zw _ _ _ _)
theorem ZfO (m : Nat) (H : Heap) {sn nm : Bs} {k z e : Int} {b : Bool} {Q : List (List PV)} {tl : Tail} {W : PV} {K : List (List PV)} (hW : W = .nils ∨ W = .sl .none 6 K) :
  frz3 m H (.tup [.agg [.str sn,.int .i64 k,.str nm,.int .i64 z,slV b 4 Q,.sl tl 4 L,W],.int .i64 e])=some (.tup [.agg [.str sn,.int .i64 k,.str nm,.int .i64 z,slV b 4 Q,slV false 4 L,W],.int .i64 e]):=by
 rw [Z1]
 rcases hW with rfl|rfl<;>rcases Un b 4 Q with h|h<;>rw [h]<;>rfl
theorem ZlY (b:Bool) (K:List En):slV b 6 (enC K)= .nils∨slV b 6 (enC K)= .sl .none 6 (enC K):=by
 cases K with
 | nil =>
   cases b
   · exact .inr (Z1 _ _)
   · exact .inl (Zq _)
 |cons a r=>exact .inr (Zw _ _ _ _)
theorem c95 (h:SvOk s) (hl:s.log.length≤32) {name:Bs} {key:Tm} (hn:name.length≤1000) (hk:key.Ok) (hks:key.size≤700) (hs2:s.key.size≤50) (i t:Int):∀ H,CallOk E0 Tryz.prog 95 [.agg s.cells,.agg (Zv name key i t).cells] H (.tup [.agg (ZcQ s (Zv name key i t)).1.cells,.int .i64 (ZcQ s (Zv name key i t)).2]) H:=by
 have ci:=ZrC (Zv name key i t) (key:=s.key) (by simp only [Zv];omega) (by simp [Zv]) (by simp [Zv]) (by simp [Zv]) (by simp [Zv]) hk (by simp only [Zv];omega) h.k (by have:=h.ks;omega)
 have hio:=Xe (x:=Zv name key i t) (key:=s.key) hk h.k
 have hio2:((Zv name key i t).issue s.key).1.size≤900:=by
  have:=hio.2
  simp only [Zv] at this ⊢
  omega
 have hO:=Zhq h hl hio.1 hio2
 have cv:=c91 hO
 have ck:=ZsB (l:=s.log++ [((Zv name key i t).issue s.key).1]) hO.l hO.ls hO.ll false
 have hfz:=Zod s (Zv name key i t)
 have hA0:ApV false 4 (Za []) (.sl .full 4 []) [] 0:= .full [] _ _ rfl rfl
 obtain ⟨o1,lv1,nt1,a1,A1, -⟩:=hA0.app YA (.slV s.lb 4 (Za s.log)) (Zs _) (ZZ (by simp only [Zb,List.length_nil];omega) (by decide)) (ZC _)
 rw [← Zo,List.nil_append] at A1
 obtain ⟨o2,lv2,nt2,a2,A2, -⟩:=A1.app YA (.sl .full 4 (Za [((Zv name key i t).issue s.key).1])) (Zs _) (ZZ (by simp only [Zb,List.length_cons,List.length_nil];omega) (by decide)) (ZC _)
 rw [← Zo] at A2
 obtain ⟨tl,rfl⟩:=ZnM A2
 have hbd:=Zle s.name s.key (.sl tl 4 (Za (s.log++ [((Zv name key i t).issue s.key).1]))) rfl
 unfold ZcQ
 have e1:=YF ((Zv name key i t).issue s.key).2
 have e2:=YF (svV (ZnC s ((Zv name key i t).issue s.key).1))
 have hfr3:=fun m H=>Y7 m H svZero 3
 have hfr0:=fun m H=>Y7 m H (ZnC s ((Zv name key i t).issue s.key).1) 0
 rw [ZL] at hfr3
 unfold ZnC at cv e2 hfr0 ⊢
 rw [YH] at ci hfz ⊢
 clear hio hio2 hO hA0 A1 A2 h hl hn hk hks hs2
 generalize (Zv name key i t).issue s.key=I at ci cv ck a2 hbd e1 e2 hfr0 ⊢
 obtain ⟨T,e⟩:=I
 obtain ⟨sn,⟨k,nm,z,b,kz⟩,lb,log,kb,keys⟩:=s
 simp only [] at ci cv ck a1 a2 hbd e1 e2 hfr0 ⊢
 generalize YZ (log++ [T]) (log++ [T]).length=K at cv ck e2 hfr0 ⊢
 generalize svV (Sv.mk sn (.mk k nm z b kz) false (log++ [T]) true K)=V at cv e2 ⊢
 have cvf:∀ H,CallOk E0 Tryz.prog 91 [.agg [.str sn,.int .i64 k,.str nm,.int .i64 z,slV b 4 (Za kz),.sl tl 4 (Za (log++ [T])),slV true 6 (enC K)]] H (.int .i64 V) H:=fun H=>by
  refine Y4 (cv H) ?_
  simp only [Sv.cells,Tm.cells,List.cons_append,List.nil_append,ZJ,frzG,XY,ZD,Z1]
  rfl
 have ckf:∀ H,CallOk E0 Tryz.prog 132 [.sl tl 4 (Za (log++ [T]))] H (slV true 6 (enC K)) H:=fun H=>by
  refine Y4 (ck H) ?_
  simp only [Z1]
  rfl
 clear cv ck
 obtain ⟨k1,nm1,s1,b1,kz1⟩:=T
 obtain ⟨k2,nm2,s2,b2,kz2⟩:=key
 by_cases he:e=0
 · rw [decide_eq_false (not_not_intro he)] at e1
   rw [if_neg (not_not_intro he)]
   by_cases hv:V=0
   · rw [decide_eq_false (not_not_intro hv)] at e2
     rw [if_neg (not_not_intro hv)]
     clear hfr3
     simp only [Sv.cells,Tm.cells,List.cons_append,List.nil_append] at ci a1 a2 hbd hfz hfr0 ⊢
     rcases ZlY true K with hK|hK
     all_goals
      rw [hK] at ckf ⊢
      simp only [hK] at cvf hfr0
      refine Zm (own:=(fun d=>[5026,5029,30013].any (Nat.beq d))) tOk fe95.ok hfz (hfr0 0 hNil) ?_
      refine Wp.seq ?_
      repeat' first|(apply qCl;rfl;rfl;rfl;rfl;first|exact ci _|exact ckf _|exact cvf _)|refine Ji ?_|refine Jo ?_|(apply dAl;rfl;rfl;rfl;rfl;exact IsV.ptrM;exact IsH.mkN)|refine JB ?_|(apply dAq;rfl;rfl;rfl;rfl;rfl;rfl;(first|assumption|solve_by_elim))|(apply dBd;rfl;rfl;rfl;assumption;exact IsV.aggN;rfl)|refine Jh ?_|(apply dWB tOk follows;rfl;kernel_rfl;rfl;exact IsH.mkN)|fail
     · exact ZfO (K:=[]) _ _ (.inl rfl)
     · exact ZfO _ _ (.inr rfl)
   · rw [decide_eq_true hv] at e2
     rw [if_pos hv]
     clear hfr0
     simp only [ZL]
     simp only [Sv.cells,Tm.cells,List.cons_append,List.nil_append] at ci a1 a2 hbd hfz ⊢
     rcases ZlY true K with hK|hK
     all_goals
      rw [hK] at ckf
      simp only [hK] at cvf
      refine Zm (own:=(fun d=>[5026,5029,30013].any (Nat.beq d))) tOk fe95.ok hfz (hfr3 0 hNil) ?_
      refine Wp.seq ?_
      repeat' first|(apply qCl;rfl;rfl;rfl;rfl;first|exact ci _|exact ckf _|exact cvf _)|refine Ji ?_|refine Jo ?_|(apply dAl;rfl;rfl;rfl;rfl;exact IsV.ptrM;exact IsH.mkN)|refine JB ?_|(apply dAq;rfl;rfl;rfl;rfl;rfl;rfl;(first|assumption|solve_by_elim))|(apply dBd;rfl;rfl;rfl;assumption;exact IsV.aggN;rfl)|refine Jh ?_|(apply dWB tOk follows;rfl;kernel_rfl;rfl;exact IsH.mkN)|fail
     all_goals rfl
 · rw [decide_eq_true he] at e1
   rw [if_pos he]
   clear hfr0 cvf ckf
   simp only [ZL]
   simp only [Sv.cells,Tm.cells,List.cons_append,List.nil_append] at ci hfz ⊢
   refine Zm (own:=(fun d=>[5026,5029,30013].any (Nat.beq d))) tOk fe95.ok hfz (hfr3 0 hNil) ?_
   refine Wp.seq ?_
   repeat' first|refine Jc (ci _) ?_|refine Ji ?_|refine Jo ?_|fail
   all_goals rfl
