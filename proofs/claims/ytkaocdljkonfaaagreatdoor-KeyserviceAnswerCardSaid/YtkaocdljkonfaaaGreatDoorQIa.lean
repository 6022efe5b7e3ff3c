/-
  The validity of a service: the document's function. New services and new readers, as the document says. A service with one more entry, as the document
-/
import Derived.Test.YtkaocdljkonfaaaGreatDoorQHe
set_option maxHeartbeats 64000000
set_option maxRecDepth 100000
namespace Go.Vm.Seat
variable {s:Sv} {L:List (List PV)}
open Go.Proofs
theorem Zcw (s:Sv):ZZ [.agg s.cells]=some [.agg s.cells]:=by
 obtain ⟨name,⟨k,nm,z,b,kids⟩,lb,log,kb,keys⟩:=s
 simp only [Sv.cells,Tm.cells,List.cons_append,List.nil_append,ZZ,frzG,Vc,Z5]
 rfl
theorem c14 (h:SvOk s):∀ H,CallOk E0 Tryz.prog 14 [.agg s.cells] H (.int .i64 (svV s)) H:=by
 have hfz:=Zcw s
 have c1:=c37 s.name (by have:=h.n;omega)
 have c2:=c38 s.name
 have hsk:=Zai h.n
 have c3:=c23 h.k hsk.1 (by have:=h.ks;omega) (by omega)
 have hlog:=fun t ht=>And.intro (h.l t ht) (h.ls t ht)
 have c5:=c46 hlog s.lb h.k h.ks
 have c6:=c47 h.l h.ls h.ll s.lb
 have c4:=fun (i:Nat) (t:Tm) (ht:s.log[i]? = some t)=>c45 (l:=s.log.take i) (fun u hu=>h.l u (List.mem_of_mem_take hu)) (fun u hu=>h.ls u (List.mem_of_mem_take hu)) (by have:=h.ll;rw [List.length_take];omega) false (h.l t (List.mem_of_getElem? ht)) (h.ls t (List.mem_of_getElem? ht)) h.k h.ks
 have hK:=ZbE (S:=900) (by omega) hlog s.log.length
 have hKl:=UB s.log s.log.length
 have hE:=h.e
 have hEl:=h.el
 have hll:=h.ll
 have h1:=Zb s.log
 obtain ⟨V,hV⟩:∃ V,V=svV s:=⟨_,rfl⟩
 rw [← hV]
 unfold svV at hV
 clear h hlog
 obtain ⟨name,key,lb,log,kb,keys⟩:=s
 simp only [Sv.cells] at hfz c1 c2 c3 c4 c5 c6 hK hKl hE hEl hll h1 hV ⊢
 generalize skT name=SK at c2 c3 hV hsk
 obtain ⟨B2,hB2⟩:∃ B2,B2=decide (key.cmp SK=0):=⟨_,rfl⟩
 rw [← hB2] at c3
 obtain ⟨B3,hB3⟩:∃ B3,B3=decide (32<log.length):=⟨_,rfl⟩
 have e3:ZQ E0 .gtr 3 (.int .i64 ((Za log).length:Int)) (.int .i64 32)=some (.bool B3):=by
  show some (PV.bool (decide ((32:Int)<((Za log).length:Int))))=_
  rw [hB3,h1]
  congr 2
  rw [decide_eq_decide]
  omega
 obtain ⟨B1,hB1⟩:∃ B1,B1=XN name:=⟨_,rfl⟩
 rw [← hB1] at c1 hV
 obtain ⟨ks,nms,ss,bs,kidss⟩:=SK
 have hkey:=key
 by_cases hgo:B1=true∧B2=true∧B3=false
 · obtain ⟨rfl, rfl, rfl⟩ := hgo
   have q2:¬ key.cmp (.mk ks nms ss bs kidss)≠0:=fun e=>by simp [e] at hB2
   have q3:¬ 32<log.length:=fun e=>by simp [e] at hB3
   simp only [Bool.true_eq_false,if_false,if_neg q2,if_neg q3] at hV
   clear hB1 hB2 hB3 q2 hsk
   have c4':∀ (i:Nat) (t:Tm),log[i]? = some t→∀ H,CallOk E0 Tryz.prog 45 [.sl .none 4 (Za (log.take i)),.agg t.cells,.agg key.cells] H (.bool (ZcV (log.take i) t key)) H:=fun i t ht=>by
    have:=c4 i t ht
    rw [ZH] at this
    exact this
   clear c4
   obtain ⟨F,hF⟩:∃ F:List Tm→Tm→Bool,F=fun l t=>ZcV l t key:=⟨_,rfl⟩
   have hFi:∀ i m,Zkh log key i m=match m with|0=>true|m+1=>match log[i]? with|some t=>F (log.take i) t&&Zkh log key (i+1) m|none=>true:=fun i m=>by
    subst hF
    cases m<;>rfl
   have c4:∀ (i:Nat) (t:Tm),log[i]? = some t→∀ H,CallOk E0 Tryz.prog 45 [.sl .none 4 (Za (log.take i)),.agg t.cells,.agg key.cells] H (.bool (F (log.take i) t)) H:=by
    rw [hF]
    exact c4'
   clear c4' hF
   generalize Zkh log key=G at hFi hV
   generalize Y7 log key=HV at c5 hV
   obtain ⟨X,Y,ok⟩:=HV
   obtain ⟨k,nm,z,kb',kids⟩:=key
   obtain ⟨kx,nmx,zx,bx,kidsx⟩:=X
   obtain ⟨ky,nmy,zy,by',kidsy⟩:=Y
   simp only [Tm.cells,List.cons_append,List.nil_append] at hfz c1 c2 c3 c4 c5 ⊢
   refine Jw tOk fe14.ok rfl ?_ hfz
   repeat' first|refine Jo ?_|(apply dCl;rfl;rfl;rfl;rfl;rfl;first|exact c1 _|exact c2 _|exact c3 _)|refine JD ?_|(apply dLn;rfl;rfl;rfl;rfl;rfl)|(apply dF (ty:=4);rfl;rfl;rfl;rfl)|refine Jh ?_|(apply Wp.draw tOk follows;kernel_rfl)|fail
   clear c1 c2 c3 e3 hfz
   refine Wp.while (fun m tm H=>∃ (i:Nat) (base:TM),i+m=log.length∧G 0 log.length=G i m∧tm=ovr base [(1,.ptr 0 7 0 0),(3,.int .i64 (i:Int))]∧H=⟨[.cells 7 [[.str name,.int .i64 k,.str nm,.int .i64 z,slV kb' 4 (Za kids),slV lb 4 (Za log),slV kb 6 (enC keys)]]],0,[],0⟩)
    (fun m tm H hI=>?_) log.length _ _ ⟨0,_,by omega,rfl,Zh ⟨rfl,rfl,trivial⟩,rfl⟩
   obtain ⟨i,base,hi,hI,rfl,rfl⟩:=hI
   by_cases hlt:i<log.length
   · obtain ⟨m', rfl⟩ : ∃ m', m = m' + 1 := ⟨m - 1, by omega⟩
     obtain ⟨t,ht⟩:∃ t,log[i]? = some t:=⟨log[i],by simp⟩
     have hlx:ZQ E0 .lss 3 (.int .i64 (i:Int)) (.int .i64 ((Za log).length:Int))=some (.bool true):=Wa (by omega)
     have hcc:=c4 i t ht
     have hne:log≠ []:=fun e=>by rw [e] at hlt;simp at hlt
     have hp:=ZkF lb hne (k:=i) (by omega)
     rw [hFi i (m'+1)] at hI
     simp only [ht] at hI
     generalize F (log.take i) t=D at hcc hI
     obtain ⟨kt,nmt,zt,bt,kidst⟩:=t
     have hj:=Zl ht
     simp only [Tm.cells] at hcc
     cases D with
     | true =>
       simp only [Bool.true_and] at hI
       repeat' first|refine Ji ?_|refine Jl ?_|refine Jo ?_|refine Jd (hcc _) ?_|(apply dSl;rfl;rfl;rfl;rfl;rfl;rfl;assumption;exact IsV.any _;rfl)|refine JI ?_|(apply dF (ty:=4);rfl;rfl;rfl;rfl)|refine Jh ?_|(apply Wp.draw tOk follows;kernel_rfl)|fail
       exact LoopI.go m' (by omega) ⟨i+1,_,by omega,hI,Zh ⟨rfl,Zi (Zf (n:=i+1) (by omega)),trivial⟩,rfl⟩
     | false =>
       simp only [Bool.false_and] at hI
       rw [if_pos hI] at hV
       subst hV
       repeat' first|refine Ji ?_|refine Jl ?_|refine Jo ?_|refine Jd (hcc _) ?_|(apply dSl;rfl;rfl;rfl;rfl;rfl;rfl;assumption;exact IsV.any _;rfl)|refine JI ?_|(apply dT (ty:=4);rfl;rfl;rfl;rfl)|refine Jh ?_|(apply Wp.draw tOk follows;kernel_rfl)|fail
       all_goals rfl
   · obtain rfl : m = 0 := by omega
     have e:i=log.length:=by omega
     subst e
     rw [hFi log.length 0] at hI
     rw [if_neg (by rw [hI];simp)] at hV
     have hlx:ZQ E0 .lss 3 (.int .i64 (log.length:Int)) (.int .i64 ((Za log).length:Int))=some (.bool false):=Xe (by omega)
     clear c4 hFi hI
     cases ok with
     | false =>
       rw [if_pos rfl] at hV
       subst hV
       repeat' first|refine Jc (c5 _) ?_|refine Ji ?_|refine Jl ?_|refine Jt ?_|refine Jo ?_|fail
       all_goals rfl
     | true =>
       rw [if_neg (by simp)] at hV
       generalize YN log log.length=K at c6 hK hKl hV
       have h2:=Yh K
       have h3:=Yh keys
       by_cases hle:K.length=keys.length
       · have en : ZQ E0 .neq 3 (.int .i64 ((enC K).length : Int)) (.int .i64 ((enC keys).length : Int)) = some (.bool false) := Zj8 (by rw [h2, h3, hle])
         repeat' first|refine Jc (c5 _) ?_|refine Jc (c6 _) ?_|refine Ji ?_|refine Jl ?_|refine Jt ?_|refine Jo ?_|fail
         refine Wp.while (fun m tm H=>∃ (i:Nat) (base:TM),i+m=K.length∧enB K keys=enB (K.drop i) (keys.drop i)∧tm=ovr base [(1,.ptr 0 7 0 0),(7,slV true 6 (enC K)),(8,.int .i64 (i:Int))]∧H=⟨[.cells 7 [[.str name,.int .i64 k,.str nm,.int .i64 z,slV kb' 4 (Za kids),slV lb 4 (Za log),slV kb 6 (enC keys)]],.cells 4 [[.int .i64 kx,.str nmx,.int .i64 zx,slV bx 4 (Za kidsx)]],.cells 4 [[.int .i64 ky,.str nmy,.int .i64 zy,slV by' 4 (Za kidsy)]]],0,[],0⟩)
          (fun m tm H hI=>?_) K.length _ _ ⟨0,_,by omega,by simp,Zh ⟨rfl,rfl,rfl,trivial⟩,rfl⟩
         clear en hlx c5 c6
         obtain ⟨i,base,hi,hI,rfl,rfl⟩:=hI
         by_cases hlt:i<K.length
         · obtain ⟨e, he⟩ : ∃ e, K[i]? = some e := ⟨K[i], by simp⟩
           obtain ⟨e',he'⟩:∃ e',keys[i]? = some e':=⟨keys[i]'(by omega),by simp⟩
           have hlx:ZQ E0 .lss 3 (.int .i64 (i:Int)) (.int .i64 ((enC K).length:Int))=some (.bool true):=Wa (by omega)
           have o1:=hK e (List.mem_of_getElem? he)
           have o2:=hE e' (List.mem_of_getElem? he')
           have hs:=c23 o1.1.1 o2.1.1 (by have:=o1.1.2;omega) (by have:=o2.1.2;omega)
           rw [ZN he,ZN he'] at hI
           simp only [enB] at hI
           have b1:=ZmS e.name e'.name
           have b2:=ZlC e.idx e'.idx
           have hj1:=Wq he
           have hj2:=Wq he'
           have hlz:i<(enC K).length:=by omega
           have hlz2:i<(enC keys).length:=by omega
           generalize decide (e.key.cmp e'.key=0)=D at hs hI
           obtain ⟨N1,hN1⟩:∃ N1,N1=decide (e.name≠e'.name):=⟨_,rfl⟩
           obtain ⟨N2,hN2⟩:∃ N2,N2=decide (e.idx≠e'.idx):=⟨_,rfl⟩
           rw [← hN1] at b1
           rw [← hN2] at b2
           have x1:decide (e.name=e'.name)= !N1:=by rw [hN1];by_cases q:e.name=e'.name<;>simp [q]
           have x2:decide (e.idx=e'.idx)= !N2:=by rw [hN2];by_cases q:e.idx=e'.idx<;>simp [q]
           rw [x1,x2] at hI
           clear x1 x2 hN1 hN2 o1 o2 hK hE
           obtain ⟨na,⟨k1,n1,z1,t1,q1⟩,ia⟩:=e
           obtain ⟨nb,⟨k2,n2,z2,t2,q2⟩,ib⟩:=e'
           simp only [En.cells,Tm.cells,List.cons_append,List.nil_append] at hj1 hj2 hs b1 b2
           have hO:(N1=false∧N2=false∧D=true)∨(N1=true)∨(N1=false∧N2=true)∨(N1=false∧N2=false∧D=false):=by
            cases N1<;>cases N2<;>cases D<;>simp
           rcases hO with ⟨rfl,rfl,rfl⟩|hO
           · simp only [Bool.not_false, Bool.true_and] at hI
             repeat' first|refine Ji ?_|refine Jl ?_|refine Jo ?_|refine Jd (hs _) ?_|refine JD ?_|refine JI ?_|(apply dF (ty:=4);rfl;rfl;rfl;rfl)|refine Jh ?_|(apply Wp.draw tOk follows;kernel_rfl)|fail
             exact LoopI.go (m-1) (by omega) ⟨i+1,_,by omega,hI,Zh ⟨rfl,rfl,Zi (Zf (n:=i+1) (by omega)),trivial⟩,rfl⟩
           · have hv : V = 1 := by
               rw [hV,hI]
               rcases hO with rfl|⟨rfl,rfl⟩|⟨rfl,rfl,rfl⟩<;>simp
             subst hv
             clear hI hV
             rcases hO with rfl|⟨rfl,rfl⟩|⟨rfl,rfl,rfl⟩
             all_goals
              repeat' first|refine Ji ?_|refine Jl ?_|refine Jo ?_|(apply dK;rfl;rfl;rfl)|refine Jd (hs _) ?_|refine JD ?_|refine JI ?_|(apply dT (ty:=4);rfl;rfl;rfl;rfl)|(apply dF (ty:=4);rfl;rfl;rfl;rfl)|refine Jh ?_|(apply Wp.draw tOk follows;kernel_rfl)|fail
             all_goals rfl
         · have e : i = K.length := by omega
           subst e
           rw [List.drop_length,hle,List.drop_length] at hI
           rw [if_neg (by rw [hI];simp [enB])] at hV
           subst hV
           have hlx:ZQ E0 .lss 3 (.int .i64 (K.length:Int)) (.int .i64 ((enC K).length:Int))=some (.bool false):=Xe (by omega)
           repeat' first|refine Ji ?_|refine Jl ?_|refine Jo ?_|fail
           all_goals rfl
       · rw [if_pos (ZdD hle)] at hV
         subst hV
         have en:ZQ E0 .neq 3 (.int .i64 ((enC K).length:Int)) (.int .i64 ((enC keys).length:Int))=some (.bool true):=Zki (by rw [h2,h3];omega)
         repeat' first|refine Jc (c5 _) ?_|refine Jc (c6 _) ?_|refine Ji ?_|refine Jl ?_|refine Jt ?_|refine Jo ?_|fail
         all_goals rfl
 · have hv1 : V = 1 := by
     rw [hV]
     cases B1 with
     | false=>rfl
     | true =>
       cases B2 with
       | false =>
         have:key.cmp (.mk ks nms ss bs kidss)≠0:=of_decide_eq_false hB2.symm
         simp [this]
       | true =>
         cases B3 with
         | false=>exact absurd ⟨rfl,rfl,rfl⟩ hgo
         | true =>
           have q2:¬ key.cmp (.mk ks nms ss bs kidss)≠0:=fun e=>by simp [e] at hB2
           have q3:32<log.length:=of_decide_eq_true hB3.symm
           simp only [Bool.true_eq_false,if_false,if_neg q2,if_pos q3]
   subst hv1
   clear hV c4 c5 c6 hK hKl hE
   obtain ⟨k,nm,z,kb',kids⟩:=key
   simp only [Tm.cells,List.cons_append,List.nil_append] at hfz c1 c2 c3 ⊢
   have hO:B1=false∨(B1=true∧B2=false)∨(B1=true∧B2=true∧B3=true):=by
    revert hgo
    cases B1<;>cases B2<;>cases B3<;>simp
   clear hgo hB1 hB2 hB3
   rcases hO with rfl|⟨rfl,rfl⟩|⟨rfl,rfl,rfl⟩
   all_goals
    refine Jw tOk fe14.ok rfl ?_ hfz
    repeat' first|refine Jo ?_|(apply dK;rfl;rfl;rfl)|(apply dCl;rfl;rfl;rfl;rfl;rfl;first|exact c1 _|exact c2 _|exact c3 _)|refine JD ?_|(apply dLn;rfl;rfl;rfl;rfl;rfl)|(apply dT (ty:=4);rfl;rfl;rfl;rfl)|(apply dF (ty:=4);rfl;rfl;rfl;rfl)|refine Jh ?_|(apply Wp.draw tOk follows;kernel_rfl)|fail
   all_goals rfl
open Go.Proofs
def V9 (name:Bs):Sv:=⟨name,skT name,true,[],true,[]⟩
def svZero:Sv:=⟨[],.zero,true,[],true,[]⟩
theorem ZM:svZero.cells= [.str [],.int .i64 0,.str [],.int .i64 0,.nils,.nils,.nils]:=by
 simp only [svZero,Sv.cells,Zq,Za,enC,List.map_nil,Zn]
 rfl
theorem ZhZ (m:Nat) (H:Heap) (s:Sv):frz2 m H (.agg s.cells)=some (.agg s.cells):=by
 obtain ⟨name,⟨k,nm,z,b,kids⟩,lb,log,kb,keys⟩:=s
 have h1:∀ cs,frz3 m H (.agg cs)=frz2 m H (.agg cs):=fun _=>rfl
 rw [← h1,Wf]
 simp only [Sv.cells,Tm.cells,List.cons_append,List.nil_append,Ul,UH]
 rfl
theorem XR (m:Nat) (H:Heap) (s:Sv) (e:Int):frz3 m H (.tup [.agg s.cells,.int .i64 e])=some (.tup [.agg s.cells,.int .i64 e]):=by
 show (match YL m H [.agg s.cells,.int .i64 e] with|some vs'=>some (PV.tup vs')|none=>none)=_
 simp only [YL,ZhZ]
 rfl
theorem Vy (m:Nat) (H:Heap) (c:Rd) (e:Int):frz3 m H (.tup [.agg c.cells,.int .i64 e])=some (.tup [.agg c.cells,.int .i64 e]):=by
 show (match YL m H [.agg c.cells,.int .i64 e] with|some vs'=>some (PV.tup vs')|none=>none)=_
 simp only [YL,ZkG]
 rfl
theorem ZkW (name:Bs) (k:Tm):XY E0 27 [(0,.str name),(1,.agg k.cells)]=some (.agg (Sv.mk name k true [] true []).cells):=by
 obtain ⟨kk,nm,z,b,kids⟩:=k
 simp only [Sv.cells,Tm.cells,Za,enC,List.map_nil,Zn]
 rfl
theorem c12 (name:Bs) (hn:name.length≤1000):∀ H,CallOk E0 Tryz.prog 12 [.str name] H (.tup [.agg (if XN name=true then V9 name else svZero).cells,.int .i64 (if XN name=true then 0 else 2)]) H:=by
 have c1:=c37 name (by omega)
 have c2:=c38 name
 have hb:=ZkW name (skT name)
 unfold V9
 generalize XN name=B at c1 ⊢
 cases B with
 | false =>
   have hfr:=XR 0 hNil svZero 2
   show ∀ H,CallOk E0 Tryz.prog _ _ H (.tup [.agg svZero.cells,.int .i64 2]) H
   rw [ZM] at hfr ⊢
   refine Jw tOk fe12.ok hfr ?_
   repeat' first|refine Jc (c1 _) ?_|refine Jt ?_|refine Jo ?_|fail
   all_goals rfl
 | true =>
   have hfr:=XR 0 hNil ⟨name,skT name,true,[],true,[]⟩ 0
   have hft:=fun m H=>XR m H ⟨name,skT name,true,[],true,[]⟩ 0
   show ∀ H,CallOk E0 Tryz.prog _ _ H (.tup [.agg (Sv.mk name (skT name) true [] true []).cells,.int .i64 0]) H
   generalize skT name=K at c2 hb hfr hft ⊢
   obtain ⟨kk,nm,z,b,kids⟩:=K
   simp only [Sv.cells,Tm.cells,List.cons_append,List.nil_append] at c2 hb hfr hft ⊢
   refine Jw tOk fe12.ok hfr ?_
   repeat' first|refine Jc (c1 _) ?_|refine Jc (c2 _) ?_|(apply qBd;rfl;rfl;rfl;assumption;exact IsV.aggN)|refine Jt ?_|refine Jo ?_|fail
   all_goals exact hft _ _
def pkT (k:Tm):Tm:= .mk 3 [112,107] 0 true [k]
def ZoE (s:Sv):Rd×Int:=if svV s≠0 then (.zero,svV s) else (⟨pkT s.key,0,.zero,.zero⟩,0)
theorem ZeJ (x:Tm):XY E0 31 [(0,.agg x.cells)]=some (.agg (Rd.mk x 0 .zero .zero).cells):=by
 obtain ⟨k1,nm1,s1,b1,kids1⟩:=x
 simp only [Rd.cells,Zq,Tm.cells]
 rfl
theorem c10 (h:SvOk s):∀ H,CallOk E0 Tryz.prog 10 [.agg s.cells] H (.tup [.agg (ZoE s).1.cells,.int .i64 (ZoE s).2]) H:=by
 have c1:=c14 h
 have c2:=Zi8 [112,107] s.key
 have e:Tm.mk 3 [112,107] 0 true [s.key]=pkT s.key:=rfl
 have hbd:=ZeJ (pkT s.key)
 have be:=YE (svV s)
 have hfz:=Zcw s
 rw [e] at c2
 unfold ZoE
 generalize svV s=V at c1 be ⊢
 clear h
 obtain ⟨name,key,lb,log,kb,keys⟩:=s
 simp only [Sv.cells] at c1 c2 hbd hfz ⊢
 by_cases hv:V=0
 · rw [decide_eq_false (not_not_intro hv)] at be
   rw [if_neg (not_not_intro hv)]
   have hfr:=Vy 0 hNil ⟨pkT key,0,.zero,.zero⟩ 0
   have hft:=fun m H=>Vy m H ⟨pkT key,0,.zero,.zero⟩ 0
   show ∀ H,CallOk E0 Tryz.prog _ _ H (.tup [.agg (Rd.mk (pkT key) 0 .zero .zero).cells,.int .i64 0]) H
   generalize pkT key=K at c2 hbd hfr hft ⊢
   obtain ⟨k1,nm1,s1,b1,kids1⟩:=K
   obtain ⟨k2,nm2,s2,b2,kids2⟩:=key
   simp only [Rd.cells,Zq,Tm.cells,List.cons_append,List.nil_append] at c1 c2 hbd hfz hfr hft ⊢
   refine Jw tOk fe10.ok hfr ?_ hfz
   repeat' first|refine Jc (c1 _) ?_|refine Jc (c2 _) ?_|refine Js ?_|refine Ji ?_|(apply qBd;rfl;rfl;rfl;assumption;exact IsV.aggN)|refine Jo ?_|fail
   all_goals exact hft _ _
 · rw [decide_eq_true hv] at be
   rw [if_pos hv]
   have hfr:=Vy 0 hNil .zero V
   show ∀ H,CallOk E0 Tryz.prog _ _ H (.tup [.agg Rd.zero.cells,.int .i64 V]) H
   rw [Zdd] at hfr ⊢
   obtain ⟨k2,nm2,s2,b2,kids2⟩:=key
   simp only [Tm.cells,List.cons_append,List.nil_append] at c1 hfz ⊢
   refine Jw tOk fe10.ok hfr ?_ hfz
   repeat' first|refine Jc (c1 _) ?_|refine Ji ?_|refine Jo ?_|fail
   all_goals rfl
open Go.Proofs
def ZlR (s:Sv) (t:Tm):Sv:=⟨s.name,s.key,false,s.log++ [t],true,YN (s.log++ [t]) (s.log++ [t]).length⟩
def ZdQ (s:Sv) (x:Cred):Sv×Int:=if (x.issue s.key).2≠0 then (svZero,3) else if svV (ZlR s (x.issue s.key).1)≠0 then (svZero,3) else (ZlR s (x.issue s.key).1,0)
theorem Zhl (h:SvOk s) (hl:s.log.length≤32) {t:Tm} (ht:t.Ok) (hts:t.size≤900):SvOk (ZlR s t):=by
 have hm:∀ u,u∈s.log++ [t]→u.Ok∧u.size≤900:=fun u hu=>by
  simp only [List.mem_append,List.mem_singleton] at hu
  rcases hu with hu|rfl
  · exact ⟨h.l u hu,h.ls u hu⟩
  · exact ⟨ht,hts⟩
 have hk:=UB (s.log++ [t]) (s.log++ [t]).length
 have h1:(s.log++ [t]).length=s.log.length+1:=by simp
 exact ⟨h.n,h.k,h.ks,fun u hu=>(hm u hu).1,fun u hu=>(hm u hu).2,by show (s.log++ [t]).length≤40;omega,ZbE (by omega) hm _,by show (YN _ _).length≤1000;omega⟩
theorem Znm (s:Sv) (x:Cred):ZZ [.agg s.cells,.agg x.cells]=some [.agg s.cells,.agg x.cells]:=by
 obtain ⟨name,⟨k,nm,z,b,kids⟩,lb,log,kb,keys⟩:=s
 obtain ⟨sub,⟨k8,nm8,s8,b8,kids8⟩,iss,pn,per,en',exc,ser,fr,till⟩:=x
 simp only [Sv.cells,Cred.cells,Tm.cells,List.cons_append,List.nil_append,ZZ,frzG,Vc,Z5]
 rfl
theorem ZiU (name:Bs) (k:Tm) (o:PV) (h:Z4 o=true):XY E0 27 [(0,.str name),(1,.agg k.cells),(2,o)]=some (.agg (.str name::(k.cells++ [o,.nils]))):=by
 obtain ⟨kk,nm,z,b,kids⟩:=k
 cases o<;>first|rfl|cases h
theorem Zni {o:PV} {lv:List Nat} {nt:Nat} (h:ApV false 4 L o lv nt):∃ tl,o= .sl tl 4 L:=by
 cases h with
 |nil _ _ h=>cases h
 |full _ _ _ _=>exact ⟨_,rfl⟩
 |tok _ k _ _ _ _ _ _=>exact ⟨_,rfl⟩
theorem XJ (b:Bool) (n:Nat) (L:List (List PV)):slV b n L= .nils∨slV b n L= .sl .none n L:=by
 cases L with
 | nil =>
   cases b
   · exact .inr (ZH _ _)
   · exact .inl (Zn _)
 |cons a r=>exact .inr (Zw _ _ _ _)
theorem Zfu (m : Nat) (H : Heap) {sn nm : Bs} {k z e : Int} {b : Bool} {Q : List (List PV)} {tl : Tail} {W : PV} {K : List (List PV)} (hW : W = .nils ∨ W = .sl .none 6 K) :
  frz3 m H (.tup [.agg [.str sn,.int .i64 k,.str nm,.int .i64 z,slV b 4 Q,.sl tl 4 L,W],.int .i64 e])=some (.tup [.agg [.str sn,.int .i64 k,.str nm,.int .i64 z,slV b 4 Q,slV false 4 L,W],.int .i64 e]):=by
 rw [ZH]
 rcases hW with rfl|rfl<;>rcases XJ b 4 Q with h|h<;>rw [h]<;>rfl
theorem Zj4 (b:Bool) (K:List En):slV b 6 (enC K)= .nils∨slV b 6 (enC K)= .sl .none 6 (enC K):=by
 cases K with
 | nil =>
   cases b
   · exact .inr (ZH _ _)
   · exact .inl (Zn _)
 |cons a r=>exact .inr (Zw _ _ _ _)
theorem c70 (h:SvOk s) (hl:s.log.length≤32) {name:Bs} {key:Tm} (hn:name.length≤1000) (hk:key.Ok) (hks:key.size≤700) (hs2:s.key.size≤50) (i t:Int):∀ H,CallOk E0 Tryz.prog 70 [.agg s.cells,.agg (ZA name key i t).cells] H (.tup [.agg (ZdQ s (ZA name key i t)).1.cells,.int .i64 (ZdQ s (ZA name key i t)).2]) H:=by
 have ci:=c88 (ZA name key i t) (key:=s.key) (by simp only [ZA];omega) (by simp [ZA]) (by simp [ZA]) (by simp [ZA]) (by simp [ZA]) hk (by simp only [ZA];omega) h.k (by have:=h.ks;omega)
 have hio:=Xy (x:=ZA name key i t) (key:=s.key) hk h.k
 have hio2:((ZA name key i t).issue s.key).1.size≤900:=by
  have:=hio.2
  simp only [ZA] at this ⊢
  omega
 have hO:=Zhl h hl hio.1 hio2
 have cv:=c14 hO
 have ck:=c47 (l:=s.log++ [((ZA name key i t).issue s.key).1]) hO.l hO.ls hO.ll false
 have hfz:=Znm s (ZA name key i t)
 have hA0:ApV false 4 (Za []) (.sl .full 4 []) [] 0:= .full [] _ _ rfl rfl
 obtain ⟨o1,lv1,nt1,a1,A1, -⟩:=hA0.app Yw (.slV s.lb 4 (Za s.log)) (Zm _) (ZU (by simp only [Zb,List.length_nil];omega) (by decide)) (Zv _)
 rw [← Zk,List.nil_append] at A1
 obtain ⟨o2,lv2,nt2,a2,A2, -⟩:=A1.app Yw (.sl .full 4 (Za [((ZA name key i t).issue s.key).1])) (Zm _) (ZU (by simp only [Zb,List.length_cons,List.length_nil];omega) (by decide)) (Zv _)
 rw [← Zk] at A2
 obtain ⟨tl,rfl⟩:=Zni A2
 have hbd:=ZiU s.name s.key (.sl tl 4 (Za (s.log++ [((ZA name key i t).issue s.key).1]))) rfl
 unfold ZdQ
 have e1:=YE ((ZA name key i t).issue s.key).2
 have e2:=YE (svV (ZlR s ((ZA name key i t).issue s.key).1))
 have hfr3:=fun m H=>XR m H svZero 3
 have hfr0:=fun m H=>XR m H (ZlR s ((ZA name key i t).issue s.key).1) 0
 rw [ZM] at hfr3
 unfold ZlR at cv e2 hfr0 ⊢
 rw [YA] at ci hfz ⊢
 clear hio hio2 hO hA0 A1 A2 h hl hn hk hks hs2
 generalize (ZA name key i t).issue s.key=I at ci cv ck a2 hbd e1 e2 hfr0 ⊢
 obtain ⟨T,e⟩:=I
 obtain ⟨sn,⟨k,nm,z,b,kids⟩,lb,log,kb,keys⟩:=s
 simp only [] at ci cv ck a1 a2 hbd e1 e2 hfr0 ⊢
 generalize YN (log++ [T]) (log++ [T]).length=K at cv ck e2 hfr0 ⊢
 generalize svV (Sv.mk sn (.mk k nm z b kids) false (log++ [T]) true K)=V at cv e2 ⊢
 have cvf:∀ H,CallOk E0 Tryz.prog 14 [.agg [.str sn,.int .i64 k,.str nm,.int .i64 z,slV b 4 (Za kids),.sl tl 4 (Za (log++ [T])),slV true 6 (enC K)]] H (.int .i64 V) H:=fun H=>by
  refine Yv (cv H) ?_
  simp only [Sv.cells,Tm.cells,List.cons_append,List.nil_append,ZZ,frzG,Vc,Z5,ZH]
  rfl
 have ckf:∀ H,CallOk E0 Tryz.prog 47 [.sl tl 4 (Za (log++ [T]))] H (slV true 6 (enC K)) H:=fun H=>by
  refine Yv (ck H) ?_
  simp only [ZH]
  rfl
 clear cv ck
 obtain ⟨k1,nm1,s1,b1,kids1⟩:=T
 obtain ⟨k2,nm2,s2,b2,kids2⟩:=key
 by_cases he:e=0
 · rw [decide_eq_false (not_not_intro he)] at e1
   rw [if_neg (not_not_intro he)]
   by_cases hv:V=0
   · rw [decide_eq_false (not_not_intro hv)] at e2
     rw [if_neg (not_not_intro hv)]
     clear hfr3
     simp only [Sv.cells,Tm.cells,List.cons_append,List.nil_append] at ci a1 a2 hbd hfz hfr0 ⊢
     rcases Zj4 true K with hK|hK
     all_goals
      rw [hK] at ckf ⊢
      simp only [hK] at cvf hfr0
      refine Zt (own:=(fun d=>[5026,5029,30013].any (Nat.beq d))) tOk fe70.ok hfz (hfr0 0 hNil) ?_
      refine Wp.seq ?_
      repeat' first|(apply qCl;rfl;rfl;rfl;rfl;first|exact ci _|exact ckf _|exact cvf _)|refine Ji ?_|refine Jo ?_|(apply dAl;rfl;rfl;rfl;rfl;exact IsV.ptrM;exact IsH.mkN)|refine JB ?_|(apply dAq;rfl;rfl;rfl;rfl;rfl;rfl;(first|assumption|solve_by_elim))|(apply dBd;rfl;rfl;rfl;assumption;exact IsV.aggN;rfl)|refine Jh ?_|(apply dWB tOk follows;rfl;kernel_rfl;rfl;exact IsH.mkN)|fail
     · exact Zfu (K:=[]) _ _ (.inl rfl)
     · exact Zfu _ _ (.inr rfl)
   · rw [decide_eq_true hv] at e2
     rw [if_pos hv]
     clear hfr0
     simp only [ZM]
     simp only [Sv.cells,Tm.cells,List.cons_append,List.nil_append] at ci a1 a2 hbd hfz ⊢
     rcases Zj4 true K with hK|hK
     all_goals
      rw [hK] at ckf
      simp only [hK] at cvf
      refine Zt (own:=(fun d=>[5026,5029,30013].any (Nat.beq d))) tOk fe70.ok hfz (hfr3 0 hNil) ?_
      refine Wp.seq ?_
      repeat' first|(apply qCl;rfl;rfl;rfl;rfl;first|exact ci _|exact ckf _|exact cvf _)|refine Ji ?_|refine Jo ?_|(apply dAl;rfl;rfl;rfl;rfl;exact IsV.ptrM;exact IsH.mkN)|refine JB ?_|(apply dAq;rfl;rfl;rfl;rfl;rfl;rfl;(first|assumption|solve_by_elim))|(apply dBd;rfl;rfl;rfl;assumption;exact IsV.aggN;rfl)|refine Jh ?_|(apply dWB tOk follows;rfl;kernel_rfl;rfl;exact IsH.mkN)|fail
     all_goals rfl
 · rw [decide_eq_true he] at e1
   rw [if_pos he]
   clear hfr0 cvf ckf
   simp only [ZM]
   simp only [Sv.cells,Tm.cells,List.cons_append,List.nil_append] at ci hfz ⊢
   refine Zt (own:=(fun d=>[5026,5029,30013].any (Nat.beq d))) tOk fe70.ok hfz (hfr3 0 hNil) ?_
   refine Wp.seq ?_
   repeat' first|refine Jc (ci _) ?_|refine Ji ?_|refine Jo ?_|fail
   all_goals rfl
end Go.Vm.Seat
