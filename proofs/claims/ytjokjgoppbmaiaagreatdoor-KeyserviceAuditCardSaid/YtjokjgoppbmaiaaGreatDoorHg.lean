/-
  The validity of a service: the document's function. New services and new readers, as the document says.
-/
import Derived.Test.YtjokjgoppbmaiaaGreatDoorHe
set_option maxHeartbeats 64000000
set_option maxRecDepth 100000
namespace Go.Vm.Seat
open Go.Proofs
theorem frzSv (s:Sv):frzGL [.agg s.cells]=some [.agg s.cells]:=by
 obtain ⟨name,⟨k,nm,z,b,kids⟩,lb,log,kb,keys⟩:=s
 simp only [Sv.cells,Tm.cells,List.cons_append,List.nil_append,frzGL,frzG,frzL,frz1_slV]
 rfl
theorem c73 {s:Sv} (h:SvOk s):∀ H,CallOk E0 Tryz.prog 73 [.agg s.cells] H (.int .i64 (svV s)) H:=by
 have hfz:=frzSv s
 have c1:=c144 s.name (by have:=h.n;omega)
 have c2:=c145 s.name
 have hsk:=skT_ok h.n
 have c3:=c15 h.k hsk.1 (by have:=h.ks;omega) (by omega)
 have hlog:=fun t ht=>And.intro (h.l t ht) (h.ls t ht)
 have c5:=c75 hlog s.lb h.k h.ks
 have c6:=c150 h.l h.ls h.ll s.lb
 have c4:=fun (i:Nat) (t:Tm) (ht:s.log[i]? = some t)=>c149 (l:=s.log.take i) (fun u hu=>h.l u (List.mem_of_mem_take hu)) (fun u hu=>h.ls u (List.mem_of_mem_take hu)) (by have:=h.ll;rw [List.length_take];omega) false (h.l t (List.mem_of_getElem? ht)) (h.ls t (List.mem_of_getElem? ht)) h.k h.ks
 have hK:=keysF_ok (S:=900) (by omega) hlog s.log.length
 have hKl:=keysF_len s.log s.log.length
 have hE:=h.e
 have hEl:=h.el
 have hll:=h.ll
 have h1:=cellsL_length s.log
 obtain ⟨V,hV⟩:∃ V,V=svV s:=⟨_,rfl⟩
 rw [← hV]
 unfold svV at hV
 clear h hlog
 obtain ⟨name,key,lb,log,kb,keys⟩:=s
 simp only [Sv.cells] at hfz c1 c2 c3 c4 c5 c6 hK hKl hE hEl hll h1 hV ⊢
 generalize skT name=SK at c2 c3 hV hsk
 obtain ⟨B2,hB2⟩:∃ B2,B2=decide (key.cmp SK=0):=⟨_,rfl⟩
 rw [← hB2] at c3
 obtain ⟨B3,hB3⟩:∃ B3,B3=decide (32 < log.length):=⟨_,rfl⟩
 have e3:aBin E0 .gtr 3 (.int .i64 ((cellsL log).length:Int)) (.int .i64 32)=some (.bool B3):=by
  show some (PV.bool (decide ((32:Int) < ((cellsL log).length:Int))))=_
  rw [hB3,h1]
  congr 2
  rw [decide_eq_decide]
  omega
 obtain ⟨B1,hB1⟩:∃ B1,B1=rightB name:=⟨_,rfl⟩
 rw [← hB1] at c1 hV
 obtain ⟨ks,nms,ss,bs,kidss⟩:=SK
 have hkey:=key
 by_cases hgo:B1=true∧B2=true∧B3=false
 · obtain ⟨rfl, rfl, rfl⟩ := hgo
   have q2:¬ key.cmp (.mk ks nms ss bs kidss)≠0:=fun e=>by simp [e] at hB2
   have q3:¬ 32 < log.length:=fun e=>by simp [e] at hB3
   simp only [Bool.true_eq_false,if_false,if_neg q2,if_neg q3] at hV
   clear hB1 hB2 hB3 q2 hsk
   have c4':∀ (i:Nat) (t:Tm),log[i]? = some t→∀ H,CallOk E0 Tryz.prog 149 [.sl .none 4 (cellsL (log.take i)),.agg t.cells,.agg key.cells] H (.bool (fitsF (log.take i) t key)) H:=fun i t ht=>by
    have:=c4 i t ht
    rw [slV_false] at this
    exact this
   clear c4
   obtain ⟨F,hF⟩:∃ F:List Tm→Tm→Bool,F=fun l t=>fitsF l t key:=⟨_,rfl⟩
   have hFi:∀ i m,fitL log key i m=match m with | 0=>true | m+1=>match log[i]? with | some t=>F (log.take i) t && fitL log key (i+1) m | none=>true:=fun i m=>by
    subst hF
    cases m <;> rfl
   have c4:∀ (i:Nat) (t:Tm),log[i]? = some t→∀ H,CallOk E0 Tryz.prog 149 [.sl .none 4 (cellsL (log.take i)),.agg t.cells,.agg key.cells] H (.bool (F (log.take i) t)) H:=by
    rw [hF]
    exact c4'
   clear c4' hF
   generalize fitL log key=G at hFi hV
   generalize headV log key=HV at c5 hV
   obtain ⟨X,Y,ok⟩:=HV
   obtain ⟨k,nm,z,kb',kids⟩:=key
   obtain ⟨kx,nmx,zx,bx,kidsx⟩:=X
   obtain ⟨ky,nmy,zy,by',kidsy⟩:=Y
   simp only [Tm.cells,List.cons_append,List.nil_append] at hfz c1 c2 c3 c4 c5 ⊢
   refine κw tOk fe73.ok rfl ?_ hfz
   repeat' first | refine κn ?_ | refine κg ?_ | (apply dCl;rfl;rfl;rfl;rfl;rfl;first | exact c1 _ | exact c2 _ | exact c3 _) | refine κD ?_ | (apply dLn;rfl;rfl;rfl;rfl;rfl) | (apply dF (ty:=4);rfl;rfl;rfl;rfl) | refine κh ?_ | refine κa ?_ | (apply Wp.draw tOk follows;kernel_rfl) | fail
   clear c1 c2 c3 e3 hfz
   refine Wp.while (fun m tm H=>∃ (i:Nat) (base:TM),i+m=log.length∧G 0 log.length=G i m∧tm=ovr base [(1,.ptr 0 7 0 0),(3,.int .i64 (i:Int))]∧H=⟨[.cells 7 [[.str name,.int .i64 k,.str nm,.int .i64 z,slV kb' 4 (cellsL kids),slV lb 4 (cellsL log),slV kb 6 (enC keys)]]],0,[],0⟩)
    (fun m tm H hI=> ?_) log.length _ _ ⟨0,_,by omega,rfl,ovr_mk ⟨rfl,rfl,trivial⟩,rfl⟩
   obtain ⟨i,base,hi,hI,rfl,rfl⟩:=hI
   by_cases hlt:i < log.length
   · obtain ⟨m', rfl⟩ : ∃ m', m = m' + 1 := ⟨m - 1, by omega⟩
     obtain ⟨t,ht⟩:∃ t,log[i]? = some t:=⟨log[i],by simp⟩
     have hlx:aBin E0 .lss 3 (.int .i64 (i:Int)) (.int .i64 ((cellsL log).length:Int))=some (.bool true):=lss_t (by omega)
     have hcc:=c4 i t ht
     have hne:log≠ []:=fun e=>by rw [e] at hlt;simp at hlt
     have hp:=preT lb hne (k:=i) (by omega)
     rw [hFi i (m'+1)] at hI
     simp only [ht] at hI
     generalize F (log.take i) t=D at hcc hI
     obtain ⟨kt,nmt,zt,bt,kidst⟩:=t
     have hj:=cellsL_get ht
     simp only [Tm.cells] at hcc
     cases D with
     | true =>
       simp only [Bool.true_and] at hI
       repeat' first | refine κn ?_ | refine κi ?_ | refine κl ?_ | refine κg ?_ | refine κd (hcc _) ?_ | (apply dSl;rfl;rfl;rfl;rfl;rfl;rfl;assumption;exact IsV.any _;rfl) | refine κI ?_ | (apply dF (ty:=4);rfl;rfl;rfl;rfl) | refine κh ?_ | refine κa ?_ | (apply Wp.draw tOk follows;kernel_rfl) | fail
       exact LoopI.go m' (by omega) ⟨i+1,_,by omega,hI,ovr_mk ⟨rfl,int_eq (wrap_nat (n:=i+1) (by omega)),trivial⟩,rfl⟩
     | false =>
       simp only [Bool.false_and] at hI
       rw [if_pos hI] at hV
       subst hV
       repeat' first | refine κn ?_ | refine κi ?_ | refine κl ?_ | refine κg ?_ | refine κd (hcc _) ?_ | (apply dSl;rfl;rfl;rfl;rfl;rfl;rfl;assumption;exact IsV.any _;rfl) | refine κI ?_ | (apply dT (ty:=4);rfl;rfl;rfl;rfl) | refine κh ?_ | refine κa ?_ | (apply Wp.draw tOk follows;kernel_rfl) | refine κf ?_ | fail
       all_goals rfl
   · obtain rfl : m = 0 := by omega
     have e:i=log.length:=by omega
     subst e
     rw [hFi log.length 0] at hI
     rw [if_neg (by rw [hI];simp)] at hV
     have hlx:aBin E0 .lss 3 (.int .i64 (log.length:Int)) (.int .i64 ((cellsL log).length:Int))=some (.bool false):=lss_f (by omega)
     clear c4 hFi hI
     cases ok with
     | false =>
       rw [if_pos rfl] at hV
       subst hV
       repeat' first | refine κn ?_ | refine κc (c5 _) ?_ | refine κi ?_ | refine κl ?_ | refine κt ?_ | refine κg ?_ | refine κa ?_ | refine κf ?_ | fail
       all_goals rfl
     | true =>
       rw [if_neg (by simp)] at hV
       generalize keysF log log.length=K at c6 hK hKl hV
       have h2:=enC_len K
       have h3:=enC_len keys
       by_cases hle:K.length=keys.length
       · have en : aBin E0 .neq 3 (.int .i64 ((enC K).length : Int)) (.int .i64 ((enC keys).length : Int)) = some (.bool false) := neq0_f (by rw [h2, h3, hle])
         repeat' first | refine κn ?_ | refine κc (c5 _) ?_ | refine κc (c6 _) ?_ | refine κi ?_ | refine κl ?_ | refine κt ?_ | refine κg ?_ | refine κa ?_ | fail
         refine Wp.while (fun m tm H=>∃ (i:Nat) (base:TM),i+m=K.length∧enB K keys=enB (K.drop i) (keys.drop i)∧tm=ovr base [(1,.ptr 0 7 0 0),(7,slV true 6 (enC K)),(8,.int .i64 (i:Int))]∧H=⟨[.cells 7 [[.str name,.int .i64 k,.str nm,.int .i64 z,slV kb' 4 (cellsL kids),slV lb 4 (cellsL log),slV kb 6 (enC keys)]],.cells 4 [[.int .i64 kx,.str nmx,.int .i64 zx,slV bx 4 (cellsL kidsx)]],.cells 4 [[.int .i64 ky,.str nmy,.int .i64 zy,slV by' 4 (cellsL kidsy)]]],0,[],0⟩)
          (fun m tm H hI=> ?_) K.length _ _ ⟨0,_,by omega,by simp,ovr_mk ⟨rfl,rfl,rfl,trivial⟩,rfl⟩
         clear en hlx c5 c6
         obtain ⟨i,base,hi,hI,rfl,rfl⟩:=hI
         by_cases hlt:i < K.length
         · obtain ⟨e, he⟩ : ∃ e, K[i]? = some e := ⟨K[i], by simp⟩
           obtain ⟨e',he'⟩:∃ e',keys[i]? = some e':=⟨keys[i]'(by omega),by simp⟩
           have hlx:aBin E0 .lss 3 (.int .i64 (i:Int)) (.int .i64 ((enC K).length:Int))=some (.bool true):=lss_t (by omega)
           have o1:=hK e (List.mem_of_getElem? he)
           have o2:=hE e' (List.mem_of_getElem? he')
           have hs:=c15 o1.1.1 o2.1.1 (by have:=o1.1.2;omega) (by have:=o2.1.2;omega)
           rw [drop_cons he,drop_cons he'] at hI
           simp only [enB] at hI
           have b1:=neqS_d e.name e'.name
           have b2:=neq_d e.idx e'.idx
           have hj1:=enC_get he
           have hj2:=enC_get he'
           have hlz:i < (enC K).length:=by omega
           have hlz2:i < (enC keys).length:=by omega
           generalize decide (e.key.cmp e'.key=0)=D at hs hI
           obtain ⟨N1,hN1⟩:∃ N1,N1=decide (e.name≠e'.name):=⟨_,rfl⟩
           obtain ⟨N2,hN2⟩:∃ N2,N2=decide (e.idx≠e'.idx):=⟨_,rfl⟩
           rw [← hN1] at b1
           rw [← hN2] at b2
           have x1:decide (e.name=e'.name)= !N1:=by rw [hN1];by_cases q:e.name=e'.name <;> simp [q]
           have x2:decide (e.idx=e'.idx)= !N2:=by rw [hN2];by_cases q:e.idx=e'.idx <;> simp [q]
           rw [x1,x2] at hI
           clear x1 x2 hN1 hN2 o1 o2 hK hE
           obtain ⟨na,⟨k1,n1,z1,t1,q1⟩,ia⟩:=e
           obtain ⟨nb,⟨k2,n2,z2,t2,q2⟩,ib⟩:=e'
           simp only [En.cells,Tm.cells,List.cons_append,List.nil_append] at hj1 hj2 hs b1 b2
           have hO:(N1=false∧N2=false∧D=true)∨(N1=true)∨(N1=false∧N2=true)∨(N1=false∧N2=false∧D=false):=by
            cases N1 <;> cases N2 <;> cases D <;> simp
           rcases hO with ⟨rfl,rfl,rfl⟩ | hO
           · simp only [Bool.not_false, Bool.true_and] at hI
             repeat' first | refine κn ?_ | refine κi ?_ | refine κl ?_ | refine κg ?_ | refine κd (hs _) ?_ | refine κD ?_ | refine κI ?_ | (apply dF (ty:=4);rfl;rfl;rfl;rfl) | refine κh ?_ | refine κa ?_ | (apply Wp.draw tOk follows;kernel_rfl) | fail
             exact LoopI.go (m - 1) (by omega) ⟨i+1,_,by omega,hI,ovr_mk ⟨rfl,rfl,int_eq (wrap_nat (n:=i+1) (by omega)),trivial⟩,rfl⟩
           · have hv : V = 1 := by
               rw [hV,hI]
               rcases hO with rfl | ⟨rfl,rfl⟩ | ⟨rfl,rfl,rfl⟩ <;> simp
             subst hv
             clear hI hV
             rcases hO with rfl | ⟨rfl,rfl⟩ | ⟨rfl,rfl,rfl⟩
             all_goals
              repeat' first | refine κn ?_ | refine κi ?_ | refine κl ?_ | refine κg ?_ | (apply dK;rfl;rfl;rfl) | refine κd (hs _) ?_ | refine κD ?_ | refine κI ?_ | (apply dT (ty:=4);rfl;rfl;rfl;rfl) | (apply dF (ty:=4);rfl;rfl;rfl;rfl) | refine κh ?_ | refine κa ?_ | (apply Wp.draw tOk follows;kernel_rfl) | refine κf ?_ | fail
             all_goals rfl
         · have e : i = K.length := by omega
           subst e
           rw [List.drop_length,hle,List.drop_length] at hI
           rw [if_neg (by rw [hI];simp [enB])] at hV
           subst hV
           have hlx:aBin E0 .lss 3 (.int .i64 (K.length:Int)) (.int .i64 ((enC K).length:Int))=some (.bool false):=lss_f (by omega)
           repeat' first | refine κn ?_ | refine κi ?_ | refine κl ?_ | refine κg ?_ | refine κa ?_ | refine κf ?_ | fail
           all_goals rfl
       · rw [if_pos (enB_len hle)] at hV
         subst hV
         have en:aBin E0 .neq 3 (.int .i64 ((enC K).length:Int)) (.int .i64 ((enC keys).length:Int))=some (.bool true):=neq0_t (by rw [h2,h3];omega)
         repeat' first | refine κn ?_ | refine κc (c5 _) ?_ | refine κc (c6 _) ?_ | refine κi ?_ | refine κl ?_ | refine κt ?_ | refine κg ?_ | refine κa ?_ | refine κf ?_ | fail
         all_goals rfl
 · have hv1 : V = 1 := by
     rw [hV]
     cases B1 with
     | false=>rfl
     | true =>
       cases B2 with
       | false =>
         have:key.cmp (.mk ks nms ss bs kidss)≠0:=of_decide_eq_false hB2.symm
         simp [this]
       | true =>
         cases B3 with
         | false=>exact absurd ⟨rfl,rfl,rfl⟩ hgo
         | true =>
           have q2:¬ key.cmp (.mk ks nms ss bs kidss)≠0:=fun e=>by simp [e] at hB2
           have q3:32 < log.length:=of_decide_eq_true hB3.symm
           simp only [Bool.true_eq_false,if_false,if_neg q2,if_pos q3]
   subst hv1
   clear hV c4 c5 c6 hK hKl hE
   obtain ⟨k,nm,z,kb',kids⟩:=key
   simp only [Tm.cells,List.cons_append,List.nil_append] at hfz c1 c2 c3 ⊢
   have hO:B1=false∨(B1=true∧B2=false)∨(B1=true∧B2=true∧B3=true):=by
    revert hgo
    cases B1 <;> cases B2 <;> cases B3 <;> simp
   clear hgo hB1 hB2 hB3
   rcases hO with rfl | ⟨rfl,rfl⟩ | ⟨rfl,rfl,rfl⟩
   all_goals
    refine κw tOk fe73.ok rfl ?_ hfz
    repeat' first | refine κn ?_ | refine κg ?_ | (apply dK;rfl;rfl;rfl) | (apply dCl;rfl;rfl;rfl;rfl;rfl;first | exact c1 _ | exact c2 _ | exact c3 _) | refine κD ?_ | (apply dLn;rfl;rfl;rfl;rfl;rfl) | (apply dT (ty:=4);rfl;rfl;rfl;rfl) | (apply dF (ty:=4);rfl;rfl;rfl;rfl) | refine κh ?_ | refine κa ?_ | (apply Wp.draw tOk follows;kernel_rfl) | refine κf ?_ | fail
   all_goals rfl
end Go.Vm.Seat
namespace Go.Vm.Seat
open Go.Proofs
def svNew (name:Bs):Sv:=⟨name,skT name,true,[],true,[]⟩
def svZero:Sv:=⟨[],.zero,true,[],true,[]⟩
theorem svZero_cells:svZero.cells= [.str [],.int .i64 0,.str [],.int .i64 0,.nils,.nils,.nils]:=by
 simp only [svZero,Sv.cells,zero_cells,cellsL,enC,List.map_nil,slV_nil_true]
 rfl
theorem frz2_sv (m:Nat) (H:Heap) (s:Sv):frz2 m H (.agg s.cells)=some (.agg s.cells):=by
 obtain ⟨name,⟨k,nm,z,b,kids⟩,lb,log,kb,keys⟩:=s
 have h1:∀ cs,frz3 m H (.agg cs)=frz2 m H (.agg cs):=fun _=>rfl
 rw [← h1,frz3_agg]
 simp only [Sv.cells,Tm.cells,List.cons_append,List.nil_append,frzCL,frzC_slV]
 rfl
theorem frz3_svI (m:Nat) (H:Heap) (s:Sv) (e:Int):frz3 m H (.tup [.agg s.cells,.int .i64 e])=some (.tup [.agg s.cells,.int .i64 e]):=by
 show (match frz2L m H [.agg s.cells,.int .i64 e] with | some vs'=>some (PV.tup vs') | none=>none)=_
 simp only [frz2L,frz2_sv]
 rfl
theorem frz3_rdI (m:Nat) (H:Heap) (c:Rd) (e:Int):frz3 m H (.tup [.agg c.cells,.int .i64 e])=some (.tup [.agg c.cells,.int .i64 e]):=by
 show (match frz2L m H [.agg c.cells,.int .i64 e] with | some vs'=>some (PV.tup vs') | none=>none)=_
 simp only [frz2L,frz3_rd]
 rfl
theorem buildSv (name:Bs) (k:Tm):aBuild E0 62 [(0,.str name),(1,.agg k.cells)]=some (.agg (Sv.mk name k true [] true []).cells):=by
 obtain ⟨kk,nm,z,b,kids⟩:=k
 simp only [Sv.cells,Tm.cells,cellsL,enC,List.map_nil,slV_nil_true]
 rfl
theorem c71 (name:Bs) (hn:name.length≤1000):∀ H,CallOk E0 Tryz.prog 71 [.str name] H (.tup [.agg (if rightB name=true then svNew name else svZero).cells,.int .i64 (if rightB name=true then 0 else 2)]) H:=by
 have c1:=c144 name (by omega)
 have c2:=c145 name
 have hb:=buildSv name (skT name)
 unfold svNew
 generalize rightB name=B at c1 ⊢
 cases B with
 | false =>
   have hfr:=frz3_svI 0 hNil svZero 2
   show ∀ H,CallOk E0 Tryz.prog _ _ H (.tup [.agg svZero.cells,.int .i64 2]) H
   rw [svZero_cells] at hfr ⊢
   refine κw tOk fe71.ok hfr ?_
   repeat' first | refine κn ?_ | refine κc (c1 _) ?_ | refine κt ?_ | refine κg ?_ | refine κa ?_ | refine κf ?_ | fail
   all_goals rfl
 | true =>
   have hfr:=frz3_svI 0 hNil ⟨name,skT name,true,[],true,[]⟩ 0
   have hft:=fun m H=>frz3_svI m H ⟨name,skT name,true,[],true,[]⟩ 0
   show ∀ H,CallOk E0 Tryz.prog _ _ H (.tup [.agg (Sv.mk name (skT name) true [] true []).cells,.int .i64 0]) H
   generalize skT name=K at c2 hb hfr hft ⊢
   obtain ⟨kk,nm,z,b,kids⟩:=K
   simp only [Sv.cells,Tm.cells,List.cons_append,List.nil_append] at c2 hb hfr hft ⊢
   refine κw tOk fe71.ok hfr ?_
   repeat' first | refine κn ?_ | refine κc (c1 _) ?_ | refine κc (c2 _) ?_ | (apply qBd;rfl;rfl;rfl;assumption;exact IsV.aggN) | refine κt ?_ | refine κg ?_ | refine κa ?_ | refine κf ?_ | fail
   all_goals exact hft _ _
def pkT (k:Tm):Tm:= .mk 3 [112,107] 0 true [k]
def folV (s:Sv):Rd×Int:=if svV s≠0 then (.zero,svV s) else (⟨pkT s.key,0,.zero,.zero⟩,0)
theorem buildRd1 (x:Tm):aBuild E0 40 [(0,.agg x.cells)]=some (.agg (Rd.mk x 0 .zero .zero).cells):=by
 obtain ⟨k1,nm1,s1,b1,kids1⟩:=x
 simp only [Rd.cells,zero_cells,Tm.cells]
 rfl
theorem c33 {s:Sv} (h:SvOk s):∀ H,CallOk E0 Tryz.prog 33 [.agg s.cells] H (.tup [.agg (folV s).1.cells,.int .i64 (folV s).2]) H:=by
 have c1:=c73 h
 have c2:=rapp1 [112,107] s.key
 have e:Tm.mk 3 [112,107] 0 true [s.key]=pkT s.key:=rfl
 have hbd:=buildRd1 (pkT s.key)
 have be:=err_eq (svV s)
 have hfz:=frzSv s
 rw [e] at c2
 unfold folV
 generalize svV s=V at c1 be ⊢
 clear h
 obtain ⟨name,key,lb,log,kb,keys⟩:=s
 simp only [Sv.cells] at c1 c2 hbd hfz ⊢
 by_cases hv:V=0
 · rw [decide_eq_false (not_not_intro hv)] at be
   rw [if_neg (not_not_intro hv)]
   have hfr:=frz3_rdI 0 hNil ⟨pkT key,0,.zero,.zero⟩ 0
   have hft:=fun m H=>frz3_rdI m H ⟨pkT key,0,.zero,.zero⟩ 0
   show ∀ H,CallOk E0 Tryz.prog _ _ H (.tup [.agg (Rd.mk (pkT key) 0 .zero .zero).cells,.int .i64 0]) H
   generalize pkT key=K at c2 hbd hfr hft ⊢
   obtain ⟨k1,nm1,s1,b1,kids1⟩:=K
   obtain ⟨k2,nm2,s2,b2,kids2⟩:=key
   simp only [Rd.cells,zero_cells,Tm.cells,List.cons_append,List.nil_append] at c1 c2 hbd hfz hfr hft ⊢
   refine κw tOk fe33.ok hfr ?_ hfz
   repeat' first | refine κn ?_ | refine κc (c1 _) ?_ | refine κc (c2 _) ?_ | refine κs ?_ | refine κi ?_ | (apply qBd;rfl;rfl;rfl;assumption;exact IsV.aggN) | refine κg ?_ | refine κa ?_ | refine κf ?_ | fail
   all_goals exact hft _ _
 · rw [decide_eq_true hv] at be
   rw [if_pos hv]
   have hfr:=frz3_rdI 0 hNil .zero V
   show ∀ H,CallOk E0 Tryz.prog _ _ H (.tup [.agg Rd.zero.cells,.int .i64 V]) H
   rw [rdz_cells] at hfr ⊢
   obtain ⟨k2,nm2,s2,b2,kids2⟩:=key
   simp only [Tm.cells,List.cons_append,List.nil_append] at c1 hfz ⊢
   refine κw tOk fe33.ok hfr ?_ hfz
   repeat' first | refine κn ?_ | refine κc (c1 _) ?_ | refine κi ?_ | refine κg ?_ | refine κa ?_ | refine κf ?_ | fail
   all_goals rfl
end Go.Vm.Seat
