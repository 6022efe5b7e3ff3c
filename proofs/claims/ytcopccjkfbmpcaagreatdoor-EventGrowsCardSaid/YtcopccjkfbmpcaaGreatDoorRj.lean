/-
  The line of a moment: the program's text.
-/
import Derived.Test.YtcopccjkfbmpcaaGreatDoorRk
set_option maxHeartbeats 0
set_option maxRecDepth 100000
namespace Go.Vm
mutual
theorem Zqq:∀ t:Tm,t.nodes=0→((t.all.map Tm.knd).all fun k=> !decide (k=1))=true→t.wr=true
 | .mk k nm s b kz, h, hg => by
   rw [Tm.nodes] at h
   have h0:YF k nm s kz.length=0:=by
    by_cases e:YF k nm s kz.length=0
    · exact e
    · rw [if_pos e] at h;exact h
   rw [if_neg (by omega)] at h
   rw [Tm.all,List.map_cons,List.all_cons,Bool.and_eq_true] at hg
   have hk1:k≠1:=by intro e;have h9:=hg.1;simp [Tm.knd,e] at h9
   have hkids:=Znn kz h hg.2
   rw [Tm.wr,decide_eq_true (Zmt (ZjY h0)),Bool.true_and]
   by_cases hk:k=3
   · rw [if_pos hk];exact hkids
   · rw [if_neg hk]
     have:¬ (¬ (k=1∨k=2∨k=3)∨s<0∨5<s∨(k=3∧s≠0)∨(k≠3∧0<kz.length)):=fun e=>by
      unfold YF at h0
      rw [if_pos e] at h0
      cases h0
     simp only [not_or,Int.not_lt] at this
     rw [decide_eq_true (by omega),decide_eq_true this.2.1,decide_eq_true this.2.2.1];rfl
theorem Znn:∀ l:List Tm,Yj l=0→(((Vj l).map Tm.knd).all fun k=> !decide (k=1))=true→wrL l=true
 | [],_,_=>rfl
 | t :: r, h, hg => by
   rw [Yj] at h
   have h0:t.nodes=0:=by
    by_cases e:t.nodes=0
    · exact e
    · rw [if_pos e] at h;exact h
   rw [if_neg (by omega)] at h
   rw [Vj,List.map_append,List.all_append,Bool.and_eq_true] at hg
   rw [wrL,Zqq t h0 hg.1,Znn r h hg.2];rfl
end
theorem Zom {t:Tm} (h:t.Fr):t.wr=true:=Zqq t (ZhN h.v) (by rw [← XU];exact h.g)
end Go.Vm
namespace Go.Vm.Seat
variable {t:Tm}
open Go.Proofs
theorem Zte (h:t.Fr):(wT t).length≤16000:=by
 have h1:=ZgG t (Zom h)
 have h2:=Ze1 h
 omega
theorem c73 (ht:t.Ok) (hf:t.Fr):∀ H,CallOk E0 Tryz.prog 73 [.agg t.cells] H (.tup [.str (wT t),.int .i64 0]) H:=by
 have hV:=c46 ht (by have:=Ze1 hf;omega)
 rw [hf.v] at hV
 obtain ⟨r,H',hw,rfl,bx',lv',nt',p',v',rfl,hb,hS, -⟩:=wrT ht (Zom hf) (bx:=[.cells 4 [t.cells],.sp 69 [.nilp,.nils]]) (lv:=[]) (nt:=0) (id:=1) (s:=[]) rfl (.no _ _) (by have:=Ze1 hf;simp only [List.length_nil];omega)
 rw [List.nil_append] at hS
 obtain ⟨lv2,hs⟩:=ZtJ hb hS (by have:=Zte hf;omega)
 generalize wT t=W at hs ⊢
 clear hS hb
 obtain ⟨k,nm,s,b,kz⟩:=t
 simp only [Tm.cells] at hV hw ⊢
 refine Jw tOk fe73.ok rfl ?_
 repeat' first|(apply qCl;rfl;rfl;rfl;rfl;first|exact hV _|exact hw|exact hs)|refine Jt ?_|refine Jo ?_|fail
 all_goals rfl
end Go.Vm.Seat
namespace Go.Vm
def TF (t:Tm):Prop:=t.Ok∧t.Fr∧t.size≤40
theorem Zp0 (b:List Nat) {k n c:Nat} (hn:n<4):(∀ t,t∈(mkM b k n c).terms→TF t)∧(mkM b k n c).terms.length≤3:=by
 have h1:∀ b,TF (VZ b n):=fun b=>⟨Zja b n,ZnH b (by omega),ZmP b n⟩
 have hm:∀ t,t∈XQ b n (c % 4)→TF t:=fun t ht=>by
  obtain ⟨j, -,rfl⟩:=List.mem_map.1 ht
  exact h1 _
 have hl:=W0 b n (c % 4)
 have h4:c % 4<4:=Nat.mod_lt _ (by omega)
 unfold mkM
 split
 · exact ⟨fun t ht=>(by cases ht),Nat.zero_le _⟩
 split
 · exact ⟨fun t ht=>by rw [List.mem_singleton.1 ht];exact h1 _,by simp⟩
 split
 · exact ⟨fun t ht=>by rw [List.mem_singleton.1 ht];exact h1 _,by simp⟩
 split
 · exact ⟨hm,by simp only;omega⟩
 split
 · exact ⟨hm,by simp only;omega⟩
 split
 · exact ⟨fun t ht=>(by cases ht),Nat.zero_le _⟩
 · exact ⟨fun t ht=>(by cases ht),Nat.zero_le _⟩
def tfT (t:Tm):List Bs:=[[124],wT t]
theorem X3 (a b:List Bs):Zp (a++b)=Zp a++Zp b:=by simp [Zp]
theorem XO (l:List Bs):noB (Zp l)=true:=by
 simp only [noB,Zp,List.all_map,List.all_eq_true]
 intro x _;rfl
theorem Uz (l:List Bs):(Zp l).all (fun c=>c.all ZX)=true:=by
 simp only [Zp,List.all_map,List.all_eq_true]
 intro x _;rfl
theorem ZaX (N:Nat):∀ l:List Bs,(∀ x,x∈l→x.length≤N)→(X0 [32] l).length≤(N+1)*l.length
 | [],_=>by simp [X0]
 | [x], h => by
   have:=h x (by simp)
   simp only [X0,List.length_cons,List.length_nil]
   omega
 | x :: y :: r, h => by
   have h1:=h x (by simp)
   have h2:=ZaX N (y::r) (fun z hz=>h z (List.mem_cons_of_mem _ hz))
   rw [X0]
   simp only [List.length_append,List.length_cons,List.length_nil] at h2 ⊢
   rw [Nat.mul_add (N+1)]
   omega
theorem Ub:∀ {l:List Tm},(∀ t,t∈l→TF t)→(l.flatMap tfT).length=2*l.length
 | [],_=>rfl
 | t :: r, h => by
   rw [List.flatMap_cons,List.length_append,Ub fun t ht=>h t (List.mem_cons_of_mem _ ht)]
   simp only [tfT,List.length_cons,List.length_nil];omega
end Go.Vm
namespace Go.Vm.Seat
variable {l:List Bs} {out:PV} {lv:List Nat} {n nt:Nat} {te:List Tm} {kd:Int} {w:Bs}
open Go.Proofs
theorem Zn5:ApT E0 22 22 1 16:=⟨_,_,_,_,_,rfl,rfl,rfl,rfl,rfl,rfl,rfl,by decide,rfl⟩
theorem apF (h : ApV false 1 (Zp l) out lv nt) {x : PV} {r : List Bs} (hx : ElV 1 x (Zp r)) (hl : l.length + r.length ≤ 100000) :
  ∃ out' lv' nt',(∀ bx ro,ZA E0 22 22 out x ⟨bx,ro,lv,nt⟩=some (out',⟨bx,ro,lv',nt'⟩))∧ApV false 1 (Zp (l++r)) out' lv' nt':=by
 obtain ⟨out',lv',nt',hap,hA', -⟩:=h.app Zn5 hx (Uz _) (ZD (by simp only [ZI];omega) (by decide)) (XO _)
 rw [← X3] at hA'
 exact ⟨out',lv',nt',hap,hA'⟩
theorem Zl9 (hA:ApV false 1 (Zp l) out lv nt) (h1:l.length≤1000000) (h2:(X0 [32] l).length≤1000000) (bx:List Box):CallOk E0 Tryz.prog 74 [out,.str [32]] ⟨bx,0,lv,nt⟩ (.str (X0 [32] l)) ⟨bx,0,lv,nt⟩:=by
 refine (z74 [out,.str [32]] _ _ _ ?_).1
 have gq:(Nat.ble l.length 1000000&&Nat.ble (X0 [32] l).length 1000000)=true:=by
  rw [Nat.ble_eq_true_of_le h1,Nat.ble_eq_true_of_le h2];rfl
 generalize hL:Zp l=L at hA
 cases hA with
 |nil _ _ h=>cases h
 | full =>
   subst hL
   simp only [Zhu,Zfj,gq]
 | tok =>
   subst hL
   simp only [Zhu,Zfj,gq]
theorem ZvC:([0,1,2,3].all fun (d:Nat)=>XY E0 300 100 ⟨72,[.int .i64 (d:Int)],.str [UInt8.ofNat (48+d)]⟩)=true:=by kernel_rfl
theorem itC {d:Nat} (hd:d<4):∀ H,CallOk E0 Tryz.prog 72 [.int .i64 (d:Int)] H (.str [UInt8.ofNat (48+d)]) H:=
 Ys tOk follows fOk zOk (List.all_eq_true.1 ZvC d (by simp;omega))
theorem Zml {t:Tm} (h:TF t):∀ H,CallOk E0 Tryz.prog 73 [.agg t.cells] H (.tup [.str (wT t),.int .i64 0]) H:=c73 h.1 h.2.1
def LnE (cs:List PV):Prop:=∃ s:Bs,s.length≤20000∧∀ H,CallOk E0 Tryz.prog 41 [.agg cs] H (.str s) H
theorem Qr {P0:List Bs} (hPl:P0.length≤3) (hPm:∀ x,x∈P0→x.length≤1600) (hte:∀ t,t∈te→TF t) (hl:te.length≤3):(X0 [32] (P0++te.flatMap tfT)).length≤20000:=by
 have htl:=Ub hte
 have hmem:∀ y,y∈P0++te.flatMap tfT→y.length≤1600:=fun y hy=>by
  rcases List.mem_append.1 hy with h|h
  · exact hPm y h
  · obtain ⟨t, ht, h⟩ := List.mem_flatMap.1 h
    have:=ZgG t (Zom (hte t ht).2.1)
    have:=(hte t ht).2.2
    simp only [tfT,List.mem_cons,List.not_mem_nil,or_false] at h
    rcases h with rfl|rfl
    · simp
    · omega
 have hjl:=ZaX 1600 _ hmem
 rw [List.length_append,htl] at hjl
 have:(1600+1)*(P0.length+2*te.length)≤(1600+1)*9:=Nat.mul_le_mul_left _ (by omega)
 omega
theorem Zng (hk:(kd=2∧w= [114,101,99,101,105,118,101])∨(kd=3∧w= [115,101,110,100])) (hn:n<4) (hte:∀ t,t∈te→TF t) (hl:te.length≤3):LnE [.int .i64 kd,.int .i64 (n:Int),.int .i64 0,.nils,.int .i64 0,slV true 4 (Za te)]:=by
 have hsh:=WU
 unfold shC at hsh
 have hit:=itC hn
 have hcl:=Zb te
 generalize UInt8.ofNat (48+n)=D at hit
 obtain ⟨P0,hP0⟩:∃ P0:List Bs,P0= [w,[D]]:=⟨_,rfl⟩
 have hPl:P0.length≤3:=by rw [hP0];simp
 have hPm:∀ x,x∈P0→x.length≤1600:=by
  rw [hP0]
  intro x hx
  simp only [List.mem_cons,List.not_mem_nil,or_false] at hx
  rcases hx with rfl|rfl
  · rcases hk with ⟨-,rfl⟩|⟨-,rfl⟩<;>simp
  · simp
 refine ⟨X0 [32] (P0++te.flatMap tfT),Qr hPl hPm hte hl,?_⟩
 have hA0:ApV false 1 (Zp [w]) (.sl .full 1 [[.str w]]) [] 0:= .full _ _ _ rfl (XO [w])
 obtain ⟨o1,lv1,nt1,hap1,hA1⟩:=apF hA0 (x:= .sl .full 1 [[.str [D]]]) (r:=[[D]]) (.sl _ _ _) (by simp)
 obtain ⟨o2,lv2,nt2,hap2,hAX⟩:=apF hA1 (x:= .nils) (r:=[]) (.nils _) (by simp)
 rw [List.append_nil,show [w]++ [[D]]=P0 from hP0.symm] at hAX
 clear hA0 hA1 hP0
 rcases hk with ⟨rfl,rfl⟩|⟨rfl,rfl⟩
 · refine ZH (own := fun d => Nat.beq d 30006) tOk fe41.ok (by simp only [Zx, frzG, XM, ZE]; rfl) rfl ?_
   refine Wp.seq ?_
   repeat' first|refine Jc (hit _) ?_|refine Js ?_|refine JA ?_|refine Jl ?_|refine Jt ?_|refine Jo ?_|refine Jd (hsh _) ?_|(apply dAl;rfl;rfl;rfl;rfl;exact IsV.ptrM;exact IsH.mkN)|refine Jh ?_|(apply dWB tOk follows;rfl;kernel_rfl;rfl;exact IsH.mkN)|fail
   refine Wp.while (fun m tm H => ∃ (i : Nat) (base : TM) (out : PV) (lv : List Nat) (nt : Nat), i + m = te.length ∧ ApV false 1 (Zp (P0 ++ (te.take i).flatMap tfT)) out lv nt ∧
     tm=ovr base [(4,out),(46,slV true 4 (Za te)),(47,.int .i64 (te.length:Int)),(48,.int .i64 (i:Int))]∧H=⟨[.cells 6 [[.int .i64 2,.int .i64 (n:Int),.int .i64 0,.nils,.int .i64 0,slV true 4 (Za te)]],.dead,.dead,.dead,.dead,.dead,.cells 8 [shC.getD 2 []],.dead],0,lv,nt⟩)
    (fun m tm H hI=>Wp.drop ?_) te.length _ _ ⟨0,_,_,_,_,by omega,by rw [List.take_zero,List.flatMap_nil,List.append_nil];exact hAX,Zf ⟨rfl,rfl,Ze (by rw [hcl]),rfl,trivial⟩,rfl⟩
   obtain ⟨i,base,out,lv,nt,hi,hA,rfl,rfl⟩:=hI
   have hlx:=Zq (i:Int) (te.length:Int)
   by_cases hlt:i<te.length
   · obtain ⟨x, hx⟩ : ∃ x, te[i]? = some x := ⟨te[i], by simp⟩
     rw [decide_eq_true (by omega)] at hlx
     have hF:=Zml (hte x (List.mem_of_getElem? hx))
     have hsn:P0++(te.take (i+1)).flatMap tfT=(P0++(te.take i).flatMap tfT)++ [[124],wT x]:=by
      rw [List.take_add_one,hx,List.flatMap_append,List.append_assoc];rfl
     have htl:=Ub (l:=te.take i) (fun t ht=>hte t (List.mem_of_mem_take ht))
     rw [List.length_take] at htl
     obtain ⟨o5,lv5,nt5,hap5,hA5⟩:=apF hA (x:= .sl .full 1 [[.str [124]],[.str (wT x)]]) (r:=[[124],wT x]) (.sl _ _ _) (by simp only [List.length_append,htl,List.length_cons,List.length_nil];omega)
     rw [← hsn] at hA5
     clear hAX hA hsn htl
     generalize wT x=w2 at hF hap5
     obtain ⟨k',nm',s',b',kz'⟩:=x
     have hj:=Zk hx
     simp only [Tm.cells] at hF
     repeat' first|refine Jc (hF _) ?_|refine Js ?_|refine JA ?_|refine Ji ?_|refine Jx ?_|refine Jo ?_|fail
     refine DropQ.go [(4,o5),(46,slV true 4 (Za te)),(47,.int .i64 (te.length:Int)),(48,.int .i64 ((i+1:Nat):Int))] ⟨rfl,rfl,rfl,Ze (Zd (n:=i+1) (by omega)),trivial⟩ ?_ rfl ?_ (LoopI.go (m-1) (by omega) ⟨i+1,_,o5,lv5,nt5,by omega,hA5,rfl,rfl⟩)
     · simp [Zh,under,hA5.under]
     · simp [YJ,ZM,Zh,under]
   · have e : i = te.length := by omega
     subst e
     rw [decide_eq_false (by omega)] at hlx
     rw [List.take_length] at hA
     have htl:=Ub hte
     have hJ:=fun bx=>Zl9 hA (by rw [List.length_append,htl];omega) (by have:=Qr hPl hPm hte hl;omega) bx
     clear hAX hA htl
     repeat' first|refine Jc (hJ _) ?_|refine Ji ?_|refine Jo ?_|fail
     all_goals rfl
 · refine ZH (own := fun d => Nat.beq d 30006) tOk fe41.ok (by simp only [Zx, frzG, XM, ZE]; rfl) rfl ?_
   refine Wp.seq ?_
   repeat' first|refine Jc (hit _) ?_|refine Js ?_|refine JA ?_|refine Jl ?_|refine Jt ?_|refine Jo ?_|refine Jd (hsh _) ?_|(apply dAl;rfl;rfl;rfl;rfl;exact IsV.ptrM;exact IsH.mkN)|refine Jh ?_|(apply dWB tOk follows;rfl;kernel_rfl;rfl;exact IsH.mkN)|fail
   refine Wp.while (fun m tm H => ∃ (i : Nat) (base : TM) (out : PV) (lv : List Nat) (nt : Nat), i + m = te.length ∧ ApV false 1 (Zp (P0 ++ (te.take i).flatMap tfT)) out lv nt ∧
     tm=ovr base [(4,out),(46,slV true 4 (Za te)),(47,.int .i64 (te.length:Int)),(48,.int .i64 (i:Int))]∧H=⟨[.cells 6 [[.int .i64 3,.int .i64 (n:Int),.int .i64 0,.nils,.int .i64 0,slV true 4 (Za te)]],.dead,.dead,.dead,.dead,.dead,.cells 8 [shC.getD 3 []],.dead],0,lv,nt⟩)
    (fun m tm H hI=>Wp.drop ?_) te.length _ _ ⟨0,_,_,_,_,by omega,by rw [List.take_zero,List.flatMap_nil,List.append_nil];exact hAX,Zf ⟨rfl,rfl,Ze (by rw [hcl]),rfl,trivial⟩,rfl⟩
   obtain ⟨i,base,out,lv,nt,hi,hA,rfl,rfl⟩:=hI
   have hlx:=Zq (i:Int) (te.length:Int)
   by_cases hlt:i<te.length
   · obtain ⟨x, hx⟩ : ∃ x, te[i]? = some x := ⟨te[i], by simp⟩
     rw [decide_eq_true (by omega)] at hlx
     have hF:=Zml (hte x (List.mem_of_getElem? hx))
     have hsn:P0++(te.take (i+1)).flatMap tfT=(P0++(te.take i).flatMap tfT)++ [[124],wT x]:=by
      rw [List.take_add_one,hx,List.flatMap_append,List.append_assoc];rfl
     have htl:=Ub (l:=te.take i) (fun t ht=>hte t (List.mem_of_mem_take ht))
     rw [List.length_take] at htl
     obtain ⟨o5,lv5,nt5,hap5,hA5⟩:=apF hA (x:= .sl .full 1 [[.str [124]],[.str (wT x)]]) (r:=[[124],wT x]) (.sl _ _ _) (by simp only [List.length_append,htl,List.length_cons,List.length_nil];omega)
     rw [← hsn] at hA5
     clear hAX hA hsn htl
     generalize wT x=w2 at hF hap5
     obtain ⟨k',nm',s',b',kz'⟩:=x
     have hj:=Zk hx
     simp only [Tm.cells] at hF
     repeat' first|refine Jc (hF _) ?_|refine Js ?_|refine JA ?_|refine Ji ?_|refine Jx ?_|refine Jo ?_|fail
     refine DropQ.go [(4,o5),(46,slV true 4 (Za te)),(47,.int .i64 (te.length:Int)),(48,.int .i64 ((i+1:Nat):Int))] ⟨rfl,rfl,rfl,Ze (Zd (n:=i+1) (by omega)),trivial⟩ ?_ rfl ?_ (LoopI.go (m-1) (by omega) ⟨i+1,_,o5,lv5,nt5,by omega,hA5,rfl,rfl⟩)
     · simp [Zh,under,hA5.under]
     · simp [YJ,ZM,Zh,under]
   · have e : i = te.length := by omega
     subst e
     rw [decide_eq_false (by omega)] at hlx
     rw [List.take_length] at hA
     have htl:=Ub hte
     have hJ:=fun bx=>Zl9 hA (by rw [List.length_append,htl];omega) (by have:=Qr hPl hPm hte hl;omega) bx
     clear hAX hA htl
     repeat' first|refine Jc (hJ _) ?_|refine Ji ?_|refine Jo ?_|fail
     all_goals rfl
theorem ZmB (hk:(kd=4∧w= [98,101,103,105,110])∨(kd=5∧w= [99,108,97,105,109])) {g:Nat} (hn:n<4) (hg:g<4) (hte:∀ t,t∈te→TF t) (hl:te.length≤3):LnE [.int .i64 kd,.int .i64 (n:Int),.int .i64 0,.nils,.int .i64 (g:Int),slV true 4 (Za te)]:=by
 have hsh:=WU
 unfold shC at hsh
 have hit:=itC hn
 have hig:=itC hg
 have hcl:=Zb te
 generalize UInt8.ofNat (48+n)=D at hit
 generalize UInt8.ofNat (48+g)=G at hig
 obtain ⟨P0,hP0⟩:∃ P0:List Bs,P0= [w,[D],[G]]:=⟨_,rfl⟩
 have hPl:P0.length≤3:=by rw [hP0];simp
 have hPm:∀ x,x∈P0→x.length≤1600:=by
  rw [hP0]
  intro x hx
  simp only [List.mem_cons,List.not_mem_nil,or_false] at hx
  rcases hx with rfl|rfl|rfl
  · rcases hk with ⟨-,rfl⟩|⟨-,rfl⟩<;>simp
  · simp
  · simp
 refine ⟨X0 [32] (P0++te.flatMap tfT),Qr hPl hPm hte hl,?_⟩
 have hA0:ApV false 1 (Zp [w]) (.sl .full 1 [[.str w]]) [] 0:= .full _ _ _ rfl (XO [w])
 obtain ⟨o1,lv1,nt1,hap1,hA1⟩:=apF hA0 (x:= .sl .full 1 [[.str [D]]]) (r:=[[D]]) (.sl _ _ _) (by simp)
 obtain ⟨o3,lv3,nt3,hap3,hA3⟩:=apF hA1 (x:= .sl .full 1 [[.str [G]]]) (r:=[[G]]) (.sl _ _ _) (by simp)
 obtain ⟨o2,lv2,nt2,hap2,hAX⟩:=apF hA3 (x:= .nils) (r:=[]) (.nils _) (by simp)
 rw [List.append_nil,show [w]++ [[D]]++ [[G]]=P0 from hP0.symm] at hAX
 clear hA0 hA1 hA3 hP0
 rcases hk with ⟨rfl,rfl⟩|⟨rfl,rfl⟩
 · refine ZH (own := fun d => Nat.beq d 30006) tOk fe41.ok (by simp only [Zx, frzG, XM, ZE]; rfl) rfl ?_
   refine Wp.seq ?_
   repeat' first|refine Jc (hit _) ?_|refine Jc (hig _) ?_|refine Js ?_|refine JA ?_|refine Jl ?_|refine Jt ?_|refine Jo ?_|refine Jd (hsh _) ?_|(apply dAl;rfl;rfl;rfl;rfl;exact IsV.ptrM;exact IsH.mkN)|refine Jh ?_|(apply dWB tOk follows;rfl;kernel_rfl;rfl;exact IsH.mkN)|fail
   refine Wp.while (fun m tm H => ∃ (i : Nat) (base : TM) (out : PV) (lv : List Nat) (nt : Nat), i + m = te.length ∧ ApV false 1 (Zp (P0 ++ (te.take i).flatMap tfT)) out lv nt ∧
     tm=ovr base [(4,out),(46,slV true 4 (Za te)),(47,.int .i64 (te.length:Int)),(48,.int .i64 (i:Int))]∧H=⟨[.cells 6 [[.int .i64 4,.int .i64 (n:Int),.int .i64 0,.nils,.int .i64 (g:Int),slV true 4 (Za te)]],.dead,.dead,.dead,.dead,.dead,.cells 8 [shC.getD 4 []],.dead],0,lv,nt⟩)
    (fun m tm H hI=>Wp.drop ?_) te.length _ _ ⟨0,_,_,_,_,by omega,by rw [List.take_zero,List.flatMap_nil,List.append_nil];exact hAX,Zf ⟨rfl,rfl,Ze (by rw [hcl]),rfl,trivial⟩,rfl⟩
   obtain ⟨i,base,out,lv,nt,hi,hA,rfl,rfl⟩:=hI
   have hlx:=Zq (i:Int) (te.length:Int)
   by_cases hlt:i<te.length
   · obtain ⟨x, hx⟩ : ∃ x, te[i]? = some x := ⟨te[i], by simp⟩
     rw [decide_eq_true (by omega)] at hlx
     have hF:=Zml (hte x (List.mem_of_getElem? hx))
     have hsn:P0++(te.take (i+1)).flatMap tfT=(P0++(te.take i).flatMap tfT)++ [[124],wT x]:=by
      rw [List.take_add_one,hx,List.flatMap_append,List.append_assoc];rfl
     have htl:=Ub (l:=te.take i) (fun t ht=>hte t (List.mem_of_mem_take ht))
     rw [List.length_take] at htl
     obtain ⟨o5,lv5,nt5,hap5,hA5⟩:=apF hA (x:= .sl .full 1 [[.str [124]],[.str (wT x)]]) (r:=[[124],wT x]) (.sl _ _ _) (by simp only [List.length_append,htl,List.length_cons,List.length_nil];omega)
     rw [← hsn] at hA5
     clear hAX hA hsn htl
     generalize wT x=w2 at hF hap5
     obtain ⟨k',nm',s',b',kz'⟩:=x
     have hj:=Zk hx
     simp only [Tm.cells] at hF
     repeat' first|refine Jc (hF _) ?_|refine Js ?_|refine JA ?_|refine Ji ?_|refine Jx ?_|refine Jo ?_|fail
     refine DropQ.go [(4,o5),(46,slV true 4 (Za te)),(47,.int .i64 (te.length:Int)),(48,.int .i64 ((i+1:Nat):Int))] ⟨rfl,rfl,rfl,Ze (Zd (n:=i+1) (by omega)),trivial⟩ ?_ rfl ?_ (LoopI.go (m-1) (by omega) ⟨i+1,_,o5,lv5,nt5,by omega,hA5,rfl,rfl⟩)
     · simp [Zh,under,hA5.under]
     · simp [YJ,ZM,Zh,under]
   · have e : i = te.length := by omega
     subst e
     rw [decide_eq_false (by omega)] at hlx
     rw [List.take_length] at hA
     have htl:=Ub hte
     have hJ:=fun bx=>Zl9 hA (by rw [List.length_append,htl];omega) (by have:=Qr hPl hPm hte hl;omega) bx
     clear hAX hA htl
     repeat' first|refine Jc (hJ _) ?_|refine Ji ?_|refine Jo ?_|fail
     all_goals rfl
 · refine ZH (own := fun d => Nat.beq d 30006) tOk fe41.ok (by simp only [Zx, frzG, XM, ZE]; rfl) rfl ?_
   refine Wp.seq ?_
   repeat' first|refine Jc (hit _) ?_|refine Jc (hig _) ?_|refine Js ?_|refine JA ?_|refine Jl ?_|refine Jt ?_|refine Jo ?_|refine Jd (hsh _) ?_|(apply dAl;rfl;rfl;rfl;rfl;exact IsV.ptrM;exact IsH.mkN)|refine Jh ?_|(apply dWB tOk follows;rfl;kernel_rfl;rfl;exact IsH.mkN)|fail
   refine Wp.while (fun m tm H => ∃ (i : Nat) (base : TM) (out : PV) (lv : List Nat) (nt : Nat), i + m = te.length ∧ ApV false 1 (Zp (P0 ++ (te.take i).flatMap tfT)) out lv nt ∧
     tm=ovr base [(4,out),(46,slV true 4 (Za te)),(47,.int .i64 (te.length:Int)),(48,.int .i64 (i:Int))]∧H=⟨[.cells 6 [[.int .i64 5,.int .i64 (n:Int),.int .i64 0,.nils,.int .i64 (g:Int),slV true 4 (Za te)]],.dead,.dead,.dead,.dead,.dead,.cells 8 [shC.getD 5 []],.dead],0,lv,nt⟩)
    (fun m tm H hI=>Wp.drop ?_) te.length _ _ ⟨0,_,_,_,_,by omega,by rw [List.take_zero,List.flatMap_nil,List.append_nil];exact hAX,Zf ⟨rfl,rfl,Ze (by rw [hcl]),rfl,trivial⟩,rfl⟩
   obtain ⟨i,base,out,lv,nt,hi,hA,rfl,rfl⟩:=hI
   have hlx:=Zq (i:Int) (te.length:Int)
   by_cases hlt:i<te.length
   · obtain ⟨x, hx⟩ : ∃ x, te[i]? = some x := ⟨te[i], by simp⟩
     rw [decide_eq_true (by omega)] at hlx
     have hF:=Zml (hte x (List.mem_of_getElem? hx))
     have hsn:P0++(te.take (i+1)).flatMap tfT=(P0++(te.take i).flatMap tfT)++ [[124],wT x]:=by
      rw [List.take_add_one,hx,List.flatMap_append,List.append_assoc];rfl
     have htl:=Ub (l:=te.take i) (fun t ht=>hte t (List.mem_of_mem_take ht))
     rw [List.length_take] at htl
     obtain ⟨o5,lv5,nt5,hap5,hA5⟩:=apF hA (x:= .sl .full 1 [[.str [124]],[.str (wT x)]]) (r:=[[124],wT x]) (.sl _ _ _) (by simp only [List.length_append,htl,List.length_cons,List.length_nil];omega)
     rw [← hsn] at hA5
     clear hAX hA hsn htl
     generalize wT x=w2 at hF hap5
     obtain ⟨k',nm',s',b',kz'⟩:=x
     have hj:=Zk hx
     simp only [Tm.cells] at hF
     repeat' first|refine Jc (hF _) ?_|refine Js ?_|refine JA ?_|refine Ji ?_|refine Jx ?_|refine Jo ?_|fail
     refine DropQ.go [(4,o5),(46,slV true 4 (Za te)),(47,.int .i64 (te.length:Int)),(48,.int .i64 ((i+1:Nat):Int))] ⟨rfl,rfl,rfl,Ze (Zd (n:=i+1) (by omega)),trivial⟩ ?_ rfl ?_ (LoopI.go (m-1) (by omega) ⟨i+1,_,o5,lv5,nt5,by omega,hA5,rfl,rfl⟩)
     · simp [Zh,under,hA5.under]
     · simp [YJ,ZM,Zh,under]
   · have e : i = te.length := by omega
     subst e
     rw [decide_eq_false (by omega)] at hlx
     rw [List.take_length] at hA
     have htl:=Ub hte
     have hJ:=fun bx=>Zl9 hA (by rw [List.length_append,htl];omega) (by have:=Qr hPl hPm hte hl;omega) bx
     clear hAX hA htl
     repeat' first|refine Jc (hJ _) ?_|refine Ji ?_|refine Jo ?_|fail
     all_goals rfl
theorem ZsN:([0,1,2,3].all fun (n:Nat)=>[0,1].all fun (r:Nat)=>[([[98],[97]]:List Bs),[[97],[98]]].all fun ag=>XY E0 400 100 ⟨41,[.agg [.int .i64 1,.int .i64 (n:Int),.int .i64 (r:Int),slV true 1 (Zp ag),.int .i64 0,.nils]],.str (X0 [32] ([[115,116,97,114,116],[UInt8.ofNat (48+n)],[UInt8.ofNat (48+r)]]++ag))⟩)=true:=by kernel_rfl
theorem ZrK:([([97]:Bs),[98]].all fun a=>XY E0 400 100 ⟨41,[.agg [.int .i64 6,.int .i64 0,.int .i64 0,slV true 1 (Zp [a]),.int .i64 0,.nils]],.str (X0 [32] [[114,101,118,101,97,108],a])⟩)=true:=by kernel_rfl
theorem Ztl:([0,1,2,3].all fun (n:Nat)=>XY E0 400 100 ⟨41,[.agg [.int .i64 7,.int .i64 (n:Int),.int .i64 0,.nils,.int .i64 0,.nils]],.str (X0 [32] [[116,105,109,101,111,117,116],[UInt8.ofNat (48+n)]])⟩)=true:=by kernel_rfl
theorem Zlr (b:List Nat) {k c:Nat} (hn:n<4):LnE (mkM b k n c).cells:=by
 have hg:=Zp0 b (k:=k) (c:=c) hn
 have h4:n∈ [0,1,2,3]:=by simp;omega
 unfold mkM at hg ⊢
 split
 · have hr : c % 2 ∈ [0, 1] := by have := Nat.mod_lt c (show 0 < 2 by omega); simp; omega
   have ha:agF c∈ [([[98],[97]]:List Bs),[[97],[98]]]:=by unfold agF;split<;>simp
   have:=Ys tOk follows fOk zOk (List.all_eq_true.1 (List.all_eq_true.1 (List.all_eq_true.1 ZsN n h4) _ hr) _ ha)
   refine ⟨_,?_,fun H=>by simp only [Mo.cells,Za,Zg];exact this H⟩
   have h5:∀ x,x∈ [[115,116,97,114,116],[UInt8.ofNat (48+n)],[UInt8.ofNat (48+c % 2)]]++agF c→x.length≤10:=fun x hx=>by
    rcases List.mem_append.1 hx with h|h
    · simp only [List.mem_cons, List.not_mem_nil, or_false] at h
      rcases h with rfl|rfl|rfl<;>simp
    · unfold agF at h;split at h<;>simp at h<;>rcases h with rfl|rfl<;>simp
   have h6:=ZaX 10 _ h5
   have h7:(agF c).length=2:=by unfold agF;split<;>rfl
   rw [List.length_append,h7] at h6
   simp only [List.length_cons,List.length_nil] at h6
   omega
 split
 · rename_i e1 e2
   rw [if_neg e1,if_pos e2] at hg
   have:=Zng (.inl ⟨rfl,rfl⟩) hn hg.1 hg.2
   simp only [Mo.cells,Zp,List.map_nil,Zg]
   exact this
 split
 · rename_i e1 e2 e3
   rw [if_neg e1,if_neg e2,if_pos e3] at hg
   have:=Zng (.inr ⟨rfl,rfl⟩) hn hg.1 hg.2
   simp only [Mo.cells,Zp,List.map_nil,Zg]
   exact this
 split
 · rename_i e1 e2 e3 e4
   rw [if_neg e1,if_neg e2,if_neg e3,if_pos e4] at hg
   have:=ZmB (.inl ⟨rfl,rfl⟩) hn (g:=c % 3) (by omega) hg.1 hg.2
   simp only [Mo.cells,Zp,List.map_nil,Zg]
   exact this
 split
 · rename_i e1 e2 e3 e4 e5
   rw [if_neg e1,if_neg e2,if_neg e3,if_neg e4,if_pos e5] at hg
   have:=ZmB (.inr ⟨rfl,rfl⟩) hn (g:=c % 3) (by omega) hg.1 hg.2
   simp only [Mo.cells,Zp,List.map_nil,Zg]
   exact this
 split
 · have ha : (if c % 2 = 0 then [97] else [98]) ∈ [([97] : Bs), [98]] := by split <;> simp
   have:=Ys tOk follows fOk zOk (List.all_eq_true.1 ZrK _ ha)
   refine ⟨_,?_,fun H=>by simp only [Mo.cells,Za,Zg];exact this H⟩
   split<;>simp [X0]
 · have := Ys tOk follows fOk zOk (List.all_eq_true.1 Ztl n h4)
   refine ⟨_,?_,fun H=>by simp only [Mo.cells,Zp,List.map_nil,Za,Zg];exact this H⟩
   simp [X0]
