/-
  Traces that bytes describe.
-/
import Derived.Test.YtcopccjkfbmpcaaGreatDoorRa
set_option maxHeartbeats 0
set_option maxRecDepth 100000
namespace Go.Vm
theorem Zmk (g:Int→Bs→Bs) {l:List Tm} {i:Nat} {x:Tm} (h:l[i]? = some x):xsL g (l.take (i+1))=xsL g (l.take i)++ [x.xs g]:=by
 rw [Zae,Zae,List.take_add_one,h]
 simp
theorem Znj:∀ {l:List Tm},grL l=true→∀ x,x∈l→x.gr=true
 | a :: r, h, x, hx => by
   rw [grL,Bool.and_eq_true] at h
   rcases List.mem_cons.1 hx with e|hx
   · rw [e];exact h.1
   · exact Znj h.2 x hx
def atsT:List Tm:=atN.flatMap fun x=>[.mk 2 x.1 x.2 true [],.mk 2 x.1 x.2 false []]
theorem Zo6 {nm:Bs} {s:Int} (h:(nm,s)∈atN) (b:Bool):Tm.mk 2 nm s b []∈atsT:=by
 unfold atsT
 rw [List.mem_flatMap]
 exact ⟨_,h,by cases b<;>simp⟩
end Go.Vm
namespace Go.Vm.Seat
variable {b:List Nat} {d:Nat} {t:Tm}
open Go.Proofs
theorem c69 (hb:∀ x,x∈b→x<256) (bb:Bool):∀ H,CallOk E0 Tryz.prog 69 [slV bb 1 (byC b),.bool true] H (.agg (ZkU b).cells) H:=by
 have h1:=Zky hb bb 3 0 1 (by omega) (by omega)
 have hg:=Zbt b 3 0
 have hok:=Zj3 _ hg.1
 have h2:=Zt1 hok (by omega)
 rw [(Zfp false (ZiL b)).1] at h2
 have h3:=ZtP (Zj3 _ (ZdG b)) (by have:=ZnR b;omega)
 rw [Zhh false (Znk b)] at h3
 have e:((grT b 3 0).1.nf false).1=ZkU b:=rfl
 rw [e] at h2
 clear hok hg hb e
 generalize ZkU b=U at h2 h3 ⊢
 generalize grT b 3 0=X at h1 h2
 generalize byC b=B at h1 ⊢
 obtain ⟨⟨k1,n1,s1,f1,l1⟩,x2⟩:=X
 obtain ⟨k2,n2,s2,f2,l2⟩:=U
 simp only [Tm.cells] at h1 h2 h3 ⊢
 refine Jw tOk fe69.ok (ZS _ _ _ _ _ _ _) ?_
 repeat' first|(apply qCl;rfl;rfl;rfl;rfl;first|exact h1 _|exact h2 _|exact h3 _)|refine Jt ?_|refine Jo ?_|fail
 all_goals exact ZS _ _ _ _ _ _ _
theorem ZvY:([0,1,2,3].all fun (d:Nat)=>XY E0 200 60 ⟨103,[.int .i64 (d:Int)],.str [UInt8.ofNat (48+d)]⟩)=true:=by kernel_rfl
theorem ZuN (hd:d<4):∀ H,CallOk E0 Tryz.prog 103 [.int .i64 (d:Int)] H (.str [UInt8.ofNat (48+d)]) H:=
 Ys tOk follows fOk zOk (List.all_eq_true.1 ZvY d (by simp;omega))
theorem Zsg:(atsT.all fun t=>[0,1,2,3].all fun (d:Nat)=>XY E0 300 100 ⟨102,[.agg t.cells,.str [35,UInt8.ofNat (48+d)]],.tup [.agg (t.xs (ZkV d)).cells,.bool true]⟩)=true:=by kernel_rfl
theorem Zmn {L:List (List PV)} {out:PV} {lv:List Nat} {nt:Nat} (hA:ApV true 4 L out lv nt) (k:Int) (nm:Bs) (s:Int) (x:Bool) (m:Nat) (H:Heap):frz3 m H (.tup [.agg [.int .i64 k,.str nm,.int .i64 s,out],.bool x])=some (.tup [.agg [.int .i64 k,.str nm,.int .i64 s,slV true 4 L],.bool x]):=by
 have h:=hA.frzC m H
 rw [WW]
 simp only [Wn,frz2,WH,h]
 rfl
theorem ZrX (hd:d<4) (ht:t.Ok):t.gr=true→∀ H,CallOk E0 Tryz.prog 102 [.agg t.cells,.str [35,UInt8.ofNat (48+d)]] H (.tup [.agg (t.xs (ZkV d)).cells,.bool true]) H:=by
 induction ht with
 | @mk k nm s b kz hk hs hn hl hok ih=>
 intro hgr
 by_cases hk3:k=3
 case neg=>
  obtain ⟨rfl,rfl,hm, -⟩:=Zhm hk3 hgr
  exact Ys tOk follows fOk zOk (List.all_eq_true.1 (List.all_eq_true.1 Zsg _ (Zo6 hm b)) d (by simp;omega))
 subst hk3
 obtain ⟨rfl,ha,hgl⟩:=Zah hgr
 have hgl:=Znj hgl
 have hlen:=ha.l
 have hne:=ha.ne
 have d0:=VC hne
 clear ha hgr
 have hcl:=Zb kz
 rw [Tm.xs,if_neg (by decide)]
 generalize ZkV d=g at ih ⊢
 generalize UInt8.ofNat (48+d)=D at ih ⊢
 simp only [Tm.cells]
 refine Jw tOk fe102.ok (Yd _ _ _ _ _ _ _ _) ?_ (by simp [Zx,frzG,Xq];rfl)
 repeat' first|refine Jk ?_|refine Ji ?_|refine Jt ?_|refine Jo ?_|fail
 refine Wp.while (fun m tm H => ∃ (i : Nat) (base : TM) (out : PV) (lv : List Nat) (nt : Nat), i + m = kz.length ∧ ApV true 4 (Za (xsL g (kz.take i))) out lv nt ∧
   tm=ovr base [(1,.str [35,D]),(2,.ptr 0 4 0 0),(4,.ptr 1 4 0 0),(5,.bool false),(7,.bool true),(8,out),(9,.int .i64 (i:Int))]∧H=⟨[.cells 4 [[.int .i64 3,.str nm,.int .i64 0,slV b 4 (Za kz)]],.cells 4 [zcT]],0,lv,nt⟩)
  (fun m tm H hI=>Wp.drop ?_) kz.length _ _ ⟨0,_,_,_,_,by omega,.nil _ _ rfl,Zf ⟨rfl,rfl,rfl,rfl,rfl,rfl,rfl,trivial⟩,rfl⟩
 obtain ⟨i,base,out,lv,nt,hi,hA,rfl,rfl⟩:=hI
 by_cases hlt:i<kz.length
 · obtain ⟨x, hx⟩ : ∃ x, kz[i]? = some x := ⟨kz[i], by simp⟩
   have hm:x∈kz:=List.mem_of_getElem? hx
   have hc:=ih x hm (hgl x hm)
   have hsx:=Zmk g hx
   obtain ⟨o1,lv1,nt1,hap1,hA1⟩:=QN hA (x.xs g) (by rw [ZaE,List.length_take];omega)
   obtain ⟨kt,rfl⟩:=WT hA1 fun e=>by
    have:=congrArg List.length e
    rw [Zb] at this
    simp at this
   rw [← hsx] at hA1 hap1
   have hlx:=Zq (i:Int) ((Za kz).length:Int)
   rw [decide_eq_true (by omega)] at hlx
   clear ih hgl
   generalize x.xs g=U at hc hap1
   obtain ⟨k',nm1,s',b',kz'⟩:=x
   obtain ⟨k2,nm2,s2,b2,kz2⟩:=U
   have hj:=Zk hx
   simp only [Tm.cells] at hc hap1
   repeat' first|refine Jc (hc _) ?_|refine Js ?_|refine JA ?_|refine Ji ?_|refine Jl ?_|refine Jx ?_|refine Jt ?_|refine Jo ?_|fail
   exact DropQ.go [(1,.str [35,D]),(2,.ptr 0 4 0 0),(4,.ptr 1 4 0 0),(5,.bool false),(7,.bool true),(8,.sl (.tok kt) 4 (Za (xsL g (kz.take (i+1))))),(9,.int .i64 ((i+1:Nat):Int))] ⟨rfl,rfl,rfl,rfl,rfl,rfl,Ze (Zd (n:=i+1) (by omega)),trivial⟩
    (by simp [under]) rfl (by simp [YJ,ZM,Zh,under,zcT]) (LoopI.go (m-1) (by omega) ⟨i+1,_,_,lv1,nt1,by omega,hA1,rfl,rfl⟩)
 · have e : i = kz.length := by omega
   subst e
   rw [List.take_length] at hA
   clear ih hgl
   have hlx:=Zq (kz.length:Int) ((Za kz).length:Int)
   rw [decide_eq_false (by omega)] at hlx
   have hfr:=fun m H=>Zmn hA 3 nm 0 true m H
   rcases QS hA with rfl|⟨kt,rfl⟩
   all_goals
    repeat' first|refine Ji ?_|refine Jl ?_|refine Jt ?_|refine Jo ?_|fail
    all_goals exact hfr _ _
theorem c68 (hd:d<4) (hg:t.gr=true):∀ H,CallOk E0 Tryz.prog 68 [.agg t.cells,.int .i64 (d:Int)] H (.agg (t.xs (ZkV d)).cells) H:=by
 have h1:=ZrX hd (Zj3 t hg) hg
 have h2:=ZuN hd
 have q1:=Zq (d:Int) 0
 have q2:=Xt (d:Int) 99
 rw [decide_eq_false (by omega)] at q1 q2
 generalize t.xs (ZkV d)=U at h1 ⊢
 obtain ⟨k1,n1,s1,f1,l1⟩:=t
 obtain ⟨k2,n2,s2,f2,l2⟩:=U
 simp only [Tm.cells] at h1 ⊢
 refine ZH (own:=fun d=>Nat.beq d 30009) tOk fe68.ok (by simp [Zx,frzG,Xq];rfl) (ZS _ _ _ _ _ _ _) ?_
 refine Wp.seq ?_
 repeat' first|refine Ji ?_|refine Jt ?_|refine Jo ?_|refine Jd (h1 _) ?_|refine Jd (h2 _) ?_|(apply dAl;rfl;rfl;rfl;rfl;exact IsV.ptrM;exact IsH.mkN)|(apply dT (ty:=4);rfl;rfl;rfl;rfl)|refine Jh ?_|(apply dWB tOk follows;rfl;kernel_rfl;rfl;exact IsH.mkN)|fail
 all_goals exact ZS _ _ _ _ _ _ _
theorem c39 (hb:∀ x,x∈b→x<256) (bb:Bool) (hd:d<4):∀ H,CallOk E0 Tryz.prog 39 [slV bb 1 (byC b),.int .i64 (d:Int)] H (.agg (VZ b d).cells) H:=by
 have h1:=c69 hb bb
 have h2:=c68 hd (ZdG b)
 have e:(ZkU b).xs (ZkV d)=VZ b d:=rfl
 rw [e] at h2
 clear e
 generalize VZ b d=U at h2 ⊢
 generalize ZkU b=t at h1 h2
 generalize byC b=B at h1 ⊢
 obtain ⟨k1,n1,s1,f1,l1⟩:=t
 obtain ⟨k2,n2,s2,f2,l2⟩:=U
 simp only [Tm.cells] at h1 h2 ⊢
 refine Jw tOk fe39.ok (ZS _ _ _ _ _ _ _) ?_
 repeat' first|refine Jc (h1 _) ?_|refine Jc (h2 _) ?_|refine Jo ?_|fail
 all_goals exact ZS _ _ _ _ _ _ _
end Go.Vm.Seat
namespace Go.Vm
variable {l:List (Bool×List Nat)} {es i nt:Nat} {x:Bool×List Nat} {L:List (List PV)} {out:PV} {lv:List Nat}
def dlC (l:List (Bool×List Nat)):List (List PV):=l.map fun x=>[slV x.1 1 (byC x.2)]
theorem Zfh (l:List (Bool×List Nat)):(dlC l).length=l.length:=by simp [dlC]
theorem ZhZ (h:l[i]? = some x):(dlC l)[i]? = some [slV x.1 1 (byC x.2)]:=by simp [dlC,h]
def XQ (b:List Nat) (n k:Nat):List Tm:=(List.range k).map fun j=>VZ (b.drop (2+j % 2)) n
theorem Zeb (b:List Nat) (n k:Nat):XQ b n (k+1)=XQ b n k++ [VZ (b.drop (2+k % 2)) n]:=by
 unfold XQ
 rw [List.range_succ,List.map_append]
 rfl
theorem W0 (b:List Nat) (n k:Nat):(XQ b n k).length=k:=by simp [XQ]
def agF (c:Nat):List Bs:=if c % 3=0 then [[98],[97]] else [[97],[98]]
def mkM (b:List Nat) (k n c:Nat):Mo:=
 if k=0 then ⟨1,(n:Int),((c % 2:Nat):Int),true,agF c,0,true,[]⟩ else
 if k=1 then ⟨2,(n:Int),0,true,[],0,true,[VZ (b.drop 2) n]⟩ else
 if k=2 then ⟨3,(n:Int),0,true,[],0,true,[VZ (b.drop 2) n]⟩ else
 if k=3 then ⟨4,(n:Int),0,true,[],((c % 3:Nat):Int),true,XQ b n (c % 4)⟩ else
 if k=4 then ⟨5,(n:Int),0,true,[],((c % 3:Nat):Int),true,XQ b n (c % 4)⟩ else
 if k=5 then ⟨6,0,0,true,[if c % 2=0 then [97] else [98]],0,true,[]⟩ else
 ⟨7,(n:Int),0,true,[],0,true,[]⟩
def mkB (b:List Nat):Mo:=mkM b (b.getD 0 0 % 7) (b.getD 1 0 % 4) (b.getD 2 0)
def Zew (o:List Mo) (b:List Nat):List Mo:=if (Zz (o++ [mkB (b++ [0,0,0])])).2=0 then o++ [mkB (b++ [0,0,0])] else o
def Zbg (l:List (Bool×List Nat)):List Mo:=l.foldl (fun o x=>Zew o x.2) []
theorem Zhr (h:l[i]? = some x):Zbg (l.take (i+1))=Zew (Zbg (l.take i)) x.2:=by
 unfold Zbg
 rw [List.take_add_one,h,List.foldl_append]
 rfl
theorem ZmW (b:List Nat) (n:Nat):(VZ b n).Ok∧(VZ b n).size≤90000:=⟨Zja b n,by have:=ZmP b n;omega⟩
theorem ZqA (b:List Nat) {k n c:Nat} (hn:n<4):(mkM b k n c).Sm:=by
 have h1:(Lit.int .i64 (n:Int)).wf=true:=by
  have:n=0∨n=1∨n=2∨n=3:=by omega
  rcases this with rfl|rfl|rfl|rfl<;>decide
 have h2:(Lit.int .i64 ((c % 2:Nat):Int)).wf=true:=by
  have:c % 2=0∨c % 2=1:=by omega
  rcases this with h|h<;>rw [h]<;>decide
 have h3:(Lit.int .i64 ((c % 3:Nat):Int)).wf=true:=by
  have:c % 3=0∨c % 3=1∨c % 3=2:=by omega
  rcases this with h|h|h<;>rw [h]<;>decide
 have hag:(agF c).length≤2∧∀ s,s∈agF c→s.length≤1:=by
  unfold agF
  split
  · decide
  · decide
 have h4:c % 4<4:=Nat.mod_lt _ (by omega)
 have hml:∀ t,t∈XQ b n (c % 4)→t.Ok∧t.size≤90000:=fun t ht=>by
  obtain ⟨j, -,rfl⟩:=List.mem_map.1 ht
  exact ZmW _ _
 have hlen:=W0 b n (c % 4)
 have hone:∀ t,t∈ [VZ (b.drop 2) n]→t.Ok∧t.size≤90000:=fun t ht=>by
  rw [List.mem_singleton.1 ht];exact ZmW _ _
 have w0:(Lit.int .i64 0).wf=true:=by decide
 have w1:(Lit.int .i64 1).wf=true:=by decide
 have w2:(Lit.int .i64 2).wf=true:=by decide
 have w3:(Lit.int .i64 3).wf=true:=by decide
 have w4:(Lit.int .i64 4).wf=true:=by decide
 have w5:(Lit.int .i64 5).wf=true:=by decide
 have w6:(Lit.int .i64 6).wf=true:=by decide
 have w7:(Lit.int .i64 7).wf=true:=by decide
 unfold mkM
 have hM:1000≤maxLen:=by decide
 split
 · exact ⟨⟨w1,h1,h2,w0,by simp only;omega,fun s hs=>by have:=hag.2 s hs;omega,Nat.zero_le _,fun t ht=>by cases ht⟩,by simp only;omega,Nat.zero_le _,fun t ht=>by cases ht⟩
 split
 · exact ⟨⟨w2,h1,w0,w0,Nat.zero_le _,fun s hs=>(by cases hs),by simp only [List.length_cons,List.length_nil];omega,fun t ht=>(hone t ht).1⟩,Nat.zero_le _,by simp only [List.length_cons,List.length_nil];omega,hone⟩
 split
 · exact ⟨⟨w3,h1,w0,w0,Nat.zero_le _,fun s hs=>(by cases hs),by simp only [List.length_cons,List.length_nil];omega,fun t ht=>(hone t ht).1⟩,Nat.zero_le _,by simp only [List.length_cons,List.length_nil];omega,hone⟩
 split
 · exact ⟨⟨w4,h1,w0,h3,Nat.zero_le _,fun s hs=>(by cases hs),by simp only;omega,fun t ht=>(hml t ht).1⟩,Nat.zero_le _,by simp only;omega,hml⟩
 split
 · exact ⟨⟨w5,h1,w0,h3,Nat.zero_le _,fun s hs=>(by cases hs),by simp only;omega,fun t ht=>(hml t ht).1⟩,Nat.zero_le _,by simp only;omega,hml⟩
 split
 · refine ⟨⟨w6, w0, w0, w0, by simp only [List.length_cons, List.length_nil]; omega, fun s hs => ?_, Nat.zero_le _, fun t ht => (by cases ht)⟩, by simp only [List.length_cons, List.length_nil]; omega, Nat.zero_le _, fun t ht => (by cases ht)⟩
   rw [List.mem_singleton.1 hs]
   split<;>(simp only [List.length_cons,List.length_nil];omega)
 · exact ⟨⟨w7,h1,w0,w0,Nat.zero_le _,fun s hs=>(by cases hs),Nat.zero_le _,fun t ht=>(by cases ht)⟩,Nat.zero_le _,Nat.zero_le _,fun t ht=>(by cases ht)⟩
theorem Znb (b:List Nat):(mkB b).Sm:=ZqA b (Nat.mod_lt _ (by omega))
theorem Zph {o:List Mo} (h:∀ m,m∈o→m.Sm) (b:List Nat):(∀ m,m∈Zew o b→m.Sm)∧(Zew o b).length≤o.length+1:=by
 unfold Zew
 split
 · refine ⟨fun m hm => ?_, by simp⟩
   rcases List.mem_append.1 hm with hm|hm
   · exact h m hm
   · rw [List.mem_singleton.1 hm];exact Znb _
 · exact ⟨h,by omega⟩
theorem Zb7:∀ (l:List (Bool×List Nat)) (o:List Mo),(∀ m,m∈o→m.Sm)→(∀ m,m∈l.foldl (fun o x=>Zew o x.2) o→m.Sm)∧(l.foldl (fun o x=>Zew o x.2) o).length≤o.length+l.length
 | [],o,h=>⟨h,by simp⟩
 | x :: r, o, h => by
   have h1:=Zph h x.2
   have h2:=Zb7 r _ h1.1
   simp only [List.foldl_cons,List.length_cons]
   exact ⟨h2.1,by omega⟩
theorem Zkj (x y:PV) (h:Z3 y=none):Z3 x=none∨Z3 x≠Z3 y:=by
 rw [h]
 cases Z3 x with
 |none=>exact .inl rfl
 |some k=>exact .inr (by simp)
theorem Zk2 (tl:Tail) (es:Nat) (el:List (List PV)):frzG (.sl tl es el)=some (slV false es el):=by
 cases el with
 |nil=>rw [ZC];rfl
 |cons c r=>rw [Zm];rfl
theorem Zgs (b:List Nat):(byC b).all (fun c=>c.all ZX)=true:=by
 rw [byC,List.all_map,List.all_eq_true]
 intro x _
 rfl
theorem Zoh (a b:List Nat):byC (a++b)=byC a++byC b:=by simp [byC]
theorem ApV.more {b:Bool} {lv':List Nat} {nt':Nat} (h:ApV b es L out lv nt) (h1:∀ k,k∈lv→k∈lv') (h2:nt≤nt'):ApV b es L out lv' nt':=by
 cases h with
 |nil _ _ hb=>exact .nil _ _ hb
 |full _ _ _ hb hB=>exact .full _ _ _ hb hB
 |tok _ k _ _ hL hk hn hB=>exact .tok _ k _ _ hL (h1 k hk) (by omega) hB
theorem Zqc (h:ApV true es L out lv nt):ElV es out L:=by
 cases h with
 |nil=>exact .nils _
 |full=>exact .sl _ _ _
 |tok=>exact .sl _ _ _
end Go.Vm
namespace Go.Vm.Seat
variable {out:PV} {lv:List Nat} {nt:Nat}
open Go.Proofs
theorem ZbP:ApT E0 40 40 1 1:=⟨_,_,_,_,_,rfl,rfl,rfl,rfl,rfl,rfl,rfl,by decide,rfl⟩
theorem Zuy (xb : Bool) {x : List Nat} (hx : x.length ≤ 1000) {M : List (List PV)} (hA : ApV true 6 M out lv nt) :
  ∃ o1 lv1 nt1 k lv2 nt2,(∀ bx ro,ZA E0 40 40 (.sl .full 1 []) (slV xb 1 (byC x)) ⟨bx,ro,lv,nt⟩=some (o1,⟨bx,ro,lv1,nt1⟩))∧
   (∀ bx ro,ZA E0 40 40 o1 (.sl .full 1 [[.int .u8 0],[.int .u8 0],[.int .u8 0]]) ⟨bx,ro,lv1,nt1⟩=some (.sl (.tok k) 1 (byC (x++ [0,0,0])),⟨bx,ro,lv2,nt2⟩))∧ApV true 6 M out lv2 nt2:=by
 have hz:ElV 1 (.sl .full 1 [[.int .u8 0],[.int .u8 0],[.int .u8 0]]) (byC [0,0,0]):= .sl _ _ _
 have hT:Za8 E0 40=5:=by kernel_rfl
 rw [Zoh]
 by_cases hn:x= []
 · subst hn
   refine ⟨.sl .full 1 [],lv,nt,nt,nt::lv,nt+1,fun bx ro=>?_,fun bx ro=>?_,hA.more (fun k h=>List.mem_cons_of_mem _ h) (by omega)⟩
   · simp only [ZA,ZQ ZbP (ElV.slV xb 1 (byC [])) (Zgs []) (s:= .sl .full 1 []) rfl rfl];rfl
   · simp only [ZA, ZQ ZbP hz (Zgs _) (s := .sl .full 1 []) rfl rfl]
     simp only [byC,List.map_cons,List.map_nil,Yu,hT,XC,List.nil_append]
     rfl
 · obtain ⟨a, r, rfl⟩ := List.exists_cons_of_ne_nil hn
   refine ⟨.sl (.tok nt) 1 (byC (a::r)),nt::lv,nt+1,nt+1,(nt+1)::lv,nt+2,fun bx ro=>?_,fun bx ro=>?_,hA.more (fun k h=>List.mem_cons_of_mem _ h) (by omega)⟩
   · simp only [ZA, ZQ ZbP (ElV.slV xb 1 (byC (a :: r))) (Zgs _) (s := .sl .full 1 []) rfl rfl]
     simp only [byC,List.map_cons,Yu,hT,XC,List.nil_append]
     rw [if_pos (by rw [ZD (by simp only [List.length_nil,List.length_cons,List.length_map] at hx ⊢;omega) (by decide)];rfl)]
   · simp only [ZA, ZQ ZbP hz (Zgs _) (s := .sl (.tok nt) 1 (byC (a :: r))) rfl rfl]
     simp only [byC,List.map_cons,List.map_nil,hT,XC]
     rw [if_pos (by rw [ZD (by simp only [List.length_nil,List.length_cons,List.length_map] at hx ⊢;omega) (by decide)];rfl)]
     simp [XK]
theorem Zak {L : List Mo} (hA : ApV true 6 (moC L) out lv nt) (hL : L.length ≤ 500) (m : Mo) :
  ∃ o3 lv3 nt3 o4 lv4 nt4 o5 lv5 nt5,(∀ bx ro,ZA E0 25 25 (.sl .full 6 []) out ⟨bx,ro,lv,nt⟩=some (o3,⟨bx,ro,lv3,nt3⟩))∧
   (∀ bx ro,ZA E0 25 25 o3 (.sl .full 6 [m.cells]) ⟨bx,ro,lv3,nt3⟩=some (o4,⟨bx,ro,lv4,nt4⟩))∧Zx [o4]=some [slV false 6 (moC (L++ [m]))]∧
   (∀ bx ro,ZA E0 25 25 out (.sl .full 6 [m.cells]) ⟨bx,ro,lv4,nt4⟩=some (o5,⟨bx,ro,lv5,nt5⟩))∧ApV true 6 (moC (L++ [m])) o5 lv5 nt5∧ApV true 6 (moC L) out lv4 nt4:=by
 have hlen:=YH L
 have hm1:[m.cells].all (fun c=>c.all ZX)=true:=ZiI [m]
 have hm2:noB [m.cells]=true:=ZeW [m]
 obtain ⟨o3,lv3,nt3,hap3,hA3,hk3⟩:=(ApV.full (es:=6) [] lv nt (rfl:false=false) rfl).app Zgp (Zqc hA) (ZiI L) (ZD (by simp only [List.length_nil];omega) (by decide)) (ZeW L)
 rw [List.nil_append] at hA3
 obtain ⟨hB3,ht3⟩:=hk3 _ _ _ _ hA (Zkj _ _ rfl)
 obtain ⟨o4,lv4,nt4,hap4,hA4,hk4⟩:=hA3.app Zgp (.sl .full 6 [m.cells]) hm1 (ZD (by simp only [List.length_cons,List.length_nil];omega) (by decide)) hm2
 obtain ⟨hB4,ht4⟩:=hk4 _ _ _ _ hB3 ht3
 obtain ⟨o5,lv5,nt5,hap5,hA5, -⟩:=hB4.app Zgp (.sl .full 6 [m.cells]) hm1 (ZD (by simp only [List.length_cons,List.length_nil];omega) (by decide)) hm2
 have e:moC L++ [m.cells]=moC (L++ [m]):=(ZhE L [m]).symm
 rw [e] at hA4 hA5
 exact ⟨o3,lv3,nt3,o4,lv4,nt4,o5,lv5,nt5,hap3,hap4,by simp only [Zx,hA4.frzG],hap5,hA5,hB4⟩
theorem ZfT (k:Tail) (B:List (List PV)) (q:Nat) (hq:q≤B.length):Yz E0 40 (.sl k 1 B) (some (.int .i64 (q:Int))) none none=some (.sl k 1 (B.drop q)):=by
 have e1:E0.T 40=some ⟨.slice 5,1,24,.nils⟩:=by kernel_rfl
 have e2:E0.T 5=some ⟨.int .u8,1,1,.int .u8 0⟩:=by kernel_rfl
 have e3:nat? (.int .i64 (q:Int))=some q:=by simp [nat?]
 simp only [Yz,e1,e2,Za6,X4,e3,Zda,if_pos,hq,List.take_length]
theorem ZiX (k:Tail) (B:List (List PV)) (q:Nat) {cs:List PV} (h:B[q]? = some cs):Zv E0 40 (.sl k 1 B) (.int .i64 (q:Int))=some (.fptr cs 0):=by
 have e1:E0.T 40=some ⟨.slice 5,1,24,.nils⟩:=by kernel_rfl
 have e2:E0.T 5=some ⟨.int .u8,1,1,.int .u8 0⟩:=by kernel_rfl
 have e3:nat? (.int .i64 (q:Int))=some q:=by simp [nat?]
 simp only [Zv,e1,e2,e3,Zo,h,if_pos]
theorem Ziz (k m:Nat) (hm:m≠0):Xo E0 .rem 5 (.int .u8 (k:Int)) (.int .u8 (m:Int))=some (.int .u8 ((k % m:Nat):Int)):=by
 show (if (m:Int)=0 then none else some (PV.int .u8 ((k:Int).tmod (m:Int))))=_
 rw [if_neg (by omega)]
 rfl
theorem Zup (a b:Nat):Xo E0 .eql 5 (.int .u8 (a:Int)) (.int .u8 (b:Int))=some (.bool (decide (a=b))):=by
 show some (PV.bool ((a:Int)==(b:Int)))=_
 have e:((a:Int)==(b:Int))=decide (a=b):=by
  rw [Bool.eq_iff_iff,beq_iff_eq,decide_eq_true_eq]
  omega
 rw [e]
structure ByF (k2:Tail) (B:List (List PV)) (b0 b1 c n K:Nat):Prop where
 i0:Zv E0 40 (.sl k2 1 B) (.int .i64 0)=some (.fptr [.int .u8 (b0:Int)] 0)
 i1:Zv E0 40 (.sl k2 1 B) (.int .i64 1)=some (.fptr [.int .u8 (b1:Int)] 0)
 i2:Zv E0 40 (.sl k2 1 B) (.int .i64 2)=some (.fptr [.int .u8 (c:Int)] 0)
 r1:Xo E0 .rem 5 (.int .u8 (b1:Int)) (.int .u8 4)=some (.int .u8 (n:Int))
 r0:Xo E0 .rem 5 (.int .u8 (b0:Int)) (.int .u8 7)=some (.int .u8 (K:Int))
 v1:QJ E0 5 3 (.int .u8 (n:Int))=some (.int .i64 (n:Int))
 v0:QJ E0 5 3 (.int .u8 (K:Int))=some (.int .i64 (K:Int))
 c2:Xo E0 .rem 5 (.int .u8 (c:Int)) (.int .u8 2)=some (.int .u8 ((c % 2:Nat):Int))
 c3:Xo E0 .rem 5 (.int .u8 (c:Int)) (.int .u8 3)=some (.int .u8 ((c % 3:Nat):Int))
 c4:Xo E0 .rem 5 (.int .u8 (c:Int)) (.int .u8 4)=some (.int .u8 ((c % 4:Nat):Int))
 w2:QJ E0 5 3 (.int .u8 ((c % 2:Nat):Int))=some (.int .i64 ((c % 2:Nat):Int))
 w3:QJ E0 5 3 (.int .u8 ((c % 3:Nat):Int))=some (.int .i64 ((c % 3:Nat):Int))
 w4:QJ E0 5 3 (.int .u8 ((c % 4:Nat):Int))=some (.int .i64 ((c % 4:Nat):Int))
 e3:Xo E0 .eql 5 (.int .u8 ((c % 3:Nat):Int)) (.int .u8 0)=some (.bool (decide (c % 3=0)))
 s2:Yz E0 40 (.sl k2 1 B) (some (.int .i64 2)) none none=some (.sl k2 1 (B.drop 2))
 s3:Yz E0 40 (.sl k2 1 B) (some (.int .i64 3)) none none=some (.sl k2 1 (B.drop 3))
 l3:3≤B.length
theorem Zq3 {b:List Nat} (hl:3≤b.length) (k2:Tail):ByF k2 (byC b) (b.getD 0 0) (b.getD 1 0) (b.getD 2 0) (b.getD 1 0 % 4) (b.getD 0 0 % 7) where
 i0:=ZiX k2 _ 0 (Zas (by omega))
 i1:=ZiX k2 _ 1 (Zas (by omega))
 i2:=ZiX k2 _ 2 (Zas (by omega))
 r1:=Ziz _ 4 (by omega)
 r0:=Ziz _ 7 (by omega)
 v1:=Zeq _ (by omega)
 v0:=Zeq _ (by omega)
 c2:=Ziz _ 2 (by omega)
 c3:=Ziz _ 3 (by omega)
 c4:=Ziz _ 4 (by omega)
 w2:=Zeq _ (by omega)
 w3:=Zeq _ (by omega)
 w4:=Zeq _ (by omega)
 e3:=Zup _ 0
 s2:=ZfT k2 _ 2 (by rw [Ug];omega)
 s3:=ZfT k2 _ 3 (by rw [Ug];omega)
 l3:=by rw [Ug];exact hl
