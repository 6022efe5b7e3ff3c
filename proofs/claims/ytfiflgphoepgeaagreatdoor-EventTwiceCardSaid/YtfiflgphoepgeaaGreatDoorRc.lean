/-
  Traces that bytes describe.
-/
import Derived.Test.YtfiflgphoepgeaaGreatDoorRa
set_option maxHeartbeats 0
set_option maxRecDepth 100000
namespace Go.Vm
theorem Zjk (g:Int→Bs→Bs) {l:List Tm} {i:Nat} {x:Tm} (h:l[i]? = some x):xsL g (l.take (i+1))=xsL g (l.take i)++ [x.xs g]:=by
 rw [QC,QC,List.take_add_one,h]
 simp
theorem Zk9:∀ {l:List Tm},grL l=true→∀ x,x∈l→x.gr=true
 | a :: r, h, x, hx => by
   rw [grL,Bool.and_eq_true] at h
   rcases List.mem_cons.1 hx with e|hx
   · rw [e];exact h.1
   · exact Zk9 h.2 x hx
def atsT:List Tm:=atN.flatMap fun x=>[.mk 2 x.1 x.2 true [],.mk 2 x.1 x.2 false []]
theorem ZmW {nm:Bs} {s:Int} (h:(nm,s)∈atN) (b:Bool):Tm.mk 2 nm s b []∈atsT:=by
 unfold atsT
 rw [List.mem_flatMap]
 exact ⟨_,h,by cases b<;>simp⟩
end Go.Vm
namespace Go.Vm.Seat
variable {b:List Nat} {d:Nat} {t:Tm}
open Go.Proofs
theorem c37 (hb:∀ x,x∈b→x<256) (bb:Bool):∀ H,CallOk E0 Tryz.prog 37 [slV bb 1 (byC b),.bool true] H (.agg (Zi5 b).cells) H:=by
 have h1:=ZiM hb bb 3 0 1 (by omega) (by omega)
 have hg:=ZaX b 3 0
 have hok:=Zi1 _ hg.1
 have h2:=c66 hok (by omega)
 rw [(Zba false (ZgK b)).1] at h2
 have h3:=c67 (Zi1 _ (Zc1 b)) (by have:=Zk7 b;omega)
 rw [ZaM false (Zlh b)] at h3
 have e:((grT b 3 0).1.nf false).1=Zi5 b:=rfl
 rw [e] at h2
 clear hok hg hb e
 generalize Zi5 b=U at h2 h3 ⊢
 generalize grT b 3 0=X at h1 h2
 generalize byC b=B at h1 ⊢
 obtain ⟨⟨k1,n1,s1,f1,l1⟩,x2⟩:=X
 obtain ⟨k2,n2,s2,f2,l2⟩:=U
 simp only [Tm.cells] at h1 h2 h3 ⊢
 refine Jw tOk fe37.ok (ZN _ _ _ _ _ _ _) ?_
 repeat' first|refine Jk ?_|(apply qCl;rfl;rfl;rfl;rfl;first|exact h1 _|exact h2 _|exact h3 _)|refine Ji ?_|refine JJ ?_|refine Jx ?_|refine Jt ?_|refine Jb ?_ ?_|refine Jo ?_|intro hb
 all_goals exact ZN _ _ _ _ _ _ _
theorem ZtM:([0,1,2,3].all fun (d:Nat)=>Vk E0 200 60 ⟨64,[.int .i64 (d:Int)],.str [UInt8.ofNat (48+d)]⟩)=true:=by kernel_rfl
theorem c64 (hd:d<4):∀ H,CallOk E0 Tryz.prog 64 [.int .i64 (d:Int)] H (.str [UInt8.ofNat (48+d)]) H:=
 XK tOk follows fOk zOk (List.all_eq_true.1 ZtM d (by simp;omega))
theorem Zqm:(atsT.all fun t=>[0,1,2,3].all fun (d:Nat)=>Vk E0 300 100 ⟨63,[.agg t.cells,.str [35,UInt8.ofNat (48+d)]],.tup [.agg (t.xs (Zi8 d)).cells,.bool true]⟩)=true:=by kernel_rfl
theorem Zjo {L:List (List PV)} {out:PV} {lv:List Nat} {nt:Nat} (hA:ApV true 4 L out lv nt) (k:Int) (nm:Bs) (s:Int) (x:Bool) (m:Nat) (H:Heap):frz3 m H (.tup [.agg [.int .i64 k,.str nm,.int .i64 s,out],.bool x])=some (.tup [.agg [.int .i64 k,.str nm,.int .i64 s,slV true 4 L],.bool x]):=by
 have h:=hA.frzC m H
 rw [Xx]
 simp only [Vq,frz2,Wf,h]
 rfl
theorem ZpI (hd:d<4) (ht:t.Ok):t.gr=true→∀ H,CallOk E0 Tryz.prog 63 [.agg t.cells,.str [35,UInt8.ofNat (48+d)]] H (.tup [.agg (t.xs (Zi8 d)).cells,.bool true]) H:=by
 induction ht with
 | @mk k nm s b kz hk hs hn hl hok ih=>
 intro hgr
 by_cases hk3:k=3
 case neg=>
  obtain ⟨rfl,rfl,hm, -⟩:=ZfR hk3 hgr
  exact XK tOk follows fOk zOk (List.all_eq_true.1 (List.all_eq_true.1 Zqm _ (ZmW hm b)) d (by simp;omega))
 subst hk3
 obtain ⟨rfl,ha,hgl⟩:=QR hgr
 have hgl:=Zk9 hgl
 have hlen:=ha.l
 have hne:=ha.ne
 have d0:=Wv hne
 clear ha hgr
 have hcl:=Zb kz
 rw [Tm.xs,if_neg (by decide)]
 generalize Zi8 d=g at ih ⊢
 generalize UInt8.ofNat (48+d)=D at ih ⊢
 simp only [Tm.cells]
 refine Jw tOk fe63.ok (Z5 _ _ _ _ _ _ _ _) ?_ (by simp [ZM,frzG,Xr];rfl)
 repeat' first|refine Jk ?_|refine Js ?_|refine JA ?_|refine Ji ?_|refine JJ ?_|refine Jl ?_|refine Jx ?_|refine Jt ?_|refine Jb ?_ ?_|refine Jo ?_|intro hb
 refine Wp.while (fun m tm H => ∃ (i : Nat) (base : TM) (out : PV) (lv : List Nat) (nt : Nat), i + m = kz.length ∧ ApV true 4 (Za (xsL g (kz.take i))) out lv nt ∧
   tm=ovr base [(1,.str [35,D]),(2,.ptr 0 4 0 0),(4,.ptr 1 4 0 0),(5,.bool false),(7,.bool true),(8,out),(9,.int .i64 (i:Int))]∧H=⟨[.cells 4 [[.int .i64 3,.str nm,.int .i64 0,slV b 4 (Za kz)]],.cells 4 [zcT]],0,lv,nt⟩)
  (fun m tm H hI=>Wp.drop ?_) kz.length _ _ ⟨0,_,_,_,_,by omega,.nil _ _ rfl,Zf ⟨rfl,rfl,rfl,rfl,rfl,rfl,rfl,trivial⟩,rfl⟩
 obtain ⟨i,base,out,lv,nt,hi,hA,rfl,rfl⟩:=hI
 by_cases hlt:i<kz.length
 · obtain ⟨x, hx⟩ : ∃ x, kz[i]? = some x := ⟨kz[i], by simp⟩
   have hm:x∈kz:=List.mem_of_getElem? hx
   have hc:=ih x hm (hgl x hm)
   have hsx:=Zjk g hx
   obtain ⟨o1,lv1,nt1,hap1,hA1⟩:=QS hA (x.xs g) (by rw [Q4,List.length_take];omega)
   obtain ⟨kt,rfl⟩:=XO hA1 fun e=>by
    have:=congrArg List.length e
    rw [Zb] at this
    simp at this
   rw [← hsx] at hA1 hap1
   have hlx:=Zt (i:Int) ((Za kz).length:Int)
   rw [decide_eq_true (by omega)] at hlx
   clear ih hgl
   generalize x.xs g=U at hc hap1
   obtain ⟨k',nm1,s',b',kz'⟩:=x
   obtain ⟨k2,nm2,s2,b2,kz2⟩:=U
   have hj:=Zk hx
   simp only [Tm.cells] at hc hap1
   repeat' first|refine Jk ?_|refine Jc (hc _) ?_|refine Js ?_|refine JA ?_|refine Ji ?_|refine JJ ?_|refine Jl ?_|refine Jx ?_|refine Jt ?_|refine Jb ?_ ?_|refine Jo ?_|intro hb
   exact DropQ.go [(1,.str [35,D]),(2,.ptr 0 4 0 0),(4,.ptr 1 4 0 0),(5,.bool false),(7,.bool true),(8,.sl (.tok kt) 4 (Za (xsL g (kz.take (i+1))))),(9,.int .i64 ((i+1:Nat):Int))] ⟨rfl,rfl,rfl,rfl,rfl,rfl,Zd (Zc (n:=i+1) (by omega)),trivial⟩
    (by simp [under]) rfl (by simp [Yq,ZL,Zg,under,zcT]) (LoopI.go (m-1) (by omega) ⟨i+1,_,_,lv1,nt1,by omega,hA1,rfl,rfl⟩)
 · have e : i = kz.length := by omega
   subst e
   rw [List.take_length] at hA
   clear ih hgl
   have hlx:=Zt (kz.length:Int) ((Za kz).length:Int)
   rw [decide_eq_false (by omega)] at hlx
   have hfr:=fun m H=>Zjo hA 3 nm 0 true m H
   rcases Wi hA with rfl|⟨kt,rfl⟩
   all_goals
    repeat' first|refine Jk ?_|refine Js ?_|refine JA ?_|refine Ji ?_|refine JJ ?_|refine Jl ?_|refine Jx ?_|refine Jt ?_|refine Jb ?_ ?_|refine Jo ?_|intro hb
    all_goals exact hfr _ _
theorem c36 (hd:d<4) (hg:t.gr=true):∀ H,CallOk E0 Tryz.prog 36 [.agg t.cells,.int .i64 (d:Int)] H (.agg (t.xs (Zi8 d)).cells) H:=by
 have h1:=ZpI hd (Zi1 t hg) hg
 have h2:=c64 hd
 have q1:=Zt (d:Int) 0
 have q2:=Xw (d:Int) 99
 rw [decide_eq_false (by omega)] at q1 q2
 generalize t.xs (Zi8 d)=U at h1 ⊢
 obtain ⟨k1,n1,s1,f1,l1⟩:=t
 obtain ⟨k2,n2,s2,f2,l2⟩:=U
 simp only [Tm.cells] at h1 ⊢
 refine X3 (own:=fun d=>Nat.beq d 30009) tOk fe36.ok (by simp [ZM,frzG,Xr];rfl) (ZN _ _ _ _ _ _ _) ?_
 refine Wp.seq ?_
 repeat' first|refine Jk ?_|refine Jc (h1 _) ?_|refine Jc (h2 _) ?_|refine Ji ?_|refine Jt ?_|refine Jb ?_ ?_|refine Jo ?_|(apply dK;rfl;rfl;rfl)|refine Jd (h1 _) ?_|refine Jd (h2 _) ?_|(apply dAl;rfl;rfl;rfl;rfl;exact IsV.ptrM;exact IsH.mkN)|refine JD ?_|(apply dT (ty:=4);rfl;rfl;rfl;rfl)|(apply dF (ty:=4);rfl;rfl;rfl;rfl)|(apply dB (ty:=4);rfl;rfl;rfl;rfl)|refine Jh ?_|(apply dWS tOk follows;rfl;kernel_rfl;rfl)|(apply dWB tOk follows;rfl;kernel_rfl;rfl;exact IsH.mkN)|intro hb
 all_goals exact ZN _ _ _ _ _ _ _
theorem c17 (hb:∀ x,x∈b→x<256) (bb:Bool) (hd:d<4):∀ H,CallOk E0 Tryz.prog 17 [slV bb 1 (byC b),.int .i64 (d:Int)] H (.agg (Vh b d).cells) H:=by
 have h1:=c37 hb bb
 have h2:=c36 hd (Zc1 b)
 have e:(Zi5 b).xs (Zi8 d)=Vh b d:=rfl
 rw [e] at h2
 clear e
 generalize Vh b d=U at h2 ⊢
 generalize Zi5 b=t at h1 h2
 generalize byC b=B at h1 ⊢
 obtain ⟨k1,n1,s1,f1,l1⟩:=t
 obtain ⟨k2,n2,s2,f2,l2⟩:=U
 simp only [Tm.cells] at h1 h2 ⊢
 refine Jw tOk fe17.ok (ZN _ _ _ _ _ _ _) ?_
 repeat' first|refine Jc (h1 _) ?_|refine Jc (h2 _) ?_|refine Jo ?_|intro hb
 all_goals exact ZN _ _ _ _ _ _ _
end Go.Vm.Seat
namespace Go.Vm
variable {l:List (Bool×List Nat)} {es i nt:Nat} {x:Bool×List Nat} {L:List (List PV)} {out:PV} {lv:List Nat}
def dlC (l:List (Bool×List Nat)):List (List PV):=l.map fun x=>[slV x.1 1 (byC x.2)]
theorem ZdS (l:List (Bool×List Nat)):(dlC l).length=l.length:=by simp [dlC]
theorem ZhS (h:l[i]? = some x):(dlC l)[i]? = some [slV x.1 1 (byC x.2)]:=by simp [dlC,h]
def XI (b:List Nat) (n k:Nat):List Tm:=(List.range k).map fun j=>Vh (b.drop (2+j % 2)) n
theorem ZcO (b:List Nat) (n k:Nat):XI b n (k+1)=XI b n k++ [Vh (b.drop (2+k % 2)) n]:=by
 unfold XI
 rw [List.range_succ,List.map_append]
 rfl
theorem W5 (b:List Nat) (n k:Nat):(XI b n k).length=k:=by simp [XI]
def agF (c:Nat):List Bs:=if c % 3=0 then [[98],[97]] else [[97],[98]]
def mkM (b:List Nat) (k n c:Nat):Mo:=
 if k=0 then ⟨1,(n:Int),((c % 2:Nat):Int),true,agF c,0,true,[]⟩ else
 if k=1 then ⟨2,(n:Int),0,true,[],0,true,[Vh (b.drop 2) n]⟩ else
 if k=2 then ⟨3,(n:Int),0,true,[],0,true,[Vh (b.drop 2) n]⟩ else
 if k=3 then ⟨4,(n:Int),0,true,[],((c % 3:Nat):Int),true,XI b n (c % 4)⟩ else
 if k=4 then ⟨5,(n:Int),0,true,[],((c % 3:Nat):Int),true,XI b n (c % 4)⟩ else
 if k=5 then ⟨6,0,0,true,[if c % 2=0 then [97] else [98]],0,true,[]⟩ else
 ⟨7,(n:Int),0,true,[],0,true,[]⟩
def mkB (b:List Nat):Mo:=mkM b (b.getD 0 0 % 7) (b.getD 1 0 % 4) (b.getD 2 0)
def Zfm (o:List Mo) (b:List Nat):List Mo:=if (ZQ (o++ [mkB (b++ [0,0,0])])).2=0 then o++ [mkB (b++ [0,0,0])] else o
def ZbA (l:List (Bool×List Nat)):List Mo:=l.foldl (fun o x=>Zfm o x.2) []
theorem Zf8 (h:l[i]? = some x):ZbA (l.take (i+1))=Zfm (ZbA (l.take i)) x.2:=by
 unfold ZbA
 rw [List.take_add_one,h,List.foldl_append]
 rfl
theorem ZkT (b:List Nat) (n:Nat):(Vh b n).Ok∧(Vh b n).size≤90000:=⟨Zlk b n,by have:=ZnF b n;omega⟩
theorem ZoC (b:List Nat) {k n c:Nat} (hn:n<4):(mkM b k n c).Sm:=by
 have h1:(Lit.int .i64 (n:Int)).wf=true:=by
  have:n=0∨n=1∨n=2∨n=3:=by omega
  rcases this with rfl|rfl|rfl|rfl<;>decide
 have h2:(Lit.int .i64 ((c % 2:Nat):Int)).wf=true:=by
  have:c % 2=0∨c % 2=1:=by omega
  rcases this with h|h<;>rw [h]<;>decide
 have h3:(Lit.int .i64 ((c % 3:Nat):Int)).wf=true:=by
  have:c % 3=0∨c % 3=1∨c % 3=2:=by omega
  rcases this with h|h|h<;>rw [h]<;>decide
 have hag:(agF c).length≤2∧∀ s,s∈agF c→s.length≤1:=by
  unfold agF
  split
  · decide
  · decide
 have h4:c % 4<4:=Nat.mod_lt _ (by omega)
 have hml:∀ t,t∈XI b n (c % 4)→t.Ok∧t.size≤90000:=fun t ht=>by
  obtain ⟨j, -,rfl⟩:=List.mem_map.1 ht
  exact ZkT _ _
 have hlen:=W5 b n (c % 4)
 have hone:∀ t,t∈ [Vh (b.drop 2) n]→t.Ok∧t.size≤90000:=fun t ht=>by
  rw [List.mem_singleton.1 ht];exact ZkT _ _
 have w0:(Lit.int .i64 0).wf=true:=by decide
 have w1:(Lit.int .i64 1).wf=true:=by decide
 have w2:(Lit.int .i64 2).wf=true:=by decide
 have w3:(Lit.int .i64 3).wf=true:=by decide
 have w4:(Lit.int .i64 4).wf=true:=by decide
 have w5:(Lit.int .i64 5).wf=true:=by decide
 have w6:(Lit.int .i64 6).wf=true:=by decide
 have w7:(Lit.int .i64 7).wf=true:=by decide
 unfold mkM
 have hM:1000≤maxLen:=by decide
 split
 · exact ⟨⟨w1,h1,h2,w0,by simp only;omega,fun s hs=>by have:=hag.2 s hs;omega,Nat.zero_le _,fun t ht=>by cases ht⟩,by simp only;omega,Nat.zero_le _,fun t ht=>by cases ht⟩
 split
 · exact ⟨⟨w2,h1,w0,w0,Nat.zero_le _,fun s hs=>(by cases hs),by simp only [List.length_cons,List.length_nil];omega,fun t ht=>(hone t ht).1⟩,Nat.zero_le _,by simp only [List.length_cons,List.length_nil];omega,hone⟩
 split
 · exact ⟨⟨w3,h1,w0,w0,Nat.zero_le _,fun s hs=>(by cases hs),by simp only [List.length_cons,List.length_nil];omega,fun t ht=>(hone t ht).1⟩,Nat.zero_le _,by simp only [List.length_cons,List.length_nil];omega,hone⟩
 split
 · exact ⟨⟨w4,h1,w0,h3,Nat.zero_le _,fun s hs=>(by cases hs),by simp only;omega,fun t ht=>(hml t ht).1⟩,Nat.zero_le _,by simp only;omega,hml⟩
 split
 · exact ⟨⟨w5,h1,w0,h3,Nat.zero_le _,fun s hs=>(by cases hs),by simp only;omega,fun t ht=>(hml t ht).1⟩,Nat.zero_le _,by simp only;omega,hml⟩
 split
 · refine ⟨⟨w6, w0, w0, w0, by simp only [List.length_cons, List.length_nil]; omega, fun s hs => ?_, Nat.zero_le _, fun t ht => (by cases ht)⟩, by simp only [List.length_cons, List.length_nil]; omega, Nat.zero_le _, fun t ht => (by cases ht)⟩
   rw [List.mem_singleton.1 hs]
   split<;>(simp only [List.length_cons,List.length_nil];omega)
 · exact ⟨⟨w7,h1,w0,w0,Nat.zero_le _,fun s hs=>(by cases hs),Nat.zero_le _,fun t ht=>(by cases ht)⟩,Nat.zero_le _,Nat.zero_le _,fun t ht=>(by cases ht)⟩
theorem Zk0 (b:List Nat):(mkB b).Sm:=ZoC b (Nat.mod_lt _ (by omega))
theorem Zl9 {o:List Mo} (h:∀ m,m∈o→m.Sm) (b:List Nat):(∀ m,m∈Zfm o b→m.Sm)∧(Zfm o b).length≤o.length+1:=by
 unfold Zfm
 split
 · refine ⟨fun m hm => ?_, by simp⟩
   rcases List.mem_append.1 hm with hm|hm
   · exact h m hm
   · rw [List.mem_singleton.1 hm];exact Zk0 _
 · exact ⟨h,by omega⟩
theorem ZbR:∀ (l:List (Bool×List Nat)) (o:List Mo),(∀ m,m∈o→m.Sm)→(∀ m,m∈l.foldl (fun o x=>Zfm o x.2) o→m.Sm)∧(l.foldl (fun o x=>Zfm o x.2) o).length≤o.length+l.length
 | [],o,h=>⟨h,by simp⟩
 | x :: r, o, h => by
   have h1:=Zl9 h x.2
   have h2:=ZbR r _ h1.1
   simp only [List.foldl_cons,List.length_cons]
   exact ⟨h2.1,by omega⟩
theorem Zhp (x y:PV) (h:Z6 y=none):Z6 x=none∨Z6 x≠Z6 y:=by
 rw [h]
 cases Z6 x with
 |none=>exact .inl rfl
 |some k=>exact .inr (by simp)
theorem ZjT (tl:Tail) (es:Nat) (el:List (List PV)):frzG (.sl tl es el)=some (slV false es el):=by
 cases el with
 |nil=>rw [Zq];rfl
 |cons c r=>rw [Zm];rfl
theorem Ze2 (b:List Nat):(byC b).all (fun c=>c.all Z0)=true:=by
 rw [byC,List.all_map,List.all_eq_true]
 intro x _
 rfl
theorem Zl4 (a b:List Nat):byC (a++b)=byC a++byC b:=by simp [byC]
theorem ApV.more {b:Bool} {lv':List Nat} {nt':Nat} (h:ApV b es L out lv nt) (h1:∀ k,k∈lv→k∈lv') (h2:nt≤nt'):ApV b es L out lv' nt':=by
 cases h with
 |nil _ _ hb=>exact .nil _ _ hb
 |full _ _ _ hb hB=>exact .full _ _ _ hb hB
 |tok _ k _ _ hL hk hn hB=>exact .tok _ k _ _ hL (h1 k hk) (by omega) hB
theorem ZnG (h:ApV true es L out lv nt):ElV es out L:=by
 cases h with
 |nil=>exact .nils _
 |full=>exact .sl _ _ _
 |tok=>exact .sl _ _ _
end Go.Vm
namespace Go.Vm.Seat
variable {out:PV} {lv:List Nat} {nt:Nat}
open Go.Proofs
theorem ZeR:ApT E0 25 25 1 1:=⟨_,_,_,_,_,rfl,rfl,rfl,rfl,rfl,rfl,rfl,by decide,rfl⟩
theorem Ztf (xb : Bool) {x : List Nat} (hx : x.length ≤ 1000) {M : List (List PV)} (hA : ApV true 6 M out lv nt) :
  ∃ o1 lv1 nt1 k lv2 nt2,(∀ bx ro,ZB E0 25 25 (.sl .full 1 []) (slV xb 1 (byC x)) ⟨bx,ro,lv,nt⟩=some (o1,⟨bx,ro,lv1,nt1⟩))∧
   (∀ bx ro,ZB E0 25 25 o1 (.sl .full 1 [[.int .u8 0],[.int .u8 0],[.int .u8 0]]) ⟨bx,ro,lv1,nt1⟩=some (.sl (.tok k) 1 (byC (x++ [0,0,0])),⟨bx,ro,lv2,nt2⟩))∧ApV true 6 M out lv2 nt2:=by
 have hz:ElV 1 (.sl .full 1 [[.int .u8 0],[.int .u8 0],[.int .u8 0]]) (byC [0,0,0]):= .sl _ _ _
 have hT:Zcp E0 25=5:=by kernel_rfl
 rw [Zl4]
 by_cases hn:x= []
 · subst hn
   refine ⟨.sl .full 1 [],lv,nt,nt,nt::lv,nt+1,fun bx ro=>?_,fun bx ro=>?_,hA.more (fun k h=>List.mem_cons_of_mem _ h) (by omega)⟩
   · simp only [ZB,ZU ZeR (ElV.slV xb 1 (byC [])) (Ze2 []) (s:= .sl .full 1 []) rfl rfl];rfl
   · simp only [ZB, ZU ZeR hz (Ze2 _) (s := .sl .full 1 []) rfl rfl]
     simp only [byC,List.map_cons,List.map_nil,YN,hT,VJ,List.nil_append]
     rfl
 · obtain ⟨a, r, rfl⟩ := List.exists_cons_of_ne_nil hn
   refine ⟨.sl (.tok nt) 1 (byC (a::r)),nt::lv,nt+1,nt+1,(nt+1)::lv,nt+2,fun bx ro=>?_,fun bx ro=>?_,hA.more (fun k h=>List.mem_cons_of_mem _ h) (by omega)⟩
   · simp only [ZB, ZU ZeR (ElV.slV xb 1 (byC (a :: r))) (Ze2 _) (s := .sl .full 1 []) rfl rfl]
     simp only [byC,List.map_cons,YN,hT,VJ,List.nil_append]
     rw [if_pos (by rw [ZS (by simp only [List.length_nil,List.length_cons,List.length_map] at hx ⊢;omega) (by decide)];rfl)]
   · simp only [ZB, ZU ZeR hz (Ze2 _) (s := .sl (.tok nt) 1 (byC (a :: r))) rfl rfl]
     simp only [byC,List.map_cons,List.map_nil,hT,VJ]
     rw [if_pos (by rw [ZS (by simp only [List.length_nil,List.length_cons,List.length_map] at hx ⊢;omega) (by decide)];rfl)]
     simp [Xv]
theorem Qr {L : List Mo} (hA : ApV true 6 (moC L) out lv nt) (hL : L.length ≤ 500) (m : Mo) :
  ∃ o3 lv3 nt3 o4 lv4 nt4 o5 lv5 nt5,(∀ bx ro,ZB E0 27 27 (.sl .full 6 []) out ⟨bx,ro,lv,nt⟩=some (o3,⟨bx,ro,lv3,nt3⟩))∧
   (∀ bx ro,ZB E0 27 27 o3 (.sl .full 6 [m.cells]) ⟨bx,ro,lv3,nt3⟩=some (o4,⟨bx,ro,lv4,nt4⟩))∧ZM [o4]=some [slV false 6 (moC (L++ [m]))]∧
   (∀ bx ro,ZB E0 27 27 out (.sl .full 6 [m.cells]) ⟨bx,ro,lv4,nt4⟩=some (o5,⟨bx,ro,lv5,nt5⟩))∧ApV true 6 (moC (L++ [m])) o5 lv5 nt5∧ApV true 6 (moC L) out lv4 nt4:=by
 have hlen:=XE L
 have hm1:[m.cells].all (fun c=>c.all Z0)=true:=Zcr [m]
 have hm2:noB [m.cells]=true:=Zbs [m]
 obtain ⟨o3,lv3,nt3,hap3,hA3,hk3⟩:=(ApV.full (es:=6) [] lv nt (rfl:false=false) rfl).app ZaQ (ZnG hA) (Zcr L) (ZS (by simp only [List.length_nil];omega) (by decide)) (Zbs L)
 rw [List.nil_append] at hA3
 obtain ⟨hB3,ht3⟩:=hk3 _ _ _ _ hA (Zhp _ _ rfl)
 obtain ⟨o4,lv4,nt4,hap4,hA4,hk4⟩:=hA3.app ZaQ (.sl .full 6 [m.cells]) hm1 (ZS (by simp only [List.length_cons,List.length_nil];omega) (by decide)) hm2
 obtain ⟨hB4,ht4⟩:=hk4 _ _ _ _ hB3 ht3
 obtain ⟨o5,lv5,nt5,hap5,hA5, -⟩:=hB4.app ZaQ (.sl .full 6 [m.cells]) hm1 (ZS (by simp only [List.length_cons,List.length_nil];omega) (by decide)) hm2
 have e:moC L++ [m.cells]=moC (L++ [m]):=(ZaW L [m]).symm
 rw [e] at hA4 hA5
 exact ⟨o3,lv3,nt3,o4,lv4,nt4,o5,lv5,nt5,hap3,hap4,by simp only [ZM,hA4.frzG],hap5,hA5,hB4⟩
theorem ZfG (k:Tail) (B:List (List PV)) (q:Nat) (hq:q≤B.length):YJ E0 25 (.sl k 1 B) (some (.int .i64 (q:Int))) none none=some (.sl k 1 (B.drop q)):=by
 have e1:E0.T 25=some ⟨.slice 5,1,24,.nils⟩:=by kernel_rfl
 have e2:E0.T 5=some ⟨.int .u8,1,1,.int .u8 0⟩:=by kernel_rfl
 have e3:nat? (.int .i64 (q:Int))=some q:=by simp [nat?]
 simp only [YJ,e1,e2,Zbo,XV,e3,Zbq,if_pos,hq,List.take_length]
theorem Zhq (k:Tail) (B:List (List PV)) (q:Nat) {cs:List PV} (h:B[q]? = some cs):Zv E0 25 (.sl k 1 B) (.int .i64 (q:Int))=some (.fptr cs 0):=by
 have e1:E0.T 25=some ⟨.slice 5,1,24,.nils⟩:=by kernel_rfl
 have e2:E0.T 5=some ⟨.int .u8,1,1,.int .u8 0⟩:=by kernel_rfl
 have e3:nat? (.int .i64 (q:Int))=some q:=by simp [nat?]
 simp only [Zv,e1,e2,e3,Zo,h,if_pos]
theorem ZdM (k m:Nat) (hm:m≠0):Y2 E0 .rem 5 (.int .u8 (k:Int)) (.int .u8 (m:Int))=some (.int .u8 ((k % m:Nat):Int)):=by
 show (if (m:Int)=0 then none else some (PV.int .u8 ((k:Int).tmod (m:Int))))=_
 rw [if_neg (by omega)]
 rfl
theorem ZrO (a b:Nat):Y2 E0 .eql 5 (.int .u8 (a:Int)) (.int .u8 (b:Int))=some (.bool (decide (a=b))):=by
 show some (PV.bool ((a:Int)==(b:Int)))=_
 have e:((a:Int)==(b:Int))=decide (a=b):=by
  rw [Bool.eq_iff_iff,beq_iff_eq,decide_eq_true_eq]
  omega
 rw [e]
structure ByF (k2:Tail) (B:List (List PV)) (b0 b1 c n K:Nat):Prop where
 i0:Zv E0 25 (.sl k2 1 B) (.int .i64 0)=some (.fptr [.int .u8 (b0:Int)] 0)
 i1:Zv E0 25 (.sl k2 1 B) (.int .i64 1)=some (.fptr [.int .u8 (b1:Int)] 0)
 i2:Zv E0 25 (.sl k2 1 B) (.int .i64 2)=some (.fptr [.int .u8 (c:Int)] 0)
 r1:Y2 E0 .rem 5 (.int .u8 (b1:Int)) (.int .u8 4)=some (.int .u8 (n:Int))
 r0:Y2 E0 .rem 5 (.int .u8 (b0:Int)) (.int .u8 7)=some (.int .u8 (K:Int))
 v1:Uw E0 5 3 (.int .u8 (n:Int))=some (.int .i64 (n:Int))
 v0:Uw E0 5 3 (.int .u8 (K:Int))=some (.int .i64 (K:Int))
 c2:Y2 E0 .rem 5 (.int .u8 (c:Int)) (.int .u8 2)=some (.int .u8 ((c % 2:Nat):Int))
 c3:Y2 E0 .rem 5 (.int .u8 (c:Int)) (.int .u8 3)=some (.int .u8 ((c % 3:Nat):Int))
 c4:Y2 E0 .rem 5 (.int .u8 (c:Int)) (.int .u8 4)=some (.int .u8 ((c % 4:Nat):Int))
 w2:Uw E0 5 3 (.int .u8 ((c % 2:Nat):Int))=some (.int .i64 ((c % 2:Nat):Int))
 w3:Uw E0 5 3 (.int .u8 ((c % 3:Nat):Int))=some (.int .i64 ((c % 3:Nat):Int))
 w4:Uw E0 5 3 (.int .u8 ((c % 4:Nat):Int))=some (.int .i64 ((c % 4:Nat):Int))
 e3:Y2 E0 .eql 5 (.int .u8 ((c % 3:Nat):Int)) (.int .u8 0)=some (.bool (decide (c % 3=0)))
 s2:YJ E0 25 (.sl k2 1 B) (some (.int .i64 2)) none none=some (.sl k2 1 (B.drop 2))
 s3:YJ E0 25 (.sl k2 1 B) (some (.int .i64 3)) none none=some (.sl k2 1 (B.drop 3))
 l3:3≤B.length
theorem Znl {b:List Nat} (hl:3≤b.length) (k2:Tail):ByF k2 (byC b) (b.getD 0 0) (b.getD 1 0) (b.getD 2 0) (b.getD 1 0 % 4) (b.getD 0 0 % 7) where
 i0:=Zhq k2 _ 0 (Qz (by omega))
 i1:=Zhq k2 _ 1 (Qz (by omega))
 i2:=Zhq k2 _ 2 (Qz (by omega))
 r1:=ZdM _ 4 (by omega)
 r0:=ZdM _ 7 (by omega)
 v1:=Za9 _ (by omega)
 v0:=Za9 _ (by omega)
 c2:=ZdM _ 2 (by omega)
 c3:=ZdM _ 3 (by omega)
 c4:=ZdM _ 4 (by omega)
 w2:=Za9 _ (by omega)
 w3:=Za9 _ (by omega)
 w4:=Za9 _ (by omega)
 e3:=ZrO _ 0
 s2:=ZfG k2 _ 2 (by rw [VA];omega)
 s3:=ZfG k2 _ 3 (by rw [VA];omega)
 l3:=by rw [VA];exact hl
