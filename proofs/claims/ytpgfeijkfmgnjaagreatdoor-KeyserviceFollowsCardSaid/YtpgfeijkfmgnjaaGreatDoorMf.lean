/-
  KeyserviceFollows: the law's function returns true at any changes and any byte.
-/
import Derived.Test.YtpgfeijkfmgnjaaGreatDoorMd
import Derived.Test.YtpgfeijkfmgnjaaGreatDoorLd55
set_option maxHeartbeats 0
set_option maxRecDepth 100000
namespace Go.Vm.Seat
variable {l:List Opp}
open Go.Proofs
theorem ZqF (b:Bool) {k:Nat} (h0:0<k) (hk:k≤l.length):ZW E0 22 (slV b 3 (opC l)) none (some (.int .i64 (k:Int))) none=some (slV false 3 (opC (l.take k))):=by
 have e:E0.T 22=some ⟨.slice 59,1,24,.nils⟩:=by kernel_rfl
 have et:E0.T 59=some ⟨.struct [(0,5),(1,5),(2,5)],3,3,.agg [.int .u8 0,.int .u8 0,.int .u8 0]⟩:=by kernel_rfl
 have hc:(opC l).take k=opC (l.take k):=by simp [opC]
 cases l with
 |nil=>simp at hk;omega
 | cons o r =>
   show ZW E0 _ (slV b 3 (o.cells::opC r)) _ _ _=_
   rw [Zw]
   have hlen:(o.cells::opC r).length=(o::r).length:=by simp [opC]
   simp only [ZW,e,et,if_true,U3,Xa,Zik]
   rw [show o.cells::opC r=opC (o::r) from rfl,Z1, ← hc]
   have hk2:k≤r.length+1:=by simpa using hk
   simp [ZaZ,Zeo,hk2]
theorem Zpb {c:Rd} (h:ZiF 2000 c):ZiF 20000 c:=⟨⟨h.1.1,by have:=h.1.2;omega⟩,⟨h.2.1.1,by have:=h.2.1.2;omega⟩,h.2.2.1,by have:=h.2.2.2;omega⟩
theorem Zla {z:Int} (h0:0≤z) (h1:z≤100):(Lit.int .i64 z).wf=true:=by
 obtain ⟨k,rfl⟩:=Int.eq_ofNat_of_zero_le h0
 have:∀ m:Fin 101,(Lit.int .i64 ((m:Nat):Int)).wf=true:=by decide
 exact this ⟨k,by omega⟩
theorem Zn6 {s:Sv} (h:Mad 10 s) (name:Bs) (hk:(Zbf s.log name).1=(Zt name s.log.reverse).1.cl):(Zbf s.log name).1.Ok∧(Zbf s.log name).1.size≤1000:=by
 rw [hk]
 have:=h.look name
 exact ⟨Wi this.1,by rw [YN];omega⟩
theorem c3 (hl:∀ o,o∈l→o.ok) (bl:Bool) {n:Nat} (hn:n<256):∀ H,CallOk E0 Tryz.prog 3 [slV bl 3 (opC l),.int .u8 (n:Int)] H (.bool true) H:=by
 have haw:=Zip
 have cn:=c5 Za4 (by decide)
 rw [if_pos UW,if_pos UW] at cn
 have e0:Ys l 0=WW Za4:=rfl
 have hM0:=U9 l (i:=0) (by omega)
 rw [e0] at hM0
 have cf:=c6 hM0.ok
 have hf0:=Zli l (i:=0) (by omega)
 rw [e0] at hf0
 rw [hf0] at cf
 have hF0:=Zoo
 rw [← e0] at hF0
 have hR0:ZiF 2000 ⟨pkT (skT Za4).cl,0,.zero,.zero⟩:=by
  have hz:=ZhB (S:=2000) (by omega)
  exact ⟨⟨ok1 (by decide) (Wi hM0.ok.k),by decide⟩,hz.2,hz.2⟩
 have hln:=Zeo l
 obtain ⟨O,hO⟩:∃ O,O=opC l:=⟨_,rfl⟩
 rw [← hO] at hln ⊢
 refine Zm (own:=(fun d=>[30009,30010].any (Nat.beq d))) tOk fe3.ok (by simp only [ZJ,Yy];rfl) rfl ?_
 refine Wp.seq ?_
 obtain ⟨S0,hS0⟩:∃ S0,S0=WW Za4:=⟨_,rfl⟩
 rw [← hS0] at cn cf e0
 generalize (⟨pkT (skT Za4).cl,0,.zero,.zero⟩:Rd)=R0 at cf hF0 hR0
 obtain ⟨sn,⟨k,nm,z,bk,kz⟩,lb,log,kb,keys⟩:=S0
 obtain ⟨⟨k1,nm1,s1,b1,kz1⟩,n1,⟨k2,nm2,s2,b2,kz2⟩,k3,nm3,s3,b3,kz3⟩:=R0
 simp only [Sv.cells,Rd.cells,Tm.cells,List.cons_append,List.nil_append] at cn cf
 clear hM0 hf0
 repeat' first|(apply qCl;rfl;rfl;rfl;rfl;first|exact haw _|exact cn _|exact cf _)|refine Jt ?_|refine Jo ?_|fail
 refine Wp.while (fun m tm H=>∃ (i:Nat) (c:Rd) (base:TM),i+m=10∧i≤l.length∧Fl c (Ys l i).log∧ZiF 2000 c∧tm=ovr base [(0,slV bl 3 O),(1,.int .u8 (n:Int)),(5,.ptr 0 7 0 0),(7,.ptr 1 13 0 0),(9,.int .i64 (i:Int))]∧H=⟨[.cells 7 [(Ys l i).cells],.cells 13 [c.cells]],0,[],0⟩)
  (fun m tm H hI=>Wp.drop ?_) 10 _ _ ⟨0,⟨⟨k1,nm1,s1,b1,kz1⟩,n1,⟨k2,nm2,s2,b2,kz2⟩,⟨k3,nm3,s3,b3,kz3⟩⟩,_,by omega,by omega,hF0,hR0,Zi ⟨rfl,rfl,rfl,rfl,rfl,trivial⟩,by rw [e0];rfl⟩
 clear cn cf e0 hS0 hF0 hR0
 obtain ⟨i,c,base,hi,hil,hF,hR,rfl,rfl⟩:=hI
 by_cases hlt:i<l.length
 · have hlx : ZP E0 .lss 3 (.int .i64 (i : Int)) (.int .i64 (O.length : Int)) = some (.bool true) := X3 (by omega)
   by_cases h10:i<10
   · have hly : ZP E0 .lss 3 (.int .i64 (i : Int)) (.int .i64 10) = some (.bool true) := X3 (by omega)
     have hpre:=ZqF bl (l:=l) (k:=i+1) (by omega) (by omega)
     rw [← hO] at hpre
     have had:=Zse (q:=i) (by omega)
     have cm:=c7 (l:=l.take (i+1)) (fun o ho=>hl o (List.mem_of_mem_take ho)) false
     rw [show min (l.take (i+1)).length 10=i+1 by rw [List.length_take];omega,ZdL l (i+1) (i+1) (Nat.le_refl _)] at cm
     have hM:=(U9 l (i:=i+1) (by omega)).mono (m:=10) (by omega)
     have hv:=ZcM l (i+1)
     obtain ⟨r,hr⟩:=ZkQ l i
     have hF2:Fl c (Ys l (i+1)).log:=by rw [hr];exact hF.mono r
     have hbd:0≤c.size∧c.size≤((Ys l (i+1)).log.length:Int):=by
      rcases hF2.cs with ⟨h0, -⟩|⟨p1,p2, -⟩
      · rw [h0];omega
      · omega
     have hl10:=hM.len
     have cs:=c9 hn
     have cc:=c8 hM.ok.l hM.ok.ls hM.ok.ll (name:=Wk n) (UD n) (Ys l (i+1)).lb
     have ca:=c10 hM hv (name:=Wk n) (UD n) c.size
     rcases Zmm (s:=Ys l (i+1)) (by omega) (ZkE n) hbd.1 hbd.2 with ⟨k1,k2,k3⟩|⟨k1,k2,k3,k4⟩
     · rw [k3] at ca
       rw [k2] at cc
       clear k1 k2 k3 hv hM hF hr hbd hl10
       generalize hSX:Ys l (i+1)=S at cm cc ca hF2
       generalize (Zbf S.log (Wk n)).1=K at cc
       generalize Ys l i=S1
       generalize Wk n=nmn at cs cc ca
       generalize opC (l.take (i+1))=O1 at hpre cm
       obtain ⟨c2,hc2⟩:∃ c2,c2=c:=⟨_,rfl⟩
       obtain ⟨⟨q1,m1,s1,b1,kz1⟩,n1,⟨q2,m2,s2,b2,kz2⟩,q3,m3,s3,b3,kz3⟩:=c
       obtain ⟨kA,nmA,sA,bA,kzA⟩:=K
       obtain ⟨sn2,⟨kS,nmS,zS,bS,kzS⟩,lb2,log2,kb2,keys2⟩:=S
       obtain ⟨sn3,⟨kT,nmT,zT,bT,kzT⟩,lb3,log3,kb3,keys3⟩:=S1
       simp only [UL,Sv.cells,Rd.cells,Tm.cells,List.cons_append,List.nil_append] at cm cc ca ⊢
       repeat' first|refine Jc (cm _) ?_|refine JS ?_|refine Ji ?_|refine Jl ?_|refine Jt ?_|refine Jo ?_|(apply dCl;rfl;rfl;rfl;rfl;rfl;first|exact cs _|exact cc _|exact ca _)|(apply dAl;rfl;rfl;rfl;rfl;exact IsV.ptrM;exact IsH.mkN)|refine Jh ?_|(apply dWB tOk follows;rfl;kernel_rfl;rfl;exact IsH.mkN)|fail
       exact DropQ.go [(0,slV bl 3 O),(1,.int .u8 (n:Int)),(5,.ptr 0 7 0 0),(7,.ptr 1 13 0 0),(9,.int .i64 ((i+1:Nat):Int))] ⟨rfl,rfl,rfl,rfl,rfl,trivial⟩
        (by simp [Zl,under]) rfl (by simp [Yw,ZI,under,Zl]) (LoopI.go (m-1) (by omega) ⟨i+1,c2,_,by omega,by omega,by rw [hSX,hc2];exact hF2,by rw [hc2];exact hR,rfl,by rw [hSX,hc2];rfl⟩)
     · obtain ⟨x, key, h1, h2, h3, h4, h5⟩ := Zn5 hM hv hF2 k1
       have hSM:=Zo4 hM hv (UD n) c.size.toNat
       have cA:=c11 hR (Zla hbd.1 (by omega)) hSM
       have hAk:=ZmT hR hSM
       rw [h1] at cA hAk
       have cD:=c12 (a:=c) (b:=x) (Zpb hR) (Zpb hAk.1)
       rw [h5] at cD
       have hCo:=Zn6 hM (Wk n) k3
       have cE:=c13 hAk.2.1 hCo.1 (by have:=hAk.2.2;omega) (by have:=hCo.2;omega)
       rw [decide_eq_true (ZU.2 (by rw [h4,k3,XR]))] at cE
       have hln2:=Zb (Ys l (i+1)).log
       have q3:ZP E0 .neq 3 (.int .i64 x.size) (.int .i64 ((Za (Ys l (i+1)).log).length:Int))=some (.bool false):=Zjs (by rw [h3,hln2])
       rw [k4] at ca
       rw [k2] at cc
       simp only [ZjS] at cA
       have hR2:=hAk.1
       clear k1 k2 k3 k4 hv hM hF hF2 hr hbd hl10 h1 h4 h5 hSM hAk hCo hln2 hR
       generalize (Zbf (Ys l (i+1)).log (Wk n)).1=K at cc cE
       generalize anY (Ys l (i+1)) (Wk n) c.size.toNat=A at ca cA
       generalize hSX:Ys l (i+1)=S at cm cc ca q3
       generalize Ys l i=S1
       generalize Wk n=nmn at cs cc ca
       generalize opC (l.take (i+1))=O1 at hpre cm
       obtain ⟨x2,hx2⟩:∃ x2,x2=x:=⟨_,rfl⟩
       rw [← hx2] at h2 hR2
       obtain ⟨⟨q1,m1,s1,b1,kz1⟩,n1,⟨q2,m2,s2,b2,kz2⟩,q4,m3,s3,b3,kz3⟩:=c
       obtain ⟨⟨w1,u1,v1,y1,kzw⟩,nx,⟨w2,u2,v2,y2,kzx⟩,w3,u3,v3,y3,kzy⟩:=x
       obtain ⟨kA,nmA,sA,bA,kzA⟩:=K
       obtain ⟨kB,nmB,sB,bB,kzB⟩:=key
       obtain ⟨na,⟨kC,nmC,sC,bC,kzC⟩,ia,za,⟨kD,nmD,sD,bD,kzD⟩,⟨kE,nmE,sE,bE,kzE⟩,iba,ina,eba,exa⟩:=A
       obtain ⟨sn2,⟨kS,nmS,zS,bS,kzS⟩,lb2,log2,kb2,keys2⟩:=S
       obtain ⟨sn3,⟨kT,nmT,zT,bT,kzT⟩,lb3,log3,kb3,keys3⟩:=S1
       simp only [An.cells,Sv.cells,Rd.cells,Tm.cells,List.cons_append,List.nil_append] at cm cc ca cA cD cE q3 ⊢
       repeat' first|(apply qCl;rfl;rfl;rfl;rfl;first|exact cm _|exact cA _|exact cD _|exact cE _)|refine JS ?_|refine Ji ?_|refine Jl ?_|refine Jt ?_|refine Jo ?_|(apply dCl;rfl;rfl;rfl;rfl;rfl;first|exact cs _|exact cc _|exact ca _)|(apply dAl;rfl;rfl;rfl;rfl;exact IsV.ptrM;exact IsH.mkN)|refine Jh ?_|(apply dWB tOk follows;rfl;kernel_rfl;rfl;exact IsH.mkN)|fail
       exact DropQ.go [(0,slV bl 3 O),(1,.int .u8 (n:Int)),(5,.ptr 0 7 0 0),(7,.ptr 1 13 0 0),(9,.int .i64 ((i+1:Nat):Int))] ⟨rfl,rfl,rfl,rfl,rfl,trivial⟩
        (by simp [Zl,under]) rfl (by simp [Yw,ZI,under,Zl]) (LoopI.go (m-1) (by omega) ⟨i+1,x2,_,by omega,by omega,by rw [hSX] at h2 ⊢;exact h2,hR2,rfl,by rw [hSX,hx2];rfl⟩)
   · have e : i = 10 := by omega
     have hly:ZP E0 .lss 3 (.int .i64 (i:Int)) (.int .i64 10)=some (.bool false):=Xo (by omega)
     clear hF hR
     generalize Ys l i=S
     obtain ⟨⟨q1,m1,s1,b1,kz1⟩,n1,⟨q2,m2,s2,b2,kz2⟩,q3,m3,s3,b3,kz3⟩:=c
     obtain ⟨sn2,⟨kS,nmS,zS,bS,kzS⟩,lb2,log2,kb2,keys2⟩:=S
     simp only [Sv.cells,Rd.cells,Tm.cells,List.cons_append,List.nil_append]
     repeat' first|refine Ji ?_|refine Jl ?_|refine Jt ?_|refine Jo ?_|fail
     all_goals rfl
 · have hlx : ZP E0 .lss 3 (.int .i64 (i : Int)) (.int .i64 (O.length : Int)) = some (.bool false) := Xo (by omega)
   clear hF hR
   generalize Ys l i=S
   obtain ⟨⟨q1,m1,s1,b1,kz1⟩,n1,⟨q2,m2,s2,b2,kz2⟩,q3,m3,s3,b3,kz3⟩:=c
   obtain ⟨sn2,⟨kS,nmS,zS,bS,kzS⟩,lb2,log2,kb2,keys2⟩:=S
   simp only [Sv.cells,Rd.cells,Tm.cells,List.cons_append,List.nil_append]
   repeat' first|refine Jk ?_|refine Ji ?_|refine Jl ?_|refine Jt ?_|refine Jo ?_|fail
   all_goals rfl
