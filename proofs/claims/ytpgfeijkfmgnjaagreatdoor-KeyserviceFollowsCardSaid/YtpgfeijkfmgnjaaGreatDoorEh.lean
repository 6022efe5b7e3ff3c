/-
  The ledger of the program: the reading of proofs of inclusion.
-/
import Derived.Test.YtpgfeijkfmgnjaaGreatDoorEg
set_option maxHeartbeats 0
set_option maxRecDepth 100000
namespace Go.Vm.Seat
variable {f:FuncId} {args:List PV} {H H':Heap} {r:PV} {n:Nat} {A B:Box} {nm:Bs} {l:List Tm} {t x y:Tm}
open Go.Proofs
noncomputable def E7:Env:={E0 with
 eff:=fun f=>E0.eff f|| [83,84,121,120,125,115,76,78].any (Nat.beq f)
 own:=fun f d=>E0.own f d|| [(40,5042),(40,5039),(121,7)].any fun x=>Nat.beq f x.1&&Nat.beq d x.2}
theorem WF:TOk E7 Tryz.prog:=⟨fun _ _ h=>Zcn h⟩
theorem Zfh (h:CallOk E0 Tryz.prog f args H r H'):CallOk E7 Tryz.prog f args H r H':=h.env rfl
theorem ZpS (h:CallOk E7 Tryz.prog f args H r H'):CallOk E0 Tryz.prog f args H r H':=h.env rfl
theorem Zef (h:∀ H,CallOk E7 Tryz.prog f args H r H):∀ H,CallOk E0 Tryz.prog f args H r H:=fun H=>ZpS (h H)
theorem c69 (nm:Bs):∀ H,CallOk E0 Tryz.prog 69 [.str nm] H (.agg (Wd nm).cells) H:=by
 unfold Wd
 simp only [Tm.cells,Za,Zq]
 refine Jw tOk fe69.ok rfl ?_
 repeat' first|refine Jo ?_|fail
 all_goals rfl
theorem c68 (nm:Bs) (c:List PV) (L:List (List PV)):∀ H,CallOk E0 Tryz.prog 68 [.str nm,.sl .none 4 (c::L)] H (.agg [.int .i64 3,.str nm,.int .i64 0,.sl .none 4 (c::L)]) H:=by
 refine Jw tOk fe68.ok rfl ?_
 repeat' first|refine Jo ?_|fail
 all_goals rfl
theorem Zoz (nm:Bs) (x:Tm):(Tm.mk 3 nm 0 true [x]).cells= [.int .i64 3,.str nm,.int .i64 0,.sl .none 4 [x.cells]]:=by simp only [Tm.cells,Za,Zw]
theorem Zof (nm:Bs) (x y:Tm):(Tm.mk 3 nm 0 true [x,y]).cells= [.int .i64 3,.str nm,.int .i64 0,.sl .none 4 [x.cells,y.cells]]:=by simp only [Tm.cells,Za,Zw]
theorem Zsf (nm:Bs) (x:Tm):∀ H,CallOk E0 Tryz.prog 68 [.str nm,.sl .full 4 [x.cells]] H (.agg (Tm.mk 3 nm 0 true [x]).cells) H:=fun H=>by
 rw [Zoz]
 exact Y4 (c68 nm _ _ H) rfl
theorem Znw (nm:Bs) (x y:Tm):∀ H,CallOk E0 Tryz.prog 68 [.str nm,.sl .full 4 [x.cells,y.cells]] H (.agg (Tm.mk 3 nm 0 true [x,y]).cells) H:=fun H=>by
 rw [Zof]
 exact Y4 (c68 nm _ _ H) rfl
theorem ZrQ (t:Tm):∀ H,CallOk E0 Tryz.prog 104 [.agg t.cells] H (.agg (X6 t).cells) H:=by
 have h1:=c69 Za2
 have h2:=Znw Z9 (Wd Za2) t
 have h3:=Zsf WD (Tm.mk 3 Z9 0 true [Wd Za2,t])
 have hfr:=Zz 0 hNil (X6 t)
 unfold X6 at hfr ⊢
 generalize Tm.mk 3 WD 0 true [Tm.mk 3 Z9 0 true [Wd Za2,t]]=R at h3 hfr ⊢
 generalize Tm.mk 3 Z9 0 true [Wd Za2,t]=Q at h2 h3
 generalize Wd Za2=G at h1 h2
 obtain ⟨k,nm,s,b,kz⟩:=t
 obtain ⟨k1,nm1,s1,b1,kz1⟩:=R
 obtain ⟨k2,nm2,s2,b2,kz2⟩:=Q
 obtain ⟨k3,nm3,s3,b3,kz3⟩:=G
 simp only [Tm.cells] at h1 h2 h3 hfr ⊢
 refine Jw tOk fe104.ok hfr ?_
 repeat' first|refine Jo ?_|(apply dCl;rfl;rfl;rfl;rfl;rfl;first|exact h1 _|exact h2 _|exact h3 _)|refine JB ?_|refine Jh ?_|(apply Wp.drawS tOk follows;kernel_rfl;rfl)|fail
 all_goals exact Z6 _ _ _ _ _ _ _
theorem Zns (x y:Tm):∀ H,CallOk E0 Tryz.prog 105 [.agg x.cells,.agg y.cells] H (.agg (YL x y).cells) H:=by
 have h1:=c69 Zan
 have h2:=Znw Z9 x y
 have h3:=Znw Z9 (Wd Zan) (Tm.mk 3 Z9 0 true [x,y])
 have h4:=Zsf WD (Tm.mk 3 Z9 0 true [Wd Zan,Tm.mk 3 Z9 0 true [x,y]])
 have hfr:=Zz 0 hNil (YL x y)
 unfold YL at hfr ⊢
 generalize Tm.mk 3 WD 0 true [Tm.mk 3 Z9 0 true [Wd Zan,Tm.mk 3 Z9 0 true [x,y]]]=R at h4 hfr ⊢
 generalize Tm.mk 3 Z9 0 true [Wd Zan,Tm.mk 3 Z9 0 true [x,y]]=S at h3 h4
 generalize Tm.mk 3 Z9 0 true [x,y]=Q at h2 h3
 generalize Wd Zan=G at h1 h3
 obtain ⟨k,nm,s,b,kz⟩:=x
 obtain ⟨k1,nm1,s1,b1,kz1⟩:=R
 obtain ⟨k2,nm2,s2,b2,kz2⟩:=Q
 obtain ⟨k3,nm3,s3,b3,kz3⟩:=G
 obtain ⟨k4,nm4,s4,b4,kz4⟩:=y
 obtain ⟨k5,nm5,s5,b5,kz5⟩:=S
 simp only [Tm.cells] at h1 h2 h3 h4 hfr ⊢
 refine Jw tOk fe105.ok hfr ?_
 repeat' first|refine Jo ?_|(apply dCl;rfl;rfl;rfl;rfl;rfl;first|exact h1 _|exact h2 _|exact h3 _|exact h4 _)|refine JB ?_|refine Jh ?_|(apply Wp.drawS tOk follows;kernel_rfl;rfl)|fail
 all_goals exact Z6 _ _ _ _ _ _ _
theorem ZmB:((List.range 33).all fun n=>QQ E0 100 60 ⟨70,[.int .i64 (n:Int)],.int .i64 (Zd n:Int)⟩)=true:=by kernel_rfl
theorem c70 (h:n≤32):∀ H,CallOk E0 Tryz.prog 70 [.int .i64 (n:Int)] H (.int .i64 (Zd n:Int)) H:=
 Xs tOk follows fOk zOk (List.all_eq_true.1 ZmB n (List.mem_range.2 (by omega)))
def prB (b:Bool) (l:List Tm) (f:Bool):Box:= .cells 2 [[slV b 4 (Za l),.bool f]]
theorem Vl (n:Nat) (b:Bool) (l:List Tm) (f:Bool):Yw n (prB b l f)=true:=by simp [prB,Yw,ZI,under,Zl]
theorem Zk5 (b f:Bool) (hA:Yw 3 A=true) (hB:Yw 3 B=true):CallOk E7 Tryz.prog 115 [.ptr 2 2 0 0] ⟨[A,B,prB b [] f],0,[],0⟩ (.agg Tm.zero.cells) ⟨[A,B,prB b [] true],0,[],0⟩:=by
 refine Zcl ?_ (YP _ _) hA hB (Vl _ _ _ _)
 rw [Zk]
 unfold prB
 simp only [Za]
 refine Z4 (own:=fun _=>false) WF fe115.ok ?_
 refine Wp.seq ?_
 repeat' first|refine Jl ?_|refine Jt ?_|refine Jo ?_|fail
 · exact RetR.ret rfl ⟨rfl,_,rfl⟩
theorem Zie (b f:Bool) (t:Tm) (r:List Tm) (hA:Yw 3 A=true) (hB:Yw 3 B=true):CallOk E7 Tryz.prog 115 [.ptr 2 2 0 0] ⟨[A,B,prB b (t::r) f],0,[],0⟩ (.agg t.cells) ⟨[A,B,prB false r f],0,[],0⟩:=by
 refine Zcl ?_ (YP _ _) hA hB (Vl _ _ _ _)
 have hj:(Za (t::r))[0]? = some t.cells:=by simp only [Za];rfl
 have ht:=Zoh b t r
 have hcl:(Za (t::r)).length=r.length+1:=by simp [Zb]
 have hr:slV false 4 (Za r)= .sl .none 4 (Za r):=Z1 _ _
 unfold prB
 rw [hr]
 generalize Za (t::r)=L at hj ht hcl ⊢
 obtain ⟨k,nm,s,tb,kz⟩:=t
 simp only [Tm.cells] at hj ⊢
 refine Z4 (own:=fun _=>false) WF fe115.ok ?_
 refine Wp.seq ?_
 repeat' first|refine JS ?_|refine Jl ?_|refine Jx ?_|refine Jb ?_ ?_|refine Jo ?_|intro hb
 · exfalso;rw [hcl] at hb;simp at hb;omega
 · exact RetR.ret rfl ⟨rfl,_,rfl⟩
theorem Zac (b:Bool) (p:List Tm×Bool):∃ b',∀ A B,Yw 3 A=true→Yw 3 B=true→CallOk E7 Tryz.prog 115 [.ptr 2 2 0 0] ⟨[A,B,prB b p.1 p.2],0,[],0⟩ (.agg (YM p).1.cells) ⟨[A,B,prB b' (YM p).2.1 (YM p).2.2],0,[],0⟩:=by
 obtain ⟨l,f⟩:=p
 cases l with
 |nil=>exact ⟨b,fun A B hA hB=>Zk5 b f hA hB⟩
 |cons t r=>exact ⟨false,fun A B hA hB=>Zie b f t r hA hB⟩
theorem uT (n i:Int) (t:Tm):ZI 3 [.ptr 2 2 0 0,.int .i64 n,.int .i64 i,.agg t.cells]=true:=by
 have:=YP 3 t
 simp only [ZI,under,Bool.and_true] at this ⊢
 simpa using this
theorem c76 : ∀ (m : Nat) {n : Nat}, n ≤ m → 1 ≤ n → n ≤ 32 → ∀ (i : Nat), i < n → ∀ (t : Tm) (p : List Tm × Bool) (b : Bool), ∃ b', ∀ A B, Yw 3 A = true → Yw 3 B = true →
  CallOk E7 Tryz.prog 76 [.ptr 2 2 0 0,.int .i64 (n:Int),.int .i64 (i:Int),.agg t.cells] ⟨[A,B,prB b p.1 p.2],0,[],0⟩ (.agg (Vg m n i t p).1.cells) ⟨[A,B,prB b' (Vg m n i t p).2.1 (Vg m n i t p).2.2],0,[],0⟩
 |0,n,h,h1,_=>by omega
 | m + 1, n, hm, h1, h32 => by
   intro i hi t p b
   have hcl:=fun H=>Zfh (ZrQ t H)
   have hch:=fun H=>Zfh (c70 h32 H)
   have hhp:=Y8 n
   by_cases hn1:n=1
   · refine ⟨b, fun A B hA hB => Zcl ?_ (YP _ _) hA hB (Vl _ _ _ _)⟩
     simp only [Vg,if_pos hn1]
     subst hn1
     generalize X6 t=R at hcl ⊢
     obtain ⟨k,nm,s,tb,kz⟩:=t
     obtain ⟨k1,nm1,s1,tb1,kz1⟩:=R
     simp only [Tm.cells] at hcl ⊢
     refine Z4 (own:=(fun d=>[29999,6028,6040,50009,50017,50034,40208,40210,40328,40330].any (Nat.beq d))) WF fe76.ok ?_
     refine Wp.seq ?_
     repeat' first|refine Jc (hcl _) ?_|refine Jt ?_|refine Jo ?_|fail
     · exact RetR.ret rfl ⟨rfl,_,rfl⟩
     all_goals (exfalso;simp at hb)
   · have hhl := XG (n := n) (by omega)
     have hnb:((n:Int)==1)=false:=by simp;omega
     by_cases hlt:i<Zd n
     · obtain ⟨b1, hr⟩ := c76 m (n := Zd n) (by omega) hhp (by omega) i hlt t p b
       obtain ⟨b2,hx⟩:=Zac b1 (Vg m (Zd n) i t p).2
       have hN:=fun H=>Zfh (Zns (Vg m (Zd n) i t p).1 (YM (Vg m (Zd n) i t p).2).1 H)
       refine ⟨b2,fun A B hA hB=>Zcl ?_ (YP _ _) hA hB (Vl _ _ _ _)⟩
       have hr:=hr A B hA hB
       simp only [Vg,if_neg hn1,if_pos hlt]
       generalize Vg m (Zd n) i t p=Q at hr hx hN ⊢
       obtain ⟨x,q⟩:=Q
       simp only [] at hr hx hN ⊢
       generalize YM q=Q2 at hx hN ⊢
       obtain ⟨y,q2⟩:=Q2
       simp only [] at hr hx hN ⊢
       have hs:=ZeL hx rfl (Vl 3 b1 q.1 q.2) (by simp [prB]) hA hB [.cells 4 [t.cells],.cells 4 [Tm.zero.cells],.cells 4 [x.cells]]
       have hr:=hr.ext (ext:=[.cells 4 [t.cells],.cells 4 [Tm.zero.cells]]) rfl (uT _ _ t) (by simp [hA,hB,Vl]) (Nat.zero_le _)
       have hbl:decide ((i:Int)<(Zd n:Int))=true:=by simp;omega
       rw [Zk] at hs hr
       generalize YL x y=R at hN ⊢
       generalize prB b p.1 p.2=X0 at hr ⊢
       generalize prB b1 q.1 q.2=X1 at hr hs
       generalize prB b2 q2.1 q2.2=X2 at hs ⊢
       obtain ⟨k,nm,s,tb,kz⟩:=t
       obtain ⟨k1,nm1,s1,tb1,kz1⟩:=R
       obtain ⟨k2,nm2,s2,tb2,kz2⟩:=x
       obtain ⟨k3,nm3,s3,tb3,kz3⟩:=y
       simp only [Tm.cells] at hr hs hN ⊢
       refine Z4 (own:=(fun d=>[29999,6028,6040,50009,50017,50034,40208,40210,40328,40330].any (Nat.beq d))) WF fe76.ok ?_
       refine Wp.seq ?_
       repeat' first|refine Jc (hch _) ?_|refine Jc hr ?_|refine Jb ?_ ?_|refine Jo ?_|refine Jd (hN _) ?_|(apply dCs;rfl;rfl;rfl;rfl;rfl;exact hs;exact IsH.mkN;rfl;rfl)|refine Jh ?_|(apply Wp.drawS WF follows;kernel_rfl;rfl)|intro hb
       all_goals first
        | exact RetR.ret rfl ⟨rfl,_,rfl⟩
        | (exfalso;rw [hnb] at hb;cases hb;done)
        | (exfalso;rw [hbl] at hb;cases hb;done)
     · obtain ⟨b1, hr⟩ := c76 m (n := n - Zd n) (by omega) (by omega) (by omega) (i - Zd n) (by omega) t p b
       obtain ⟨b2,hx⟩:=Zac b1 (Vg m (n-Zd n) (i-Zd n) t p).2
       have hN:=fun H=>Zfh (Zns (YM (Vg m (n-Zd n) (i-Zd n) t p).2).1 (Vg m (n-Zd n) (i-Zd n) t p).1 H)
       refine ⟨b2,fun A B hA hB=>Zcl ?_ (YP _ _) hA hB (Vl _ _ _ _)⟩
       have hr:=hr A B hA hB
       simp only [Vg,if_neg hn1,if_neg hlt]
       have w1:IntKind.i64.wrap ((n:Int)-(Zd n:Int))=((n-Zd n:Nat):Int):=by
        rw [IntWalk.i64_in _ (by omega)];omega
       have w2:IntKind.i64.wrap ((i:Int)-(Zd n:Int))=((i-Zd n:Nat):Int):=by
        rw [IntWalk.i64_in _ (by omega)];omega
       generalize Vg m (n-Zd n) (i-Zd n) t p=Q at hr hx hN ⊢
       rw [← w1, ← w2] at hr
       obtain ⟨x,q⟩:=Q
       simp only [] at hr hx hN ⊢
       generalize YM q=Q2 at hx hN ⊢
       obtain ⟨y,q2⟩:=Q2
       simp only [] at hr hx hN ⊢
       have hs:=ZeL hx rfl (Vl 3 b1 q.1 q.2) (by simp [prB]) hA hB [.cells 4 [t.cells],.cells 4 [Tm.zero.cells],.cells 4 [x.cells]]
       have hr:=hr.ext (ext:=[.cells 4 [t.cells],.cells 4 [Tm.zero.cells]]) rfl (uT _ _ t) (by simp [hA,hB,Vl]) (Nat.zero_le _)
       have hbl:decide ((i:Int)<(Zd n:Int))=false:=by simp;omega
       rw [Zk] at hs hr
       generalize YL y x=R at hN ⊢
       generalize prB b p.1 p.2=X0 at hr ⊢
       generalize prB b1 q.1 q.2=X1 at hr hs
       generalize prB b2 q2.1 q2.2=X2 at hs ⊢
       obtain ⟨k,nm,s,tb,kz⟩:=t
       obtain ⟨k1,nm1,s1,tb1,kz1⟩:=R
       obtain ⟨k2,nm2,s2,tb2,kz2⟩:=x
       obtain ⟨k3,nm3,s3,tb3,kz3⟩:=y
       simp only [Tm.cells] at hr hs hN ⊢
       refine Z4 (own:=(fun d=>[29999,6028,6040,50009,50017,50034,40208,40210,40328,40330].any (Nat.beq d))) WF fe76.ok ?_
       refine Wp.seq ?_
       repeat' first|refine Jc (hch _) ?_|refine Jc hr ?_|refine Jb ?_ ?_|refine Jo ?_|refine Jd (hN _) ?_|(apply dCs;rfl;rfl;rfl;rfl;rfl;exact hs;exact IsH.mkN;rfl;rfl)|refine Jh ?_|(apply Wp.drawS WF follows;kernel_rfl;rfl)|intro hb
       all_goals first
        | exact RetR.ret rfl ⟨rfl,_,rfl⟩
        | (exfalso;rw [hnb] at hb;cases hb;done)
        | (exfalso;rw [hbl] at hb;cases hb;done)
theorem ZqA {i : Nat} (h1 : 1 ≤ n) (h32 : n ≤ 32) (hi : i < n) (t : Tm) (l : List Tm) (b : Bool) : ∃ b', ∀ A B, Yw 3 A = true → Yw 3 B = true →
  CallOk E7 Tryz.prog 76 [.ptr 2 2 0 0,.int .i64 (n:Int),.int .i64 (i:Int),.agg t.cells] ⟨[A,B,prB b l false],0,[],0⟩ (.agg (Vg 32 n i t (l,false)).1.cells) ⟨[A,B,prB b' (Vg 32 n i t (l,false)).2.1 (Vg 32 n i t (l,false)).2.2],0,[],0⟩:=
 c76 32 h32 h1 h32 i hi t (l,false) b
theorem okN (hn:nm.length≤1000) (hl:l.length≤1000) (h:∀ t,t∈l→t.Ok):(Tm.mk 3 nm 0 true l).Ok:= .mk (by decide) (by decide) (by unfold maxLen;omega) (by unfold maxLen;omega) h
theorem ok1 (hn:nm.length≤1000) (hx:x.Ok):(Tm.mk 3 nm 0 true [x]).Ok:=okN hn (by simp) fun t ht=>by
 obtain rfl:t=x:=by simpa using ht
 exact hx
theorem ok2 (hn:nm.length≤1000) (hx:x.Ok) (hy:y.Ok):(Tm.mk 3 nm 0 true [x,y]).Ok:=okN hn (by simp) fun t ht=>by
 rcases (by simpa using ht:t=x∨t=y) with rfl|rfl
 · exact hx
 · exact hy
theorem Ziw (hn:nm.length≤1000):(Wd nm).Ok:= .mk (by decide) (by decide) (by unfold maxLen;omega) (by unfold maxLen;decide) (by simp)
theorem Zgj (h:t.Ok):(X6 t).Ok:=ok1 (by decide) (ok2 (by decide) (Ziw (by decide)) h)
theorem Zf0 (t:Tm):(X6 t).size=t.size+3:=by
 simp only [X6,Wd,Tm.size,Zx];omega
theorem VG (hx:x.Ok) (hy:y.Ok):(YL x y).Ok:=ok1 (by decide) (ok2 (by decide) (Ziw (by decide)) (ok2 (by decide) hx hy))
theorem UR (x y:Tm):(YL x y).size=x.size+y.size+4:=by
 simp only [YL,Wd,Tm.size,Zx];omega
theorem UZ {S:Nat} (hS:1≤S) {p:List Tm×Bool} (hp:∀ x,x∈p.1→x.Ok∧x.size≤S):(YM p).1.Ok∧(YM p).1.size≤S∧∀ x,x∈(YM p).2.1→x.Ok∧x.size≤S:=by
 obtain ⟨l,f⟩:=p
 cases l with
 |nil=>exact ⟨Tm.ok_zero,by simpa [YM,Tm.zero,Tm.size,Zx] using hS,by simp [YM]⟩
 |cons a r=>exact ⟨(hp a (by simp)).1,(hp a (by simp)).2,fun x hx=>hp x (by simp [YM] at hx;simp [hx])⟩
theorem ZeT {S:Nat} (hS:1≤S) {t:Tm} (ht:t.Ok) (hts:t.size≤S):∀ (m n i:Nat) {p:List Tm×Bool},(∀ x,x∈p.1→x.Ok∧x.size≤S)→(Vg m n i t p).1.Ok∧(Vg m n i t p).1.size≤(m+1)*(S+4)∧∀ x,x∈(Vg m n i t p).2.1→x.Ok∧x.size≤S
 |0,n,i,p,hp=>⟨Tm.ok_zero,by simp [Vg,Tm.zero,Tm.size,Zx],hp⟩
 | m + 1, n, i, p, hp => by
   have e:(m+1+1)*(S+4)=(m+1)*(S+4)+(S+4):=by rw [Nat.succ_mul]
   simp only [Vg]
   split
   · refine ⟨Zgj ht, ?_, hp⟩
     rw [Zf0,e];omega
   · split
     · obtain ⟨a1, a2, a3⟩ := ZeT hS ht hts m (Zd n) i hp
       obtain ⟨b1,b2,b3⟩:=UZ hS a3
       refine ⟨VG a1 b1,?_,b3⟩
       rw [UR,e];omega
     · obtain ⟨a1, a2, a3⟩ := ZeT hS ht hts m (n - Zd n) (i - Zd n) hp
       obtain ⟨b1,b2,b3⟩:=UZ hS a3
       refine ⟨VG b1 a1,?_,b3⟩
       rw [UR,e];omega
theorem c77 {u:Tm} (ht:t.Ok) (hu:u.Ok) (h1:t.size≤1000000) (h2:u.size≤1000000):∀ H,CallOk E0 Tryz.prog 77 [.agg t.cells,.agg u.cells] H (.bool (decide (t.cmp u=0))) H:=by
 have hc:=fun H=>Zlw (d75 ht hu (by omega) (by omega) H)
 generalize t.cmp u=c at hc ⊢
 obtain ⟨k,nm,s,b,kz⟩:=t
 obtain ⟨k',nm',s',b',kz'⟩:=u
 simp only [Tm.cells] at hc ⊢
 refine Jw tOk fe77.ok rfl ?_
 repeat' first|refine Jc (hc _) ?_|refine Jt ?_|refine Jb ?_ ?_|refine Jo ?_|intro hb
 all_goals first|rfl|(congr 1;simp_all;done)
theorem Zll (b:Bool) (l:List Tm):Wr E7 112 [(0,slV b 4 (Za l))]=some (.agg [slV b 4 (Za l),.bool false]):=by
 generalize Za l=L
 cases L<;>cases b<;>simp only [Zq,Yd,Zw]<;>rfl
theorem ZoQ (h t:Tm) (n i:Int) (b:Bool) (L:List (List PV)):ZJ [.agg h.cells,.int .i64 n,.int .i64 i,.agg t.cells,slV b 4 L]=some [.agg h.cells,.int .i64 n,.int .i64 i,.agg t.cells,slV b 4 L]:=by
 obtain ⟨k,nm,s,tb,kz⟩:=h
 obtain ⟨k',nm',s',tb',kz'⟩:=t
 simp only [Tm.cells]
 have e1:∀ (k:Int) (nm:List UInt8) (s:Int) (tb:Bool) (kz:List Tm),frzG (.agg [.int .i64 k,.str nm,.int .i64 s,slV tb 4 (Za kz)])=some (.agg [.int .i64 k,.str nm,.int .i64 s,slV tb 4 (Za kz)]):=fun k nm s tb kz=>by
  simp only [frzG,XY,ZD];rfl
 simp only [ZJ,Yy,e1]
 rfl
theorem c33 {h : Tm} (hh : h.Ok) (hhs : h.size ≤ 20000) (ht : t.Ok) (hts : t.size ≤ 20000) (hl : ∀ x, x ∈ l → x.Ok ∧ x.size ≤ 20000) (b : Bool) {n i : Int} (hn : (Lit.int .i64 n).wf = true) (hi : (Lit.int .i64 i).wf = true) : ∀ H,
  CallOk E0 Tryz.prog 33 [.agg h.cells,.int .i64 n,.int .i64 i,.agg t.cells,slV b 4 (Za l)] H (.bool (Vv h n i t l)) H:=by
 by_cases hC:n<1∨32<n∨i<0∨n≤i∨32<l.length
 · unfold Vv
   rw [if_pos hC]
   obtain ⟨k,nm,s,tb,kz⟩:=h
   obtain ⟨k',nm',s',tb',kz'⟩:=t
   have hfz:=ZoQ (.mk k nm s tb kz) (.mk k' nm' s' tb' kz') n i b (Za l)
   simp only [Tm.cells] at hfz ⊢
   have hlen:=Zb l
   refine Jw tOk fe33.ok rfl ?_ hfz
   repeat' first|refine Jk ?_|refine Jl ?_|refine Jt ?_|refine Jb ?_ ?_|refine Jo ?_|intro hb
   all_goals first
    | rfl
    | (exfalso;simp only [decide_eq_false_iff_not,hlen] at *;omega)
 · obtain ⟨n', rfl⟩ := Int.eq_ofNat_of_zero_le (show 0 ≤ n by omega)
   obtain ⟨i',rfl⟩:=Int.eq_ofNat_of_zero_le (show 0≤i by omega)
   have e0:∀ R,R=Vg 32 n' i' t (l,false)→Vv h n' i' t l=(!R.2.2&&R.2.1.isEmpty&&decide (R.1.cmp h=0)):=fun R hR=>by
    subst hR
    unfold Vv
    rw [if_neg hC]
    rfl
   obtain ⟨b',hr⟩:=ZqA (n:=n') (i:=i') (by omega) (by omega) (by omega) t l b
   obtain ⟨x1,x2, -⟩:=ZeT (S:=20000) (by omega) ht hts 32 n' i' (p:=(l,false)) hl
   have hr:=hr (.cells 4 [h.cells]) (.cells 4 [t.cells]) (by have:=YP 3 h;simpa [Yw,under] using this) (by have:=YP 3 t;simpa [Yw,under] using this)
   have hs:=fun H=>Zfh (c77 x1 hh (by omega) (by omega) H)
   have hbl:=Zll b l
   have hlen:=Zb l
   have hfz:=ZoQ h t n' i' b (Za l)
   obtain ⟨R,hR⟩:∃ R,R=Vg 32 n' i' t (l,false):=⟨_,rfl⟩
   rw [e0 R hR]
   rw [← hR] at hr hs
   clear x1 x2 e0 hR
   obtain ⟨x,q,f⟩:=R
   unfold prB at hr
   simp only [] at hr hs ⊢
   generalize decide (x.cmp h=0)=D at hs ⊢
   generalize Za l=L at hr hbl hlen hfz ⊢
   have h1:decide ((n':Int)<1)=false:=by simp;omega
   have h2:decide ((32:Int)<(n':Int))=false:=by simp;omega
   have h3:decide ((i':Int)<0)=false:=by simp
   have h4:decide ((n':Int)≤(i':Int))=false:=by simp;omega
   have h5:decide ((32:Int)<(L.length:Int))=false:=by simp;omega
   obtain ⟨k,nm,s,tb,kz⟩:=h
   obtain ⟨k',nm',s',tb',kz'⟩:=t
   obtain ⟨k2,nm2,s2,tb2,kz2⟩:=x
   simp only [Tm.cells] at hr hs hfz ⊢
   cases q with
   | nil =>
     simp only [Za] at hr
     cases b'<;>cases f<;>simp only [Zq,Yd] at hr<;>cases D
     all_goals
      refine Zef ?_
      refine Jw WF fe33.ok rfl ?_ hfz
      repeat' first|refine Jk ?_|refine Jc hr ?_|refine Jc (hs _) ?_|(apply qBd;rfl;rfl;rfl;assumption;exact IsV.aggN)|refine Jl ?_|refine Jt ?_|refine Jb ?_ ?_|refine Jo ?_|intro hb
     all_goals first
      | rfl
      | (exfalso;clear h1 h2 h3 h4 hr hs;simp only [decide_eq_true_eq,decide_eq_false_iff_not] at *;omega)
      | (exfalso;clear hbl hfz hr hs;simp_all;done)
   | cons c r =>
     simp only [Za,Zw] at hr
     generalize Za r=L' at hr
     generalize c.cells=C at hr
     have h6:(((L'.length+1:Nat):Int)==0)=false:=by simp;omega
     cases f
     all_goals
      refine Zef ?_
      refine Jw WF fe33.ok rfl ?_ hfz
      repeat' first|refine Jk ?_|refine Jc hr ?_|(apply qBd;rfl;rfl;rfl;assumption;exact IsV.aggN)|refine Jl ?_|refine Jt ?_|refine Jb ?_ ?_|refine Jo ?_|intro hb
     all_goals first
      | rfl
      | (exfalso;clear h1 h2 h3 h4 hr hs;simp only [decide_eq_true_eq,decide_eq_false_iff_not] at *;omega)
      | (exfalso;clear hbl hfz hr hs;simp_all;done)
