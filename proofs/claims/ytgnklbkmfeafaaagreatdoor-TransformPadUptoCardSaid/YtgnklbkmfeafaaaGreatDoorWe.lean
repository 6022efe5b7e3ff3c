/-
  Padding: the program's text.
-/
import Derived.Test.YtgnklbkmfeafaaaGreatDoorWb
set_option maxHeartbeats 0
set_option maxRecDepth 100000
namespace Go.Vm
def Zd3 (fr:List Fr) (w:Zg):Bool:=fr.any fun f=>decide (f.name=w)
theorem Zhb (fr:List Fr) (w:Zg):Zd3 fr w=ZP (fr.map (·.name)) w:=by simp [Zd3,ZP,List.any_map,Function.comp_def]
def ZcU (w:Zg):List Fr→Int→Int
 | [],_=> -1
 |f::r,i=>if f.name=w then i else ZcU w r (i+1)
theorem Zdv {w:Zg} {l:List Fr} {i:Nat} {f:Fr} (h:l[i]? = some f):ZcU w (l.drop i) i=if f.name=w then (i:Int) else ZcU w (l.drop (i+1)) ((i+1:Nat):Int):=by
 rw [Zs h];rfl
theorem Za6 (w:Zg):∀ (l:List Fr) (i:Int),0≤i→decide (0≤ZcU w l i)=Zd3 l w
 | [],i,h=>rfl
 | f :: r, i, h => by
   have e:ZcU w (f::r) i=if f.name=w then i else ZcU w r (i+1):=rfl
   rw [e,show Zd3 (f::r) w=(decide (f.name=w)||Zd3 r w) from rfl]
   clear e
   by_cases c:f.name=w
   · rw [if_pos c,decide_eq_true c,decide_eq_true h];rfl
   · rw [if_neg c, decide_eq_false c, Bool.false_or]
     exact Za6 w r (i+1) (by omega)
theorem Za3 (N:List Zg) (m:Nat) (w:Zg) (h:ZP N w=true) (hm:0<m):nnW N m w=nnW N (m-1) (w++ [95]):=by
 obtain ⟨k,rfl⟩:∃ k,m=k+1:=⟨m-1,by omega⟩
 rw [nnW,if_pos h];rfl
theorem Zdo (N:List Zg) (m:Nat) (w:Zg) (h:ZP N w=false):nnW N m w=w:=by
 cases m with
 |zero=>rfl
 |succ k=>rw [nnW,if_neg (by rw [h];simp)]
end Go.Vm
namespace Go.Vm.Seat
variable {B0:Box} {l:List Fr} {n:Na}
open Go.Proofs
abbrev hUs (B0:Box) (w:Zg):Heap:=⟨[B0,.cells 1 [[.str w]]],0,[],0⟩
theorem ZjA (hB:ZS 2 B0=true) (x:Fr) (w:Zg):CallOk E0 Tryz.prog 111 [.agg x.cells,.ptr 1 1 0 0] (hUs B0 w) (.bool (decide (x.name=w))) (hUs B0 w):=by
 have he:=YR x.name w
 generalize decide (x.name=w)=A at he ⊢
 obtain ⟨r,nm,s⟩:=x
 have hb:[B0,Box.cells 1 [[.str w]]].all (ZS 2)=true:=by
  simp only [List.all_cons,List.all_nil,hB];rfl
 refine UA (own:=fun _=>false) tOk fe111.ok ?_
 refine Wp.seq ?_
 cases A
 all_goals
  repeat' first|refine Ji ?_|refine Jt ?_|refine Jb ?_ ?_|refine Jo ?_|intro hb
  exact DropF.ret [(3,_)] ⟨rfl,trivial⟩ rfl rfl hb (RetE.ret rfl rfl rfl)
theorem Zkc (hB : ZS 2 B0 = true) (hlen : l.length ≤ 1000) (b : Bool) (w : Zg) :
  CallOk E0 Tryz.prog 136 [slV b 3 (frC l),.fn 111 [.ptr 1 1 0 0]] (hUs B0 w) (.int .i64 (ZcU w l 0)) (hUs B0 w):=by
 have e2:=Y9 l
 refine Zy (own:=fun _=>false) tOk fe136.ok ?_
 refine Wp.seq ?_
 repeat' first|refine Ji ?_|refine JJ ?_|refine Jl ?_|refine Jx ?_|refine Jt ?_|refine Jb ?_ ?_|(apply qT (ty:=0);rfl;rfl;rfl)|(apply qF (ty:=0);rfl;rfl;rfl)|refine Jz ?_ ?_|refine Jo ?_|intro hb
 refine Wp.while (fun m tm H=>∃ (i:Nat) (base:TM),i+m=l.length∧ZcU w l 0=ZcU w (l.drop i) i∧tm=ovr base [(0,slV b 3 (frC l)),(1,.fn 111 [.ptr 1 1 0 0]),(7,.int .i64 ((frC l).length:Int)),(8,.int .i64 (i:Int))]∧H=hUs B0 w)
  (fun m tm H hI=>?_) l.length _ _ ⟨0,_,by omega,by simp,Ze ⟨rfl,rfl,rfl,rfl,trivial⟩,rfl⟩
 obtain ⟨i,base,hi,hgo,rfl,rfl⟩:=hI
 rw [hgo]
 have hlx:=Zk (i:Int) ((frC l).length:Int)
 by_cases hlt:i<l.length
 · rw [decide_eq_true (by omega)] at hlx
   obtain ⟨x,hx⟩:∃ x,l[i]? = some x:=⟨l[i],by simp⟩
   have hj:=XV hx
   have hii:=Zw (a:=(i:Int)) (b:=1) (by omega) (by omega)
   rw [show (i:Int)+1=((i+1:Nat):Int) by omega] at hii
   have hc:=ZjA hB x w
   rw [Zdv hx]
   by_cases c:x.name=w
   · rw [decide_eq_true c] at hc
     rw [if_pos c]
     obtain ⟨xr,xn,xs⟩:=x
     simp only [Fr.cells] at hc
     repeat' first|refine Jc hc ?_|refine Ji ?_|refine JJ ?_|refine Jl ?_|refine Jx ?_|refine Jt ?_|refine Jb ?_ ?_|(apply qT (ty:=0);rfl;rfl;rfl)|(apply qF (ty:=0);rfl;rfl;rfl)|refine Jz ?_ ?_|refine Jo ?_|intro hb
     all_goals exact RetE.ret rfl rfl rfl
   · rw [decide_eq_false c] at hc
     rw [if_neg c]
     obtain ⟨xr,xn,xs⟩:=x
     simp only [Fr.cells] at hc
     repeat' first|refine Jc hc ?_|refine Ji ?_|refine JJ ?_|refine Jl ?_|refine Jx ?_|refine Jt ?_|refine Jb ?_ ?_|(apply qT (ty:=0);rfl;rfl;rfl)|(apply qF (ty:=0);rfl;rfl;rfl)|refine Jz ?_ ?_|refine Jo ?_|intro hb
     exact LoopI.go (m-1) (by omega) ⟨i+1,_,by omega,rfl,Ze ⟨rfl,rfl,rfl,rfl,trivial⟩,rfl⟩
 · have e : i = l.length := by omega
   subst e
   rw [decide_eq_false (by omega)] at hlx
   rw [List.drop_length]
   repeat' first|refine Ji ?_|refine JJ ?_|refine Jl ?_|refine Jx ?_|refine Jt ?_|refine Jb ?_ ?_|(apply qT (ty:=0);rfl;rfl;rfl)|(apply qF (ty:=0);rfl;rfl;rfl)|refine Jz ?_ ?_|refine Jo ?_|intro hb
   all_goals exact RetE.ret rfl rfl rfl
theorem ZjB (hB : ZS 2 B0 = true) (hlen : l.length ≤ 1000) (b : Bool) (w : Zg) :
  CallOk E0 Tryz.prog 110 [slV b 3 (frC l),.fn 111 [.ptr 1 1 0 0]] (hUs B0 w) (.bool (Zd3 l w)) (hUs B0 w):=by
 have hc:=Zkc hB hlen b w
 have hg:=VX (ZcU w l 0) 0
 rw [Za6 w l 0 (by omega)] at hg
 generalize ZcU w l 0=F at hc hg
 generalize Zd3 l w=A at hg ⊢
 refine Zy (own:=fun _=>false) tOk fe110.ok ?_
 refine Wp.seq ?_
 cases A
 all_goals
  repeat' first|refine Jc hc ?_|refine Ji ?_|refine Jt ?_|refine Jb ?_ ?_|refine Jo ?_|intro hb
  all_goals exact RetE.ret rfl rfl rfl
theorem c71 (h:n.Sm) (w:Zg):∀ H,CallOk E0 Tryz.prog 71 [.agg n.cells,.str w] H (.bool (ZP n.nms w)) H:=by
 have k1:=ZeQ (l:=n.roles) (Nat.le_trans h.rl (by decide)) w n.rn
 have k2:=ZeQ (l:=n.tags) (Nat.le_trans h.tl (by decide)) w n.tn
 have k3:=ZjB (B0:=naB n.name n.rn n.roles n.fn n.fresh n.tn n.tags n.sn n.steps n.gn n.goals) (Ws _ _ _ _ _ _ _ _ _ _ _ _) (l:=n.fresh) (Nat.le_trans h.fl (by decide)) n.fn w
 have e:ZP n.nms w=(ZP n.roles w||(Zd3 n.fresh w||ZP n.tags w)):=by rw [Na.nms,XH,XH,Zhb]
 rw [e]
 clear e h
 generalize ZP n.roles w=A at k1 ⊢
 generalize ZP n.tags w=C at k2 ⊢
 generalize Zd3 n.fresh w=D at k3 ⊢
 obtain ⟨nm,rn,rs,fn,fr,tn,ts,sn,ss,gn,gs⟩:=n
 simp only [Na.cells] at k1 k2 k3 ⊢
 refine Jw tOk fe71.ok rfl ?_ (by simp only [Zv,Zl];rfl)
 cases A<;>cases C<;>cases D
 all_goals
  repeat' first|refine Jk ?_|(apply qCl;rfl;rfl;rfl;rfl;first|exact k1 _|exact k2 _|exact k3)|refine Ji ?_|refine Jt ?_|refine Jb ?_ ?_|refine Jo ?_|intro hb
  all_goals rfl
theorem c27 (h:n.Sm) (hN:∀ s,s∈n.nms→s.length≤60) {w:Zg} (hw:w.length≤61):∀ H,CallOk E0 Tryz.prog 27 [.agg n.cells,.str w] H (.str (nnF n.nms w)) H:=by
 have k1:=c71 h
 clear h
 generalize n.nms=N at k1 hN ⊢
 obtain ⟨nm,rn,rs,fn,fr,tn,ts,sn,ss,gn,gs⟩:=n
 simp only [Na.cells] at k1 ⊢
 refine Jw tOk fe27.ok rfl ?_ (by simp only [Zv,Zl];rfl)
 repeat' first|refine Ji ?_|refine Jt ?_|refine Jb ?_ ?_|refine Jo ?_|intro hb
 refine Wp.while (fun m tm H=>∃ (cur:Zg) (base:TM),cur.length+m=61∧nnF N w=nnW N m cur∧tm=ovr base [(1,.str cur),(2,.ptr 0 6 0 0)]∧H=⟨[naB nm rn rs fn fr tn ts sn ss gn gs],0,[],0⟩)
  (fun m tm H hI=>?_) (61-w.length) _ _ ⟨w,_,by omega,rfl,Ze ⟨rfl,rfl,trivial⟩,rfl⟩
 obtain ⟨cur,base,hi,hgo,rfl,rfl⟩:=hI
 rw [hgo]
 have k2:=k1 cur
 have ha:=Zch (a:=cur) (b:=[95]) (by simp;omega)
 cases hA:ZP N cur with
 | true =>
   have hl:=hN cur (UJ.1 hA)
   rw [hA] at k2
   rw [Za3 N m cur hA (by omega)]
   repeat' first|refine Jc (k2 _) ?_|refine Ji ?_|refine Jt ?_|refine Jb ?_ ?_|refine Jo ?_|intro hb
   exact LoopI.go (m-1) (by omega) ⟨cur++ [95],_,by simp;omega,rfl,Ze ⟨rfl,rfl,trivial⟩,rfl⟩
 | false =>
   rw [hA] at k2
   rw [Zdo N m cur hA]
   repeat' first|refine Jc (k2 _) ?_|refine Ji ?_|refine Jt ?_|refine Jb ?_ ?_|refine Jo ?_|intro hb
   all_goals rfl
theorem c41 (h:n.Sm) (step:Int):∀ H,CallOk E0 Tryz.prog 41 [.agg n.cells,.int .i64 step] H (.int .i64 (n.inE step)) H:=by
 have k1:=c25 h
 clear h
 rw [Na.inE]
 have n1:=ZK n.chk.2 0
 have l1:=Zk step 0
 have e4:=ZV n.steps
 have g2:=VX step ((spC n.steps).length:Int)
 generalize n.chk.2=e at k1 n1 ⊢
 generalize n.chk.1=ln at k1
 obtain ⟨nm,rn,rs,fn,fr,tn,ts,sn,ss,gn,gs⟩:=n
 simp only [Na.cells] at k1 e4 g2 ⊢
 rw [← e4]
 refine Jw tOk fe41.ok rfl ?_ (by simp only [Zv,Zl];rfl)
 by_cases c:e=0
 · rw [decide_eq_true c] at n1
   rw [if_neg (show ¬ e≠0 by omega)]
   by_cases c1:step<0
   · rw [decide_eq_true c1] at l1
     rw [if_pos (.inl c1)]
     repeat' first|refine Jk ?_|refine Jc (k1 _) ?_|refine Ji ?_|refine Jl ?_|refine Jt ?_|refine Jb ?_ ?_|refine Jo ?_|intro hb
     all_goals rfl
   · rw [decide_eq_false c1] at l1
     by_cases c2:((spC ss).length:Int)≤step
     · rw [decide_eq_true c2] at g2
       rw [if_pos (.inr c2)]
       repeat' first|refine Jk ?_|refine Jc (k1 _) ?_|refine Ji ?_|refine Jl ?_|refine Jt ?_|refine Jb ?_ ?_|refine Jo ?_|intro hb
       all_goals rfl
     · rw [decide_eq_false c2] at g2
       rw [if_neg (fun h=>h.elim c1 c2)]
       repeat' first|refine Jk ?_|refine Jc (k1 _) ?_|refine Ji ?_|refine Jl ?_|refine Jt ?_|refine Jb ?_ ?_|refine Jo ?_|intro hb
       all_goals rfl
 · rw [decide_eq_false c] at n1
   rw [if_pos c]
   repeat' first|refine Jk ?_|refine Jc (k1 _) ?_|refine Ji ?_|refine Jl ?_|refine Jt ?_|refine Jb ?_ ?_|refine Jo ?_|intro hb
   all_goals rfl
end Go.Vm.Seat
namespace Go.Vm
variable {n:Na} {H:Heap}
structure Na.Ti (n:Na):Prop where
 sm:n.Sm
 fl:n.fresh.length≤20
 tl:n.tags.length≤20
 sl:n.steps.length≤20
 ms:∀ s,s∈n.steps→s.msg.size≤100
theorem Qc {s:Zg} (h:Yw s=true):s.length≤24:=by
 rw [Yw,Bool.and_eq_true] at h
 cases s with
 |nil=>simp
 | cons c r =>
   have h1:=h.1
   rw [Wx,Bool.and_eq_true] at h1
   exact of_decide_eq_true h1.1
theorem Ze1 (h:n.chk.2=0):n.syn=0:=by
 by_cases c:n.syn=0
 · exact c
 · rw [Zae c] at h;exact absurd h c
theorem ZbJ (h:n.syn=0):n.head=0:=by
 unfold Na.syn at h
 split at h
 · contradiction
 · rename_i h1;simpa using h1
theorem QL (h:n.head=0):Yw n.name=true∧n.nums=0∧n.roles.all Yw=true∧Zn Fr.err n.fresh=0∧n.tags.all Yw=true:=by
 unfold Na.head at h
 split at h
 · contradiction
 rename_i h1
 split at h
 · contradiction
 rename_i h2
 split at h
 · contradiction
 rename_i h3
 split at h
 · contradiction
 rename_i h4
 split at h
 · contradiction
 rename_i h5
 exact ⟨by simpa using h1,by simpa using h2,by simpa using h3,by simpa using h4,by simpa using h5⟩
theorem Zeb {l:List Fr} (h:Zn Fr.err l=0):∀ f,f∈l→Yw f.name=true:=fun f hf=>by
 have:=V7 h f hf
 unfold Fr.err at this
 split at this
 · contradiction
 · rename_i h1
   cases h2:Yw f.name with
   | true=>rfl
   | false=>exact absurd (.inr h2) h1
theorem VE (h:n.chk.2=0):∀ s,s∈n.nms→s.length≤24:=by
 obtain ⟨-, -,h1,h2,h3⟩:=QL (ZbJ (Ze1 h))
 intro s hs
 rcases List.mem_append.1 hs with hs|hs
 · exact Qc (List.all_eq_true.1 h1 s hs)
 rcases List.mem_append.1 hs with hs|hs
 · obtain ⟨f, hf, rfl⟩ := List.mem_map.1 hs
   exact Qc (Zeb h2 f hf)
 · exact Qc (List.all_eq_true.1 h3 s hs)
theorem Zc3 (h:n.chk.2=0):n.steps≠ []∧2≤n.roles.length:=by
 obtain ⟨-,h1, -⟩:=QL (ZbJ (Ze1 h))
 unfold Na.nums at h1
 split at h1
 · contradiction
 rename_i h2
 split at h1
 · contradiction
 split at h1
 · contradiction
 rename_i h3
 exact ⟨fun e=>h3 (by rw [e];rfl),by omega⟩
theorem Zam {N:List Zg} {w:Zg} (hN:∀ s,s∈N→s.length≤60) (hw:w.length≤61):(nnF N w).length≤61:=by
 have:=(ZdN N hN (61-w.length) w).1
 rw [nnF]
 omega
theorem ZcI {l:List Zg} (h:l≠ []) (b:Bool):slV b 1 (Zo l)= .sl .none 1 (Zo l):=by
 cases l with
 |nil=>exact absurd rfl h
 |cons x r=>exact ZC _ _ _ _
theorem ZaU {id es:Nat} {L:List (List PV)} (hb:nth H.bx id=some (.cells es L)) (hf:YS L=some L):frzC 0 H (.own id es 0 L.length)=some (.sl .none es L):=by
 have h1:((L.drop 0).take L.length)=L:=by rw [List.drop_zero,List.take_length]
 simp only [frzC,Nat.not_lt_zero,if_false,hb,true_and,Nat.zero_add,Nat.le_refl,if_true,h1,hf]
theorem ZgN {oF oT gv : PV} {lv : List Nat} {nt : Nat} (hF : ApV n.fn 3 (frC n.fresh) oF lv nt) {tn : Bool} (hT : ApV tn 1 (Zo n.tags) oT lv nt) (hTn : tn = n.tn ∨ n.tags ≠ []) (hS : nth H.bx 4 = some (.cells 7 (spC n.steps))) (hne : n.steps ≠ [])
  (hG:(n.goals= []∧gv=slV n.gn 5 (glC n.goals))∨(n.goals≠ []∧gv= .own 5 5 0 (glC n.goals).length∧nth H.bx 5=some (.cells 5 (glC n.goals)))) :
  YT 0 H [.str n.name,slV n.rn 1 (Zo n.roles),oF,oT,.own 4 7 0 (spC n.steps).length,gv]=some n.cells:=by
 have hs:=ZaU hS (ZbK n.steps)
 have hg:frzC 0 H gv=some (slV n.gn 5 (glC n.goals)):=by
  rcases hG with ⟨_,rfl⟩|⟨h1,rfl,h2⟩
  · exact YY _ _ _ _ _
  · rw [ZaU h2 (ZbC n.goals),Zfd h1]
 have ht:frzC 0 H oT=some (slV n.tn 1 (Zo n.tags)):=by
  rw [hT.frzC]
  rcases hTn with rfl|h
  · rfl
  · rw [ZcI h,ZcI h]
 simp only [YT,YY,hF.frzC,ht,hs,hg,Na.cells,Zdc hne]
 rfl
end Go.Vm
namespace Go.Vm.Seat
open Go.Proofs
theorem X2 (m:Nat) (H:Heap) (k:Int) (nm:Zg) (s:Int) (b:Bool) (l:List (List PV)):frz3 m H (.agg [.int .i64 k,.str nm,.int .i64 s,slV b 4 l])=some (.agg [.int .i64 k,.str nm,.int .i64 s,slV b 4 l]):=by
 show (match YT m H [.int .i64 k,.str nm,.int .i64 s,slV b 4 l] with|some cs'=>some (PV.agg cs')|none=>none)=_
 simp only [YT,YY]
 rfl
theorem c30 (s:Zg):∀ H,CallOk E0 Tryz.prog 30 [.str s] H (.agg (atT s).cells) H:=by
 simp only [atT,Tm.cells,Zb,Zq]
 refine Jw tOk fe30.ok rfl ?_
 repeat' first|refine Jo ?_|intro hb
 all_goals rfl
theorem ZhH (f:Zg) (b:Bool) (l:List Tm):UC E0 49 [(0,.int .i64 3),(1,.str f),(3,slV b 4 (Zb l))]=some (.agg [.int .i64 3,.str f,.int .i64 0,slV b 4 (Zb l)]):=by
 cases h:Zb l with
 | nil => cases b
          · rw [Zu];rfl
          · rw [Zq];rfl
 |cons a r=>rw [ZC];rfl
theorem c29 (f:Zg) (b:Bool) (l:List Tm):∀ H,CallOk E0 Tryz.prog 29 [.str f,slV b 4 (Zb l)] H (.agg [.int .i64 3,.str f,.int .i64 0,slV b 4 (Zb l)]) H:=by
 have hbd:=ZhH f b l
 obtain ⟨q1,q2⟩:=Zz b 4 (Zb l)
 have q3:[PV.int .i64 3,.str f,.int .i64 0,slV b 4 (Zb l)].all Zr=true:=by
  simp only [List.all_cons,List.all_nil,Bool.and_true] at q2 ⊢
  rw [q2];rfl
 refine Jw tOk fe29.ok (X2 _ _ _ _ _ _ _) ?_
 repeat' first|(apply qBd;rfl;rfl;rfl;assumption;exact IsV.aggN)|refine Jo ?_|intro hb
 all_goals exact X2 _ _ _ _ _ _ _
theorem ZjX (f:Zg) (x y:Tm):∀ H,CallOk E0 Tryz.prog 29 [.str f,.sl .full 4 [x.cells,y.cells]] H (.agg (apT f [x,y]).cells) H:=fun H=>by
 have h:=c29 f true [x,y] H
 obtain ⟨k,m,s,b,kz⟩:=x
 obtain ⟨k',m',s',b',kz'⟩:=y
 simp only [apT,Tm.cells,Zb,ZC] at h ⊢
 exact X1 h rfl
end Go.Vm.Seat
namespace Go.Vm
variable {s:Sp} {n:Na} {i:Nat}
theorem Yn:Na.none.cells= [.str [],.nils,.nils,.nils,.nils,.nils]:=by
 simp [Na.none,Na.cells,Zo,frC,spC,glC,Zq]
theorem WR (t:Zg):∀ k,(Wu (atT t) k).size=2*k+1
 |0=>by simp [Wu,atT,Tm.size,ZZ]
 | k + 1 => by
   have:=WR t k
   simp only [Wu,apT,Tm.size,ZZ,this]
   simp [atT,Tm.size,ZZ]
   omega
theorem ZbF {f:Zg} {l:List Tm} (hf:f.length≤1000) (hl:l.length≤1000) (h:∀ t,t∈l→t.Ok):(apT f l).Ok:=
 .mk (by decide) (by decide) (Nat.le_trans hf (by decide)) (Nat.le_trans hl (by decide)) h
theorem Zfe {s:Zg} (hs:s.length≤1000):(atT s).Ok:= .mk (by decide) (by decide) (Nat.le_trans hs (by decide)) (by simp) (by simp)
theorem Qd {s:Zg} (hs:s.length≤1000):∀ k,(Wu (atT s) k).Ok
 |0=>Zfe hs
 | k + 1 => ZbF (by decide) (by simp) fun t ht => by
   rcases List.mem_cons.1 ht with rfl|ht
   · exact Zfe hs
   · rw [List.mem_singleton.1 ht];exact Qd hs k
theorem ZaD (h:n.Sm) (hl:n.tags.length≤30) {t:Zg} (ht:t.length≤100):(n.with t).Sm where
 nm:=h.nm
 rl:=h.rl
 fl:=h.fl
 tl:=by simp [Na.with];omega
 sl:=h.sl
 gl:=h.gl
 rs:=h.rs
 fs:=h.fs
 ts:=fun s hs=>by
  rcases List.mem_append.1 (show s∈n.tags++ [t] from hs) with hs|hs
  · exact h.ts s hs
  · rw [List.mem_singleton.1 hs];omega
 ss:=h.ss
 gs:=h.gs
theorem Uz (h:n.steps[i]? = some s) (m:Tm):(n.repl i m).steps=n.steps.set i {s with msg:=m}:=by
 simp [Na.repl,h]
theorem Zfq {α:Type} {l:List α} {x y:α} (h:y∈l.set i x):y∈l∨y=x:=by
 rcases List.mem_or_eq_of_mem_set h with h|h
 · exact .inl h
 · exact .inr h
theorem ZaG (h:n.Sm) (hs:n.steps[i]? = some s) {m:Tm} (hm:m.Ok) (hz:m.size≤400):(n.repl i m).Sm where
 nm:=h.nm
 rl:=h.rl
 fl:=h.fl
 tl:=h.tl
 sl:=by rw [Uz hs,List.length_set];exact h.sl
 gl:=h.gl
 rs:=h.rs
 fs:=h.fs
 ts:=h.ts
 ss:=fun x hx=>by
  rw [Uz hs] at hx
  rcases Zfq hx with hx|rfl
  · exact h.ss x hx
  · have := h.ss s (List.mem_of_getElem? hs)
    exact ⟨this.1,this.2.1,hm,hz⟩
 gs:=h.gs
theorem ZcY (h:n.steps[i]? = some s) (m:Tm):n.repl i m={n with steps:=n.steps.set i {s with msg:=m}}:=by
 simp [Na.repl,h]
theorem Zf3 (l:List Sp) (i:Nat) (x:Sp):(spC l).set i x.cells=spC (l.set i x):=by simp [spC,List.map_set]
end Go.Vm
namespace Go.Vm.Seat
variable {H:Heap} {C:List PV} {n:Na}
open Go.Proofs
abbrev zB:Box:= .cells 6 [[.str [],.nils,.nils,.nils,.nils,.nils]]
theorem Zdf (h:YT 0 H C=some n.cells):XN 0 H [.agg C]=some [.agg n.cells]:=by
 have:frz2 0 H (.agg C)=some (.agg n.cells):=by
  show (match YT 0 H C with|some cs'=>some (PV.agg cs')|none=>none)=_
  rw [h]
 simp only [XN,this]
theorem Zdm {e:Int} (h:YT 0 H C=some n.cells):frz3 0 H (.tup [.agg C,.int .i64 e])=some (.tup [.agg n.cells,.int .i64 e]):=by
 have:=Zdf h
 rw [YU]
 simp only [XN] at this ⊢
 cases h2:frz2 0 H (.agg C) with
 |none=>rw [h2] at this;cases this
 | some v =>
   rw [h2] at this
   simp only [Option.some.injEq,List.cons.injEq,and_true] at this
   subst this
   rfl
theorem ZiV (h : n.Sm) {oF oT sv gv : PV} {B0 B1 B2 B3 B4 B5 B6 B7 : Box} {lv : List Nat} {nt : Nat} (hok : [PV.str n.name, slV n.rn 1 (Zo n.roles), oF, oT, sv, gv].all Zr = true)
  (hf:∀ ex,YT 0 ⟨[B0,B1,B2,B3,B4,B5,B6,B7]++ex,0,lv,nt⟩ [.str n.name,slV n.rn 1 (Zo n.roles),oF,oT,sv,gv]=some n.cells) :
  CallOk E0 Tryz.prog 31 [.agg [.str n.name,slV n.rn 1 (Zo n.roles),oF,oT,sv,gv]] ⟨[B0,B1,B2,B3,B4,B5,B6,B7],0,lv,nt⟩
   (if n.chk.2=0 then .tup [.agg [.str n.name,slV n.rn 1 (Zo n.roles),oF,oT,sv,gv],.int .i64 0] else .tup [.agg Na.none.cells,.int .i64 n.chk.2])
   ⟨[B0,B1,B2,B3,B4,B5,B6,B7,cpB n.name (slV n.rn 1 (Zo n.roles)) oF oT sv gv,if n.chk.2=0 then cpB n.name (slV n.rn 1 (Zo n.roles)) oF oT sv gv else zB],0,lv,nt⟩:=by
 have hck:=Zad (c25 h hNil) (Zdf (hf [cpB n.name (slV n.rn 1 (Zo n.roles)) oF oT sv gv,zB])) rfl
 rw [Yn]
 clear hf h
 have n1:=ZK n.chk.2 0
 generalize n.chk.2=e at hck n1 ⊢
 generalize n.chk.1=ln at hck
 generalize slV n.rn 1 (Zo n.roles)=R at hok hck ⊢
 by_cases c:e=0
 · rw [decide_eq_true c] at n1
   subst c
   rw [if_pos rfl,if_pos rfl]
   refine Zy (own:=fun _=>false) tOk fe31.ok ?_
   refine Wp.seq ?_
   repeat' first|refine Jc hck ?_|refine Ji ?_|refine Jt ?_|refine Jb ?_ ?_|refine Jo ?_|intro hb
   all_goals exact RetE.ret rfl rfl rfl
 · rw [decide_eq_false c] at n1
   rw [if_neg c,if_neg c]
   refine Zy (own:=fun _=>false) tOk fe31.ok ?_
   refine Wp.seq ?_
   repeat' first|refine Jc hck ?_|refine Ji ?_|refine Jt ?_|refine Jb ?_ ?_|refine Jo ?_|intro hb
   all_goals exact RetE.ret rfl rfl rfl
