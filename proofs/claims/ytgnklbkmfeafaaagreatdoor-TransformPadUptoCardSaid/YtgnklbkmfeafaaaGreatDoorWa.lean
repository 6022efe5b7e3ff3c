/-
  slices.Clone at the parts of a narration: frozen, in rooms, in boxes.
-/
import Derived.Test.YtgnklbkmfeafaaaGreatDoorUu
set_option maxHeartbeats 0
set_option maxRecDepth 100000
namespace Go.Vm.Seat
open Go.Proofs
theorem c73 {n:Na} (h:n.Sm):∀ H,CallOk E0 Tryz.prog 73 [.agg n.cells] H (.tup [.int .i64 n.chk.1,.int .i64 n.chk.2]) H:=by
 have cV:=c56 h
 have cD:=Zjx h
 have cT:=fun {s:Sp} (hs:s∈n.steps)=>Zj8 h (h.ss s hs).2.2.1
 have cG:=fun {g:Gl} (hg:g∈n.goals)=>Zi3 h (Nat.le_trans (h.gs g hg).2.2.1 (by decide)) (fun t ht=>((h.gs g hg).2.2.2 t ht).1)
 have hsl:=h.sl
 have hgl:=h.gl
 clear h
 have n1:=ZK n.syn 0
 have n2:=ZK n.dec 0
 have k1:n.syn≠0→n.chk=(0,n.syn):=Zae
 have k2:n.syn=0→n.dec≠0→n.chk=(0,n.dec):=ZcX
 have k3:n.syn=0→n.dec=0→n.chk=if (YK (Sp.sce n.roles n.nms) (·.line) n.steps).2≠0 then YK (Sp.sce n.roles n.nms) (·.line) n.steps else YK (Gl.sce n.roles n.nms) (·.line) n.goals:=ZeZ
 generalize n.chk=C at k1 k2 k3 ⊢
 generalize n.syn=e at cV n1 k1 k2 k3
 generalize n.dec=e2 at cD n2 k2 k3
 generalize n.nms=N at k3 cT cG
 obtain ⟨R,hRe⟩:∃ R,R=n.roles:=⟨_,rfl⟩
 rw [← hRe] at cT cG k3
 clear hRe
 obtain ⟨nm,rn,rs,fn,fr,tn,ts,sn,ss,gn,gs⟩:=n
 simp only [Na.cells] at cV cD cT cG hsl hgl k3 ⊢
 have e4:=ZV ss
 have e5:=YJ gs
 refine Jw tOk fe73.ok rfl ?_ (by simp only [Zv,Zl])
 by_cases d1:e=0
 case neg=>
  rw [decide_eq_false d1] at n1
  rw [k1 d1]
  clear k1 k2 k3
  repeat' first|refine Jc (cV _) ?_|refine Ji ?_|refine JJ ?_|refine Jl ?_|refine Jx ?_|refine Jt ?_|refine Jb ?_ ?_|refine Jo ?_|refine Jd (cV _) ?_|refine JD ?_|refine JK ?_|(apply dLn;rfl;rfl;rfl;rfl;rfl)|refine JI ?_|(apply dT (ty:=4);rfl;rfl;rfl;rfl)|(apply dF (ty:=4);rfl;rfl;rfl;rfl)|(apply dB (ty:=4);rfl;rfl;rfl;rfl)|refine Jh ?_|(apply Wp.draw tOk follows;kernel_rfl)|intro hb
  all_goals rfl
 rw [decide_eq_true d1] at n1
 by_cases d2:e2=0
 case neg=>
  rw [decide_eq_false d2] at n2
  rw [k2 d1 d2]
  clear k1 k2 k3
  repeat' first|refine Jc (cV _) ?_|refine Jc (cD _) ?_|refine Ji ?_|refine JJ ?_|refine Jl ?_|refine Jx ?_|refine Jt ?_|refine Jb ?_ ?_|refine Jo ?_|refine Jd (cV _) ?_|refine Jd (cD _) ?_|refine JD ?_|refine JK ?_|(apply dLn;rfl;rfl;rfl;rfl;rfl)|refine JI ?_|(apply dT (ty:=4);rfl;rfl;rfl;rfl)|(apply dF (ty:=4);rfl;rfl;rfl;rfl)|(apply dB (ty:=4);rfl;rfl;rfl;rfl)|refine Jh ?_|(apply Wp.draw tOk follows;kernel_rfl)|intro hb
  all_goals rfl
 rw [decide_eq_true d2] at n2
 rw [k3 d1 d2]
 clear k1 k2 k3
 repeat' first|refine Jc (cV _) ?_|refine Jc (cD _) ?_|refine Ji ?_|refine JJ ?_|refine Jl ?_|refine Jx ?_|refine Jt ?_|refine Jb ?_ ?_|refine Jo ?_|refine Jd (cV _) ?_|refine Jd (cD _) ?_|refine JD ?_|refine JK ?_|(apply dLn;rfl;rfl;rfl;rfl;rfl)|refine JI ?_|(apply dT (ty:=4);rfl;rfl;rfl;rfl)|(apply dF (ty:=4);rfl;rfl;rfl;rfl)|(apply dB (ty:=4);rfl;rfl;rfl;rfl)|refine Jh ?_|(apply Wp.draw tOk follows;kernel_rfl)|intro hb
 clear cV cD n1 n2
 refine Wp.while (fun m2 tm H=>∃ (i:Nat) (base:TM),i+m2=ss.length∧YK (Sp.sce R N) (·.line) ss=YK (Sp.sce R N) (·.line) (ss.drop i)∧tm=ovr base [(1,.ptr 0 6 0 0),(6,.int .i64 (i:Int))]∧H=⟨[naB nm rn rs fn fr tn ts sn ss gn gs],0,[],0⟩)
  (fun m2 tm H hI=>?_) ss.length _ _ ⟨0,_,by omega,by simp,Ze ⟨rfl,rfl,trivial⟩,rfl⟩
 obtain ⟨i,base,hi,hgo,rfl,rfl⟩:=hI
 rw [hgo]
 clear hgo
 have hlx:=Zk (i:Int) ((spC ss).length:Int)
 by_cases hlt:i<ss.length
 · rw [decide_eq_true (by omega)] at hlx
   obtain ⟨x,hx⟩:∃ x,ss[i]? = some x:=⟨ss[i],by simp⟩
   have hj:=Yz hx
   have hii:=Zw (a:=(i:Int)) (b:=1) (by omega) (by omega)
   rw [show (i:Int)+1=((i+1:Nat):Int) by omega] at hii
   have hq:=cT (List.mem_of_getElem? hx)
   rw [X3 hx rfl]
   have n1:=ZK ((Sp.sce R N) x) 0
   generalize (Sp.sce R N) x=e at hq n1 ⊢
   obtain ⟨xf,xt,⟨k',nm',s',b',kz'⟩,xl⟩:=x
   simp only [Sp.cells,Tm.cells,List.cons_append,List.nil_append] at hq hj
   by_cases c1:e=0
   · rw [decide_eq_true c1] at n1
     rw [if_neg (show ¬ (e≠0) by omega)]
     repeat' first|refine Jc (hq _) ?_|refine Ji ?_|refine JJ ?_|refine Jl ?_|refine Jx ?_|refine Jt ?_|refine Jb ?_ ?_|refine Jo ?_|refine Jd (hq _) ?_|refine JD ?_|refine JK ?_|(apply dLn;rfl;rfl;rfl;rfl;rfl)|refine JI ?_|(apply dT (ty:=4);rfl;rfl;rfl;rfl)|(apply dF (ty:=4);rfl;rfl;rfl;rfl)|(apply dB (ty:=4);rfl;rfl;rfl;rfl)|refine Jh ?_|(apply Wp.draw tOk follows;kernel_rfl)|intro hb
     exact LoopI.go (m2-1) (by omega) ⟨i+1,_,by omega,rfl,Ze ⟨rfl,rfl,trivial⟩,rfl⟩
   · rw [decide_eq_false c1] at n1
     rw [if_pos c1]
     rw [if_pos c1]
     repeat' first|refine Jc (hq _) ?_|refine Ji ?_|refine JJ ?_|refine Jl ?_|refine Jx ?_|refine Jt ?_|refine Jb ?_ ?_|refine Jo ?_|refine Jd (hq _) ?_|refine JD ?_|refine JK ?_|(apply dLn;rfl;rfl;rfl;rfl;rfl)|refine JI ?_|(apply dT (ty:=4);rfl;rfl;rfl;rfl)|(apply dF (ty:=4);rfl;rfl;rfl;rfl)|(apply dB (ty:=4);rfl;rfl;rfl;rfl)|refine Jh ?_|(apply Wp.draw tOk follows;kernel_rfl)|intro hb
     all_goals rfl
 have e:i=ss.length:=by omega
 subst e
 rw [decide_eq_false (by omega)] at hlx
 rw [List.drop_length,show YK (Sp.sce R N) (·.line) []=(0,0) from rfl]
 rw [if_neg (by simp)]
 repeat' first|refine Ji ?_|refine JJ ?_|refine Jl ?_|refine Jx ?_|refine Jt ?_|refine Jb ?_ ?_|refine Jo ?_|refine JD ?_|refine JK ?_|(apply dLn;rfl;rfl;rfl;rfl;rfl)|refine JI ?_|(apply dT (ty:=4);rfl;rfl;rfl;rfl)|(apply dF (ty:=4);rfl;rfl;rfl;rfl)|(apply dB (ty:=4);rfl;rfl;rfl;rfl)|refine Jh ?_|(apply Wp.draw tOk follows;kernel_rfl)|intro hb
 clear hlx hi hlt
 refine Wp.while (fun m2 tm H=>∃ (i:Nat) (base:TM),i+m2=gs.length∧YK (Gl.sce R N) (·.line) gs=YK (Gl.sce R N) (·.line) (gs.drop i)∧tm=ovr base [(1,.ptr 0 6 0 0),(8,.int .i64 (i:Int))]∧H=⟨[naB nm rn rs fn fr tn ts sn ss gn gs],0,[],0⟩)
  (fun m2 tm H hI=>?_) gs.length _ _ ⟨0,_,by omega,by simp,Ze ⟨rfl,rfl,trivial⟩,rfl⟩
 obtain ⟨i,base,hi,hgo,rfl,rfl⟩:=hI
 rw [hgo]
 clear hgo
 have hlx:=Zk (i:Int) ((glC gs).length:Int)
 by_cases hlt:i<gs.length
 · rw [decide_eq_true (by omega)] at hlx
   obtain ⟨x,hx⟩:∃ x,gs[i]? = some x:=⟨gs[i],by simp⟩
   have hj:=XI hx
   have hii:=Zw (a:=(i:Int)) (b:=1) (by omega) (by omega)
   rw [show (i:Int)+1=((i+1:Nat):Int) by omega] at hii
   have hq:=cG (List.mem_of_getElem? hx)
   rw [X3 hx rfl]
   have n1:=ZK ((Gl.sce R N) x) 0
   generalize (Gl.sce R N) x=e at hq n1 ⊢
   obtain ⟨xk,xr,xw,xb,xd,xl⟩:=x
   simp only [Gl.cells] at hq hj
   by_cases c1:e=0
   · rw [decide_eq_true c1] at n1
     rw [if_neg (show ¬ (e≠0) by omega)]
     repeat' first|refine Jc (hq _) ?_|refine Ji ?_|refine JJ ?_|refine Jl ?_|refine Jx ?_|refine Jt ?_|refine Jb ?_ ?_|refine Jo ?_|refine Jd (hq _) ?_|refine JD ?_|refine JK ?_|(apply dLn;rfl;rfl;rfl;rfl;rfl)|refine JI ?_|(apply dT (ty:=4);rfl;rfl;rfl;rfl)|(apply dF (ty:=4);rfl;rfl;rfl;rfl)|(apply dB (ty:=4);rfl;rfl;rfl;rfl)|refine Jh ?_|(apply Wp.draw tOk follows;kernel_rfl)|intro hb
     exact LoopI.go (m2-1) (by omega) ⟨i+1,_,by omega,rfl,Ze ⟨rfl,rfl,trivial⟩,rfl⟩
   · rw [decide_eq_false c1] at n1
     rw [if_pos c1]
     skip
     repeat' first|refine Jc (hq _) ?_|refine Ji ?_|refine JJ ?_|refine Jl ?_|refine Jx ?_|refine Jt ?_|refine Jb ?_ ?_|refine Jo ?_|refine Jd (hq _) ?_|refine JD ?_|refine JK ?_|(apply dLn;rfl;rfl;rfl;rfl;rfl)|refine JI ?_|(apply dT (ty:=4);rfl;rfl;rfl;rfl)|(apply dF (ty:=4);rfl;rfl;rfl;rfl)|(apply dB (ty:=4);rfl;rfl;rfl;rfl)|refine Jh ?_|(apply Wp.draw tOk follows;kernel_rfl)|intro hb
     all_goals rfl
 have e:i=gs.length:=by omega
 subst e
 rw [decide_eq_false (by omega)] at hlx
 rw [List.drop_length,show YK (Gl.sce R N) (·.line) []=(0,0) from rfl]
 repeat' first|refine Ji ?_|refine JJ ?_|refine Jl ?_|refine Jx ?_|refine Jt ?_|refine Jb ?_ ?_|refine Jo ?_|refine JD ?_|refine JK ?_|(apply dLn;rfl;rfl;rfl;rfl;rfl)|refine JI ?_|(apply dT (ty:=4);rfl;rfl;rfl;rfl)|(apply dF (ty:=4);rfl;rfl;rfl;rfl)|(apply dB (ty:=4);rfl;rfl;rfl;rfl)|refine Jh ?_|(apply Wp.draw tOk follows;kernel_rfl)|intro hb
 all_goals rfl
end Go.Vm.Seat
namespace Go.Vm
variable {α:Type}
theorem Zdn {f:α→List PV} (h:∀ x,noC (f x)=true) (l:List α):noB (l.map f)=true:=by
 rw [noB,List.all_map,List.all_eq_true]
 exact fun x _=>h x
theorem Zav {f:α→List PV} (h:∀ x,(f x).all Zr=true) (l:List α):(l.map f).all (fun c=>c.all Zr)=true:=by
 rw [List.all_map,List.all_eq_true]
 exact fun x _=>h x
theorem VZ {α:Type} {f:α→List PV} (h:∀ x,V9 (f x)=some (f x)):∀ l:List α,YS (l.map f)=some (l.map f)
 | []=>rfl
 |x::r=>by simp only [List.map_cons,YS,h x,VZ h r]
theorem Wq:∀ l:List Tm,noB (Zb l)=true
 | []=>rfl
 | .mk k nm s b kz :: r => by
   show (noC [.int .i64 k,.str nm,.int .i64 s,slV b 4 (Zb kz)]&&(Zb r).all noC)=true
   rw [show (Zb r).all noC=true from Wq r,Bool.and_true]
   rfl
theorem Zgn (x:Fr):noC x.cells=true:=rfl
theorem Zg2 (x:Sp):x.cells.all Zr=true:=by
 obtain ⟨f,t,⟨k,m,s,b,kz⟩,ln⟩:=x
 simp only [Sp.cells,Tm.cells,List.cons_append,List.nil_append,List.all_cons,List.all_nil,YI];rfl
theorem Zgy (x:Gl):x.cells.all Zr=true:=by
 obtain ⟨k,r,w,b,d,ln⟩:=x
 simp only [Gl.cells,List.all_cons,List.all_nil,YI];rfl
theorem ZgW (x:Sp):V9 x.cells=some x.cells:=by
 obtain ⟨f,t,⟨k,m,s,b,kz⟩,ln⟩:=x
 simp only [Sp.cells,Tm.cells,List.cons_append,List.nil_append,V9,Yq];rfl
theorem Zgz (x:Gl):V9 x.cells=some x.cells:=by
 obtain ⟨k,r,w,b,d,ln⟩:=x
 simp only [Gl.cells,V9,Yq];rfl
theorem Zcx (l:List Sp):(spC l).all (fun c=>c.all Zr)=true:=Zav Zg2 l
theorem Zfs (l:List Gl):(glC l).all (fun c=>c.all Zr)=true:=Zav Zgy l
theorem Zf8 (l:List Fr):(frC l).all (fun c=>c.all Zr)=true:=Zav (fun _=>rfl) l
theorem ZcL (l:List Fr):noB (frC l)=true:=Zdn Zgn l
theorem ZbK (l:List Sp):YS (spC l)=some (spC l):=VZ ZgW l
theorem ZbC (l:List Gl):YS (glC l)=some (glC l):=VZ Zgz l
end Go.Vm
namespace Go.Vm.Seat
variable {T:TypeId} {by_ es:Nat} {L:List (List PV)} {l:List Zg}
open Go.Proofs
theorem W6:ApT E0 47 47 4 56:=⟨_,_,_,_,_,rfl,rfl,rfl,rfl,rfl,rfl,rfl,by decide,rfl⟩
theorem ZeW:ApT E0 23 23 3 40:=⟨_,_,_,_,_,rfl,rfl,rfl,rfl,rfl,rfl,rfl,by decide,rfl⟩
theorem Ze2:ApT E0 24 24 7 96:=⟨_,_,_,_,_,rfl,rfl,rfl,rfl,rfl,rfl,rfl,by decide,rfl⟩
theorem Zfi:ApT E0 25 25 5 72:=⟨_,_,_,_,_,rfl,rfl,rfl,rfl,rfl,rfl,rfl,by decide,rfl⟩
theorem ZeR (hT : ApT E0 T T es by_) (hne : L ≠ []) (hok : L.all (fun c => c.all Zr) = true) (hf : Xv 0 L.length by_ = true) (H : Heap) :
  Y2 E0 T T (.sl .full es []) (.sl .none es L) H=some (.own H.bx.length es 0 L.length,H.push (.cells es L)):=by
 have he:=ZY (s:= .sl .full es []) hT (ElV.sl .none es L) hok rfl rfl H
 cases L with
 |nil=>exact absurd rfl hne
 | cons y yr =>
   simp only [Y2,he,Y8,List.nil_append]
   rw [show ([]:List (List PV)).length=0 from rfl,if_pos hf,Nat.zero_add]
theorem clR (hl:l.length≤1000) (b:Bool):∀ H,CallOk E0 Tryz.prog 66 [slV b 1 (Zo l)] H (slV b 1 (Zo l)) H:=by
 refine Jw tOk fe66.ok (WS _ _ _ _ _) ?_
 obtain ⟨out',lv',nt',hap,hA, -⟩:=(ApV.full (es:=1) [] [] 0 (rfl:false=false) rfl).app Wi (.slV b 1 (Zo l)) (YZ l) (ZJ (by simp [ZA];omega) (by decide)) (YN l)
 cases hL:Zo l with
 | nil =>
   rw [hL] at hap hA
   cases b with
   | true =>
     rw [Zq] at hap ⊢
     repeat' first|refine Js ?_|refine JA ?_|refine Jt ?_|refine Jb ?_ ?_|refine Jo ?_|intro hb
     all_goals rfl
   | false =>
     rw [Zu] at hap ⊢
     repeat' first|refine Js ?_|refine JA ?_|refine Jt ?_|refine Jb ?_ ?_|refine Jo ?_|intro hb
     first
      | exact hA.frz3 _ _
      | exact (hA.frz3 _ _).trans (by rw [List.append_nil,Zu])
 | cons c r =>
   rw [hL,ZC] at hap
   rw [hL] at hA
   rw [ZC]
   repeat' first|refine Js ?_|refine JA ?_|refine Jt ?_|refine Jb ?_ ?_|refine Jo ?_|intro hb
   rw [← ZC false]
   exact hA.frz3 _ _
theorem clT {l:List Tm} (hl:l.length≤1000) (b:Bool):∀ H,CallOk E0 Tryz.prog 70 [slV b 4 (Zb l)] H (slV b 4 (Zb l)) H:=by
 refine Jw tOk fe70.ok (WS _ _ _ _ _) ?_
 obtain ⟨out',lv',nt',hap,hA, -⟩:=(ApV.full (es:=4) [] [] 0 (rfl:false=false) rfl).app W6 (.slV b 4 (Zb l)) (Yi l) (ZJ (by simp [Za];omega) (by decide)) (Wq l)
 cases hL:Zb l with
 | nil =>
   rw [hL] at hap hA
   cases b with
   | true =>
     rw [Zq] at hap ⊢
     repeat' first|refine Js ?_|refine JA ?_|refine Jt ?_|refine Jb ?_ ?_|refine Jo ?_|intro hb
     all_goals rfl
   | false =>
     rw [Zu] at hap ⊢
     repeat' first|refine Js ?_|refine JA ?_|refine Jt ?_|refine Jb ?_ ?_|refine Jo ?_|intro hb
     first
      | exact hA.frz3 _ _
      | exact (hA.frz3 _ _).trans (by rw [List.append_nil,Zu])
 | cons c r =>
   rw [hL,ZC] at hap
   rw [hL] at hA
   rw [ZC]
   repeat' first|refine Js ?_|refine JA ?_|refine Jt ?_|refine Jb ?_ ?_|refine Jo ?_|intro hb
   rw [← ZC false]
   exact hA.frz3 _ _
def ClV (f:FuncId) (b:Bool) (es:Nat) (L:List (List PV)) (lv:List Nat) (nt:Nat) (out:PV) (lv':List Nat) (nt':Nat):Prop:=
 CallOk E0 Tryz.prog f [slV b es L] ⟨[],0,lv,nt⟩ out ⟨[],0,lv',nt'⟩∧ApV b es L out lv' nt'∧∀ b2 es2 L2 out2,ApV b2 es2 L2 out2 lv nt→ApV b2 es2 L2 out2 lv' nt'∧(Yj out2=none∨Yj out2≠Yj out)
theorem ZfV (hT : ApT E0 T T es by_) (hne : L ≠ []) (hok : L.all (fun c => c.all Zr) = true) (hf : Xv 0 L.length by_ = true) (hB : noB L = true) (bx : List Box) (ro : Nat) (lv : List Nat) (nt : Nat) :
  ZH E0 T T (.sl .full es []) (.sl .none es L) ⟨bx,ro,lv,nt⟩=some (.sl (.tok nt) es L,⟨bx,ro,nt::lv,nt+1⟩):=by
 have he:=ZY (s:= .sl .full es []) hT (ElV.sl .none es L) hok rfl rfl ⟨bx,ro,lv,nt⟩
 cases L with
 |nil=>exact absurd rfl hne
 | cons y yr =>
   simp only [ZH,he,Y8,List.nil_append]
   rw [if_pos (by rw [show ([]:List (List PV)).length=0 from rfl,hf,VN hB];rfl)]
theorem Ql {b2:Bool} {es2:Nat} {L2:List (List PV)} {out2:PV} {lv:List Nat} {nt:Nat} (h:ApV b2 es2 L2 out2 lv nt):ApV b2 es2 L2 out2 (nt::lv) (nt+1)∧(Yj out2=none∨Yj out2≠Yj (.sl (.tok nt) es L)):=by
 cases h with
 |nil _ _ hb=>exact ⟨.nil _ _ hb,.inl rfl⟩
 |full _ _ _ hb hB=>exact ⟨.full _ _ _ hb hB,.inl rfl⟩
 | tok _ k _ _ hL hk hn hB =>
   refine ⟨.tok _ k _ _ hL (List.mem_cons_of_mem _ hk) (by omega) hB,.inr ?_⟩
   simp only [Yj,ne_eq,Option.some.injEq]
   omega
theorem U9 {o x:PV} (h:Yj x=none):Yj o=none∨Yj o≠Yj x:=by
 cases h2:Yj o with
 |none=>exact .inl rfl
 |some k=>exact .inr (by rw [h];simp)
theorem clA (hl:l.length≤1000) (b:Bool) (lv:List Nat) (nt:Nat):∃ out lv' nt',ClV 66 b 1 (Zo l) lv nt out lv' nt':=by
 cases hL:Zo l with
 | nil =>
   cases b with
   | true =>
     refine ⟨.nils,lv,nt,?_,.nil lv nt rfl,fun b2 es2 L2 out2 h=>⟨h,U9 rfl⟩⟩
     rw [Zq]
     refine Zy (own:=fun _=>false) tOk fe66.ok ?_
     refine Wp.seq ?_
     repeat' first|refine Js ?_|refine JA ?_|refine Jt ?_|refine Jb ?_ ?_|refine Jo ?_|intro hb
     all_goals exact RetE.ret rfl rfl rfl
   | false =>
     refine ⟨.sl .full 1 [],lv,nt,?_,.full [] lv nt rfl rfl,fun b2 es2 L2 out2 h=>⟨h,U9 rfl⟩⟩
     have hap:∀ bx ro,ZH E0 22 22 (.sl .full 1 []) (.sl .none 1 []) ⟨bx,ro,lv,nt⟩=some (.sl .full 1 [],⟨bx,ro,lv,nt⟩):=fun bx ro=>by
      have he:=ZY (s:= .sl .full 1 []) Wi (ElV.sl .none 1 []) rfl rfl rfl ⟨bx,ro,lv,nt⟩
      simp only [ZH,he]
     rw [Zu]
     refine Zy (own:=fun _=>false) tOk fe66.ok ?_
     refine Wp.seq ?_
     repeat' first|refine Js ?_|refine JA ?_|refine Jt ?_|refine Jb ?_ ?_|refine Jo ?_|intro hb
     all_goals exact RetE.ret rfl rfl rfl
 | cons c r =>
   have hne:Zo l≠ []:=by rw [hL];simp
   have hap:=ZfV Wi hne (YZ l) (ZJ (by rw [ZA];omega) (by decide)) (YN l)
   rw [← hL]
   refine ⟨.sl (.tok nt) 1 (Zo l),nt::lv,nt+1,?_,.tok _ nt _ _ hne List.mem_cons_self (Nat.lt_succ_self _) (YN l),fun b2 es2 L2 out2 h=>Ql h⟩
   rw [hL] at hap ⊢
   rw [ZC]
   refine Zy (own:=fun _=>false) tOk fe66.ok ?_
   refine Wp.seq ?_
   have hap:=fun bx ro=>hap bx ro lv nt
   repeat' first|refine Js ?_|refine JA ?_|refine Jt ?_|refine Jb ?_ ?_|refine Jo ?_|intro hb
   all_goals exact RetE.ret rfl rfl rfl
theorem clF {l:List Fr} (hl:l.length≤1000) (b:Bool) (lv:List Nat) (nt:Nat):∃ out lv' nt',ClV 67 b 3 (frC l) lv nt out lv' nt':=by
 cases hL:frC l with
 | nil =>
   cases b with
   | true =>
     refine ⟨.nils,lv,nt,?_,.nil lv nt rfl,fun b2 es2 L2 out2 h=>⟨h,U9 rfl⟩⟩
     rw [Zq]
     refine Zy (own:=fun _=>false) tOk fe67.ok ?_
     refine Wp.seq ?_
     repeat' first|refine Js ?_|refine JA ?_|refine Jt ?_|refine Jb ?_ ?_|refine Jo ?_|intro hb
     all_goals exact RetE.ret rfl rfl rfl
   | false =>
     refine ⟨.sl .full 3 [],lv,nt,?_,.full [] lv nt rfl rfl,fun b2 es2 L2 out2 h=>⟨h,U9 rfl⟩⟩
     have hap:∀ bx ro,ZH E0 23 23 (.sl .full 3 []) (.sl .none 3 []) ⟨bx,ro,lv,nt⟩=some (.sl .full 3 [],⟨bx,ro,lv,nt⟩):=fun bx ro=>by
      have he:=ZY (s:= .sl .full 3 []) ZeW (ElV.sl .none 3 []) rfl rfl rfl ⟨bx,ro,lv,nt⟩
      simp only [ZH,he]
     rw [Zu]
     refine Zy (own:=fun _=>false) tOk fe67.ok ?_
     refine Wp.seq ?_
     repeat' first|refine Js ?_|refine JA ?_|refine Jt ?_|refine Jb ?_ ?_|refine Jo ?_|intro hb
     all_goals exact RetE.ret rfl rfl rfl
 | cons c r =>
   have hne:frC l≠ []:=by rw [hL];simp
   have hap:=ZfV ZeW hne (Zf8 l) (ZJ (by rw [Y9];omega) (by decide)) (ZcL l)
   rw [← hL]
   refine ⟨.sl (.tok nt) 3 (frC l),nt::lv,nt+1,?_,.tok _ nt _ _ hne List.mem_cons_self (Nat.lt_succ_self _) (ZcL l),fun b2 es2 L2 out2 h=>Ql h⟩
   rw [hL] at hap ⊢
   rw [ZC]
   refine Zy (own:=fun _=>false) tOk fe67.ok ?_
   refine Wp.seq ?_
   have hap:=fun bx ro=>hap bx ro lv nt
   repeat' first|refine Js ?_|refine JA ?_|refine Jt ?_|refine Jb ?_ ?_|refine Jo ?_|intro hb
   all_goals exact RetE.ret rfl rfl rfl
theorem clS {l:List Sp} (hne:l≠ []) (hl:l.length≤1000) (H:Heap):CallOk E0 Tryz.prog 68 [.sl .none 7 (spC l)] H (.own H.bx.length 7 0 (spC l).length) {H with bx:=H.bx++ [.cells 7 (spC l)]}:=by
 refine CallOk.slot (L:=[]) (k:=0) (B:= .cells 7 (spC l)) (j:=0) (H1:=⟨[.cells 7 (spC l)],0,[],0⟩) (args0:=[.sl .none 7 (spC l)]) (r:= .own 0 7 0 (spC l).length) ?_ (.inl rfl) (fun g g0 v hS _ x=>ZdB hS rfl x) (.inr ⟨7,spC l,[],rfl,by simp,ZbK l⟩) (fun g1 g2 v hS hs x=>Zbq hs.1 hs.2 x)
 have hap:=ZeR Ze2 (fun h=>hne (List.length_eq_zero_iff.1 (by have:=congrArg List.length h;rw [ZV] at this;simpa using this))) (Zcx l) (ZJ (by rw [ZV];omega) (by decide)) hNil
 refine Zy (own:=fun d=>Nat.beq d 7) tOk fe68.ok ?_
 refine Wp.seq ?_
 repeat' first|refine Js ?_|refine JA ?_|refine Jt ?_|refine Jb ?_ ?_|refine Jo ?_|intro hb
 refine ZiL rfl rfl rfl rfl rfl hap ?_
 repeat' first|refine Js ?_|refine JA ?_|refine Jt ?_|refine Jb ?_ ?_|refine Jo ?_|intro hb
 all_goals exact RetE.ret rfl rfl rfl
theorem clG {l:List Gl} (hne:l≠ []) (hl:l.length≤1000) (H:Heap):CallOk E0 Tryz.prog 69 [.sl .none 5 (glC l)] H (.own H.bx.length 5 0 (glC l).length) {H with bx:=H.bx++ [.cells 5 (glC l)]}:=by
 refine CallOk.slot (L:=[]) (k:=0) (B:= .cells 5 (glC l)) (j:=0) (H1:=⟨[.cells 5 (glC l)],0,[],0⟩) (args0:=[.sl .none 5 (glC l)]) (r:= .own 0 5 0 (glC l).length) ?_ (.inl rfl) (fun g g0 v hS _ x=>ZdB hS rfl x) (.inr ⟨5,glC l,[],rfl,by simp,ZbC l⟩) (fun g1 g2 v hS hs x=>Zbq hs.1 hs.2 x)
 have hap:=ZeR Zfi (fun h=>hne (List.length_eq_zero_iff.1 (by have:=congrArg List.length h;rw [YJ] at this;simpa using this))) (Zfs l) (ZJ (by rw [YJ];omega) (by decide)) hNil
 refine Zy (own:=fun d=>Nat.beq d 7) tOk fe69.ok ?_
 refine Wp.seq ?_
 repeat' first|refine Js ?_|refine JA ?_|refine Jt ?_|refine Jb ?_ ?_|refine Jo ?_|intro hb
 refine ZiL rfl rfl rfl rfl rfl hap ?_
 repeat' first|refine Js ?_|refine JA ?_|refine Jt ?_|refine Jb ?_ ?_|refine Jo ?_|intro hb
 all_goals exact RetE.ret rfl rfl rfl
