/-
  slices.Clone at the parts of a narration: frozen, in rooms, in boxes.
-/
import Derived.Test.YtgnklbkmfeafaaaGreatDoorUu
set_option maxHeartbeats 0
set_option maxRecDepth 100000
namespace Go.Vm.Seat
open Go.Proofs
theorem c73 {n:Na} (h:n.Sm):∀ H,CallOk E0 Tryz.prog 73 [.agg n.cells] H (.tup [.int .i64 n.chk.1,.int .i64 n.chk.2]) H:=by
 have cV:=c56 h
 have cD:=ZjM h
 have cT:=fun {s:Sp} (hs:s∈n.steps)=>ZkQ h (h.ss s hs).2.2.1
 have cG:=fun {g:Gl} (hg:g∈n.goals)=>Zks h (Nat.le_trans (h.gs g hg).2.2.1 (by decide)) (fun t ht=>((h.gs g hg).2.2.2 t ht).1)
 have hsl:=h.sl
 have hgl:=h.gl
 clear h
 have n1:=ZK n.syn 0
 have n2:=ZK n.dec 0
 have k1:n.syn≠0→n.chk=(0,n.syn):=Zbk
 have k2:n.syn=0→n.dec≠0→n.chk=(0,n.dec):=Zdq
 have k3:n.syn=0→n.dec=0→n.chk=if (YT (Sp.sce n.roles n.nms) (·.line) n.steps).2≠0 then YT (Sp.sce n.roles n.nms) (·.line) n.steps else YT (Gl.sce n.roles n.nms) (·.line) n.goals:=ZfW
 generalize n.chk=C at k1 k2 k3 ⊢
 generalize n.syn=e at cV n1 k1 k2 k3
 generalize n.dec=e2 at cD n2 k2 k3
 generalize n.nms=N at k3 cT cG
 obtain ⟨R,hRe⟩:∃ R,R=n.roles:=⟨_,rfl⟩
 rw [← hRe] at cT cG k3
 clear hRe
 obtain ⟨nm,rn,rs,fn,fr,tn,ts,sn,ss,gn,gs⟩:=n
 simp only [Na.cells] at cV cD cT cG hsl hgl k3 ⊢
 have e4:=ZI ss
 have e5:=YR gs
 refine Jw tOk fe73.ok rfl ?_ (by simp only [Zt,Zj])
 by_cases d1:e=0
 case neg=>
  rw [decide_eq_false d1] at n1
  rw [k1 d1]
  clear k1 k2 k3
  repeat' first|refine Jc (cV _) ?_|refine Ji ?_|refine JJ ?_|refine Jl ?_|refine Jx ?_|refine Jt ?_|refine Jb ?_ ?_|refine Jo ?_|refine Jd (cV _) ?_|refine JD ?_|refine JK ?_|(apply dLn;rfl;rfl;rfl;rfl;rfl)|refine JI ?_|(apply dT (ty:=4);rfl;rfl;rfl;rfl)|(apply dF (ty:=4);rfl;rfl;rfl;rfl)|(apply dB (ty:=4);rfl;rfl;rfl;rfl)|refine Jh ?_|(apply Wp.draw tOk follows;kernel_rfl)|intro hb
  all_goals rfl
 rw [decide_eq_true d1] at n1
 by_cases d2:e2=0
 case neg=>
  rw [decide_eq_false d2] at n2
  rw [k2 d1 d2]
  clear k1 k2 k3
  repeat' first|refine Jc (cV _) ?_|refine Jc (cD _) ?_|refine Ji ?_|refine JJ ?_|refine Jl ?_|refine Jx ?_|refine Jt ?_|refine Jb ?_ ?_|refine Jo ?_|refine Jd (cV _) ?_|refine Jd (cD _) ?_|refine JD ?_|refine JK ?_|(apply dLn;rfl;rfl;rfl;rfl;rfl)|refine JI ?_|(apply dT (ty:=4);rfl;rfl;rfl;rfl)|(apply dF (ty:=4);rfl;rfl;rfl;rfl)|(apply dB (ty:=4);rfl;rfl;rfl;rfl)|refine Jh ?_|(apply Wp.draw tOk follows;kernel_rfl)|intro hb
  all_goals rfl
 rw [decide_eq_true d2] at n2
 rw [k3 d1 d2]
 clear k1 k2 k3
 repeat' first|refine Jc (cV _) ?_|refine Jc (cD _) ?_|refine Ji ?_|refine JJ ?_|refine Jl ?_|refine Jx ?_|refine Jt ?_|refine Jb ?_ ?_|refine Jo ?_|refine Jd (cV _) ?_|refine Jd (cD _) ?_|refine JD ?_|refine JK ?_|(apply dLn;rfl;rfl;rfl;rfl;rfl)|refine JI ?_|(apply dT (ty:=4);rfl;rfl;rfl;rfl)|(apply dF (ty:=4);rfl;rfl;rfl;rfl)|(apply dB (ty:=4);rfl;rfl;rfl;rfl)|refine Jh ?_|(apply Wp.draw tOk follows;kernel_rfl)|intro hb
 clear cV cD n1 n2
 refine Wp.while (fun m2 tm H=>∃ (i:Nat) (base:TM),i+m2=ss.length∧YT (Sp.sce R N) (·.line) ss=YT (Sp.sce R N) (·.line) (ss.drop i)∧tm=ovr base [(1,.ptr 0 6 0 0),(6,.int .i64 (i:Int))]∧H=⟨[naB nm rn rs fn fr tn ts sn ss gn gs],0,[],0⟩)
  (fun m2 tm H hI=>?_) ss.length _ _ ⟨0,_,by omega,by simp,Zf ⟨rfl,rfl,trivial⟩,rfl⟩
 obtain ⟨i,base,hi,hgo,rfl,rfl⟩:=hI
 rw [hgo]
 clear hgo
 have hlx:=Zn (i:Int) ((spC ss).length:Int)
 by_cases hlt:i<ss.length
 · rw [decide_eq_true (by omega)] at hlx
   obtain ⟨x,hx⟩:∃ x,ss[i]? = some x:=⟨ss[i],by simp⟩
   have hj:=ZX hx
   have hii:=Zy (a:=(i:Int)) (b:=1) (by omega) (by omega)
   rw [show (i:Int)+1=((i+1:Nat):Int) by omega] at hii
   have hq:=cT (List.mem_of_getElem? hx)
   rw [Wk hx rfl]
   have n1:=ZK ((Sp.sce R N) x) 0
   generalize (Sp.sce R N) x=e at hq n1 ⊢
   obtain ⟨xf,xt,⟨k',nm',s',b',kz'⟩,xl⟩:=x
   simp only [Sp.cells,Tm.cells,List.cons_append,List.nil_append] at hq hj
   by_cases c1:e=0
   · rw [decide_eq_true c1] at n1
     rw [if_neg (show ¬ (e≠0) by omega)]
     repeat' first|refine Jc (hq _) ?_|refine Ji ?_|refine JJ ?_|refine Jl ?_|refine Jx ?_|refine Jt ?_|refine Jb ?_ ?_|refine Jo ?_|refine Jd (hq _) ?_|refine JD ?_|refine JK ?_|(apply dLn;rfl;rfl;rfl;rfl;rfl)|refine JI ?_|(apply dT (ty:=4);rfl;rfl;rfl;rfl)|(apply dF (ty:=4);rfl;rfl;rfl;rfl)|(apply dB (ty:=4);rfl;rfl;rfl;rfl)|refine Jh ?_|(apply Wp.draw tOk follows;kernel_rfl)|intro hb
     exact LoopI.go (m2-1) (by omega) ⟨i+1,_,by omega,rfl,Zf ⟨rfl,rfl,trivial⟩,rfl⟩
   · rw [decide_eq_false c1] at n1
     rw [if_pos c1]
     rw [if_pos c1]
     repeat' first|refine Jc (hq _) ?_|refine Ji ?_|refine JJ ?_|refine Jl ?_|refine Jx ?_|refine Jt ?_|refine Jb ?_ ?_|refine Jo ?_|refine Jd (hq _) ?_|refine JD ?_|refine JK ?_|(apply dLn;rfl;rfl;rfl;rfl;rfl)|refine JI ?_|(apply dT (ty:=4);rfl;rfl;rfl;rfl)|(apply dF (ty:=4);rfl;rfl;rfl;rfl)|(apply dB (ty:=4);rfl;rfl;rfl;rfl)|refine Jh ?_|(apply Wp.draw tOk follows;kernel_rfl)|intro hb
     all_goals rfl
 have e:i=ss.length:=by omega
 subst e
 rw [decide_eq_false (by omega)] at hlx
 rw [List.drop_length,show YT (Sp.sce R N) (·.line) []=(0,0) from rfl]
 rw [if_neg (by simp)]
 repeat' first|refine Ji ?_|refine JJ ?_|refine Jl ?_|refine Jx ?_|refine Jt ?_|refine Jb ?_ ?_|refine Jo ?_|refine JD ?_|refine JK ?_|(apply dLn;rfl;rfl;rfl;rfl;rfl)|refine JI ?_|(apply dT (ty:=4);rfl;rfl;rfl;rfl)|(apply dF (ty:=4);rfl;rfl;rfl;rfl)|(apply dB (ty:=4);rfl;rfl;rfl;rfl)|refine Jh ?_|(apply Wp.draw tOk follows;kernel_rfl)|intro hb
 clear hlx hi hlt
 refine Wp.while (fun m2 tm H=>∃ (i:Nat) (base:TM),i+m2=gs.length∧YT (Gl.sce R N) (·.line) gs=YT (Gl.sce R N) (·.line) (gs.drop i)∧tm=ovr base [(1,.ptr 0 6 0 0),(8,.int .i64 (i:Int))]∧H=⟨[naB nm rn rs fn fr tn ts sn ss gn gs],0,[],0⟩)
  (fun m2 tm H hI=>?_) gs.length _ _ ⟨0,_,by omega,by simp,Zf ⟨rfl,rfl,trivial⟩,rfl⟩
 obtain ⟨i,base,hi,hgo,rfl,rfl⟩:=hI
 rw [hgo]
 clear hgo
 have hlx:=Zn (i:Int) ((glC gs).length:Int)
 by_cases hlt:i<gs.length
 · rw [decide_eq_true (by omega)] at hlx
   obtain ⟨x,hx⟩:∃ x,gs[i]? = some x:=⟨gs[i],by simp⟩
   have hj:=XO hx
   have hii:=Zy (a:=(i:Int)) (b:=1) (by omega) (by omega)
   rw [show (i:Int)+1=((i+1:Nat):Int) by omega] at hii
   have hq:=cG (List.mem_of_getElem? hx)
   rw [Wk hx rfl]
   have n1:=ZK ((Gl.sce R N) x) 0
   generalize (Gl.sce R N) x=e at hq n1 ⊢
   obtain ⟨xk,xr,xw,xb,xd,xl⟩:=x
   simp only [Gl.cells] at hq hj
   by_cases c1:e=0
   · rw [decide_eq_true c1] at n1
     rw [if_neg (show ¬ (e≠0) by omega)]
     repeat' first|refine Jc (hq _) ?_|refine Ji ?_|refine JJ ?_|refine Jl ?_|refine Jx ?_|refine Jt ?_|refine Jb ?_ ?_|refine Jo ?_|refine Jd (hq _) ?_|refine JD ?_|refine JK ?_|(apply dLn;rfl;rfl;rfl;rfl;rfl)|refine JI ?_|(apply dT (ty:=4);rfl;rfl;rfl;rfl)|(apply dF (ty:=4);rfl;rfl;rfl;rfl)|(apply dB (ty:=4);rfl;rfl;rfl;rfl)|refine Jh ?_|(apply Wp.draw tOk follows;kernel_rfl)|intro hb
     exact LoopI.go (m2-1) (by omega) ⟨i+1,_,by omega,rfl,Zf ⟨rfl,rfl,trivial⟩,rfl⟩
   · rw [decide_eq_false c1] at n1
     rw [if_pos c1]
     skip
     repeat' first|refine Jc (hq _) ?_|refine Ji ?_|refine JJ ?_|refine Jl ?_|refine Jx ?_|refine Jt ?_|refine Jb ?_ ?_|refine Jo ?_|refine Jd (hq _) ?_|refine JD ?_|refine JK ?_|(apply dLn;rfl;rfl;rfl;rfl;rfl)|refine JI ?_|(apply dT (ty:=4);rfl;rfl;rfl;rfl)|(apply dF (ty:=4);rfl;rfl;rfl;rfl)|(apply dB (ty:=4);rfl;rfl;rfl;rfl)|refine Jh ?_|(apply Wp.draw tOk follows;kernel_rfl)|intro hb
     all_goals rfl
 have e:i=gs.length:=by omega
 subst e
 rw [decide_eq_false (by omega)] at hlx
 rw [List.drop_length,show YT (Gl.sce R N) (·.line) []=(0,0) from rfl]
 repeat' first|refine Ji ?_|refine JJ ?_|refine Jl ?_|refine Jx ?_|refine Jt ?_|refine Jb ?_ ?_|refine Jo ?_|refine JD ?_|refine JK ?_|(apply dLn;rfl;rfl;rfl;rfl;rfl)|refine JI ?_|(apply dT (ty:=4);rfl;rfl;rfl;rfl)|(apply dF (ty:=4);rfl;rfl;rfl;rfl)|(apply dB (ty:=4);rfl;rfl;rfl;rfl)|refine Jh ?_|(apply Wp.draw tOk follows;kernel_rfl)|intro hb
 all_goals rfl
end Go.Vm.Seat
namespace Go.Vm
variable {α:Type}
theorem Zek {f:α→List PV} (h:∀ x,noC (f x)=true) (l:List α):noB (l.map f)=true:=by
 rw [noB,List.all_map,List.all_eq_true]
 exact fun x _=>h x
theorem ZbI {f:α→List PV} (h:∀ x,(f x).all Zp=true) (l:List α):(l.map f).all (fun c=>c.all Zp)=true:=by
 rw [List.all_map,List.all_eq_true]
 exact fun x _=>h x
theorem Ug {α:Type} {f:α→List PV} (h:∀ x,Uy (f x)=some (f x)):∀ l:List α,Y0 (l.map f)=some (l.map f)
 | []=>rfl
 |x::r=>by simp only [List.map_cons,Y0,h x,Ug h r]
theorem X9:∀ l:List Tm,noB (Zb l)=true
 | []=>rfl
 | .mk k nm s b kz :: r => by
   show (noC [.int .i64 k,.str nm,.int .i64 s,slV b 4 (Zb kz)]&&(Zb r).all noC)=true
   rw [show (Zb r).all noC=true from X9 r,Bool.and_true]
   rfl
theorem Zhl (x:Fr):noC x.cells=true:=rfl
theorem Zhx (x:Sp):x.cells.all Zp=true:=by
 obtain ⟨f,t,⟨k,m,s,b,kz⟩,ln⟩:=x
 simp only [Sp.cells,Tm.cells,List.cons_append,List.nil_append,List.all_cons,List.all_nil,Z4];rfl
theorem Zhy (x:Gl):x.cells.all Zp=true:=by
 obtain ⟨k,r,w,b,d,ln⟩:=x
 simp only [Gl.cells,List.all_cons,List.all_nil,Z4];rfl
theorem Zg4 (x:Sp):Uy x.cells=some x.cells:=by
 obtain ⟨f,t,⟨k,m,s,b,kz⟩,ln⟩:=x
 simp only [Sp.cells,Tm.cells,List.cons_append,List.nil_append,Uy,Yy];rfl
theorem ZhN (x:Gl):Uy x.cells=some x.cells:=by
 obtain ⟨k,r,w,b,d,ln⟩:=x
 simp only [Gl.cells,Uy,Yy];rfl
theorem Qy (l:List Sp):(spC l).all (fun c=>c.all Zp)=true:=ZbI Zhx l
theorem Zgt (l:List Gl):(glC l).all (fun c=>c.all Zp)=true:=ZbI Zhy l
theorem Qm (l:List Fr):(frC l).all (fun c=>c.all Zp)=true:=ZbI (fun _=>rfl) l
theorem Uw (l:List Fr):noB (frC l)=true:=Zek Zhl l
theorem Qt (l:List Sp):Y0 (spC l)=some (spC l):=Ug Zg4 l
theorem QJ (l:List Gl):Y0 (glC l)=some (glC l):=Ug ZhN l
end Go.Vm
namespace Go.Vm.Seat
variable {T:TypeId} {by_ es:Nat} {L:List (List PV)} {l:List Zg}
open Go.Proofs
theorem Vv:ApT E0 47 47 4 56:=⟨_,_,_,_,_,rfl,rfl,rfl,rfl,rfl,rfl,rfl,by decide,rfl⟩
theorem ZaK:ApT E0 23 23 3 40:=⟨_,_,_,_,_,rfl,rfl,rfl,rfl,rfl,rfl,rfl,by decide,rfl⟩
theorem Zc0:ApT E0 24 24 7 96:=⟨_,_,_,_,_,rfl,rfl,rfl,rfl,rfl,rfl,rfl,by decide,rfl⟩
theorem ZfA:ApT E0 25 25 5 72:=⟨_,_,_,_,_,rfl,rfl,rfl,rfl,rfl,rfl,rfl,by decide,rfl⟩
theorem ZfN (hT : ApT E0 T T es by_) (hne : L ≠ []) (hok : L.all (fun c => c.all Zp) = true) (hf : XH 0 L.length by_ = true) (H : Heap) :
  Xe E0 T T (.sl .full es []) (.sl .none es L) H=some (.own H.bx.length es 0 L.length,H.push (.cells es L)):=by
 have he:=Z2 (s:= .sl .full es []) hT (ElV.sl .none es L) hok rfl rfl H
 cases L with
 |nil=>exact absurd rfl hne
 | cons y yr =>
   simp only [Xe,he,Xi,List.nil_append]
   rw [show ([]:List (List PV)).length=0 from rfl,if_pos hf,Nat.zero_add]
theorem clR (hl:l.length≤1000) (b:Bool):∀ H,CallOk E0 Tryz.prog 66 [slV b 1 (Zi l)] H (slV b 1 (Zi l)) H:=by
 refine Jw tOk fe66.ok (WU _ _ _ _ _) ?_
 obtain ⟨out',lv',nt',hap,hA, -⟩:=(ApV.full (es:=1) [] [] 0 (rfl:false=false) rfl).app XW (.slV b 1 (Zi l)) (YJ l) (ZH (by simp [ZC];omega) (by decide)) (Yz l)
 cases hL:Zi l with
 | nil =>
   rw [hL] at hap hA
   cases b with
   | true =>
     rw [Zq] at hap ⊢
     repeat' first|refine Js ?_|refine JA ?_|refine Jt ?_|refine Jb ?_ ?_|refine Jo ?_|intro hb
     all_goals rfl
   | false =>
     rw [ZB] at hap ⊢
     repeat' first|refine Js ?_|refine JA ?_|refine Jt ?_|refine Jb ?_ ?_|refine Jo ?_|intro hb
     first
      | exact hA.frz3 _ _
      | exact (hA.frz3 _ _).trans (by rw [List.append_nil,ZB])
 | cons c r =>
   rw [hL,Zx] at hap
   rw [hL] at hA
   rw [Zx]
   repeat' first|refine Js ?_|refine JA ?_|refine Jt ?_|refine Jb ?_ ?_|refine Jo ?_|intro hb
   rw [← Zx false]
   exact hA.frz3 _ _
theorem clT {l:List Tm} (hl:l.length≤1000) (b:Bool):∀ H,CallOk E0 Tryz.prog 70 [slV b 4 (Zb l)] H (slV b 4 (Zb l)) H:=by
 refine Jw tOk fe70.ok (WU _ _ _ _ _) ?_
 obtain ⟨out',lv',nt',hap,hA, -⟩:=(ApV.full (es:=4) [] [] 0 (rfl:false=false) rfl).app Vv (.slV b 4 (Zb l)) (Z9 l) (ZH (by simp [Za];omega) (by decide)) (X9 l)
 cases hL:Zb l with
 | nil =>
   rw [hL] at hap hA
   cases b with
   | true =>
     rw [Zq] at hap ⊢
     repeat' first|refine Js ?_|refine JA ?_|refine Jt ?_|refine Jb ?_ ?_|refine Jo ?_|intro hb
     all_goals rfl
   | false =>
     rw [ZB] at hap ⊢
     repeat' first|refine Js ?_|refine JA ?_|refine Jt ?_|refine Jb ?_ ?_|refine Jo ?_|intro hb
     first
      | exact hA.frz3 _ _
      | exact (hA.frz3 _ _).trans (by rw [List.append_nil,ZB])
 | cons c r =>
   rw [hL,Zx] at hap
   rw [hL] at hA
   rw [Zx]
   repeat' first|refine Js ?_|refine JA ?_|refine Jt ?_|refine Jb ?_ ?_|refine Jo ?_|intro hb
   rw [← Zx false]
   exact hA.frz3 _ _
def ClV (f:FuncId) (b:Bool) (es:Nat) (L:List (List PV)) (lv:List Nat) (nt:Nat) (out:PV) (lv':List Nat) (nt':Nat):Prop:=
 CallOk E0 Tryz.prog f [slV b es L] ⟨[],0,lv,nt⟩ out ⟨[],0,lv',nt'⟩∧ApV b es L out lv' nt'∧∀ b2 es2 L2 out2,ApV b2 es2 L2 out2 lv nt→ApV b2 es2 L2 out2 lv' nt'∧(Z7 out2=none∨Z7 out2≠Z7 out)
theorem ZgT (hT : ApT E0 T T es by_) (hne : L ≠ []) (hok : L.all (fun c => c.all Zp) = true) (hf : XH 0 L.length by_ = true) (hB : noB L = true) (bx : List Box) (ro : Nat) (lv : List Nat) (nt : Nat) :
  ZL E0 T T (.sl .full es []) (.sl .none es L) ⟨bx,ro,lv,nt⟩=some (.sl (.tok nt) es L,⟨bx,ro,nt::lv,nt+1⟩):=by
 have he:=Z2 (s:= .sl .full es []) hT (ElV.sl .none es L) hok rfl rfl ⟨bx,ro,lv,nt⟩
 cases L with
 |nil=>exact absurd rfl hne
 | cons y yr =>
   simp only [ZL,he,Xi,List.nil_append]
   rw [if_pos (by rw [show ([]:List (List PV)).length=0 from rfl,hf,Ux hB];rfl)]
theorem Q2 {b2:Bool} {es2:Nat} {L2:List (List PV)} {out2:PV} {lv:List Nat} {nt:Nat} (h:ApV b2 es2 L2 out2 lv nt):ApV b2 es2 L2 out2 (nt::lv) (nt+1)∧(Z7 out2=none∨Z7 out2≠Z7 (.sl (.tok nt) es L)):=by
 cases h with
 |nil _ _ hb=>exact ⟨.nil _ _ hb,.inl rfl⟩
 |full _ _ _ hb hB=>exact ⟨.full _ _ _ hb hB,.inl rfl⟩
 | tok _ k _ _ hL hk hn hB =>
   refine ⟨.tok _ k _ _ hL (List.mem_cons_of_mem _ hk) (by omega) hB,.inr ?_⟩
   simp only [Z7,ne_eq,Option.some.injEq]
   omega
theorem Uh {o x:PV} (h:Z7 x=none):Z7 o=none∨Z7 o≠Z7 x:=by
 cases h2:Z7 o with
 |none=>exact .inl rfl
 |some k=>exact .inr (by rw [h];simp)
theorem clA (hl:l.length≤1000) (b:Bool) (lv:List Nat) (nt:Nat):∃ out lv' nt',ClV 66 b 1 (Zi l) lv nt out lv' nt':=by
 cases hL:Zi l with
 | nil =>
   cases b with
   | true =>
     refine ⟨.nils,lv,nt,?_,.nil lv nt rfl,fun b2 es2 L2 out2 h=>⟨h,Uh rfl⟩⟩
     rw [Zq]
     refine Zs (own:=fun _=>false) tOk fe66.ok ?_
     refine Wp.seq ?_
     repeat' first|refine Js ?_|refine JA ?_|refine Jt ?_|refine Jb ?_ ?_|refine Jo ?_|intro hb
     all_goals exact RetE.ret rfl rfl rfl
   | false =>
     refine ⟨.sl .full 1 [],lv,nt,?_,.full [] lv nt rfl rfl,fun b2 es2 L2 out2 h=>⟨h,Uh rfl⟩⟩
     have hap:∀ bx ro,ZL E0 22 22 (.sl .full 1 []) (.sl .none 1 []) ⟨bx,ro,lv,nt⟩=some (.sl .full 1 [],⟨bx,ro,lv,nt⟩):=fun bx ro=>by
      have he:=Z2 (s:= .sl .full 1 []) XW (ElV.sl .none 1 []) rfl rfl rfl ⟨bx,ro,lv,nt⟩
      simp only [ZL,he]
     rw [ZB]
     refine Zs (own:=fun _=>false) tOk fe66.ok ?_
     refine Wp.seq ?_
     repeat' first|refine Js ?_|refine JA ?_|refine Jt ?_|refine Jb ?_ ?_|refine Jo ?_|intro hb
     all_goals exact RetE.ret rfl rfl rfl
 | cons c r =>
   have hne:Zi l≠ []:=by rw [hL];simp
   have hap:=ZgT XW hne (YJ l) (ZH (by rw [ZC];omega) (by decide)) (Yz l)
   rw [← hL]
   refine ⟨.sl (.tok nt) 1 (Zi l),nt::lv,nt+1,?_,.tok _ nt _ _ hne List.mem_cons_self (Nat.lt_succ_self _) (Yz l),fun b2 es2 L2 out2 h=>Q2 h⟩
   rw [hL] at hap ⊢
   rw [Zx]
   refine Zs (own:=fun _=>false) tOk fe66.ok ?_
   refine Wp.seq ?_
   have hap:=fun bx ro=>hap bx ro lv nt
   repeat' first|refine Js ?_|refine JA ?_|refine Jt ?_|refine Jb ?_ ?_|refine Jo ?_|intro hb
   all_goals exact RetE.ret rfl rfl rfl
theorem clF {l:List Fr} (hl:l.length≤1000) (b:Bool) (lv:List Nat) (nt:Nat):∃ out lv' nt',ClV 67 b 3 (frC l) lv nt out lv' nt':=by
 cases hL:frC l with
 | nil =>
   cases b with
   | true =>
     refine ⟨.nils,lv,nt,?_,.nil lv nt rfl,fun b2 es2 L2 out2 h=>⟨h,Uh rfl⟩⟩
     rw [Zq]
     refine Zs (own:=fun _=>false) tOk fe67.ok ?_
     refine Wp.seq ?_
     repeat' first|refine Js ?_|refine JA ?_|refine Jt ?_|refine Jb ?_ ?_|refine Jo ?_|intro hb
     all_goals exact RetE.ret rfl rfl rfl
   | false =>
     refine ⟨.sl .full 3 [],lv,nt,?_,.full [] lv nt rfl rfl,fun b2 es2 L2 out2 h=>⟨h,Uh rfl⟩⟩
     have hap:∀ bx ro,ZL E0 23 23 (.sl .full 3 []) (.sl .none 3 []) ⟨bx,ro,lv,nt⟩=some (.sl .full 3 [],⟨bx,ro,lv,nt⟩):=fun bx ro=>by
      have he:=Z2 (s:= .sl .full 3 []) ZaK (ElV.sl .none 3 []) rfl rfl rfl ⟨bx,ro,lv,nt⟩
      simp only [ZL,he]
     rw [ZB]
     refine Zs (own:=fun _=>false) tOk fe67.ok ?_
     refine Wp.seq ?_
     repeat' first|refine Js ?_|refine JA ?_|refine Jt ?_|refine Jb ?_ ?_|refine Jo ?_|intro hb
     all_goals exact RetE.ret rfl rfl rfl
 | cons c r =>
   have hne:frC l≠ []:=by rw [hL];simp
   have hap:=ZgT ZaK hne (Qm l) (ZH (by rw [YI];omega) (by decide)) (Uw l)
   rw [← hL]
   refine ⟨.sl (.tok nt) 3 (frC l),nt::lv,nt+1,?_,.tok _ nt _ _ hne List.mem_cons_self (Nat.lt_succ_self _) (Uw l),fun b2 es2 L2 out2 h=>Q2 h⟩
   rw [hL] at hap ⊢
   rw [Zx]
   refine Zs (own:=fun _=>false) tOk fe67.ok ?_
   refine Wp.seq ?_
   have hap:=fun bx ro=>hap bx ro lv nt
   repeat' first|refine Js ?_|refine JA ?_|refine Jt ?_|refine Jb ?_ ?_|refine Jo ?_|intro hb
   all_goals exact RetE.ret rfl rfl rfl
theorem clS {l:List Sp} (hne:l≠ []) (hl:l.length≤1000) (H:Heap):CallOk E0 Tryz.prog 68 [.sl .none 7 (spC l)] H (.own H.bx.length 7 0 (spC l).length) {H with bx:=H.bx++ [.cells 7 (spC l)]}:=by
 refine CallOk.slot (L:=[]) (k:=0) (B:= .cells 7 (spC l)) (j:=0) (H1:=⟨[.cells 7 (spC l)],0,[],0⟩) (args0:=[.sl .none 7 (spC l)]) (r:= .own 0 7 0 (spC l).length) ?_ (.inl rfl) (fun g g0 v hS _ x=>Zc7 hS rfl x) (.inr ⟨7,spC l,[],rfl,by simp,Qt l⟩) (fun g1 g2 v hS hs x=>Zb7 hs.1 hs.2 x)
 have hap:=ZfN Zc0 (fun h=>hne (List.length_eq_zero_iff.1 (by have:=congrArg List.length h;rw [ZI] at this;simpa using this))) (Qy l) (ZH (by rw [ZI];omega) (by decide)) hNil
 refine Zs (own:=fun d=>Nat.beq d 7) tOk fe68.ok ?_
 refine Wp.seq ?_
 repeat' first|refine Js ?_|refine JA ?_|refine Jt ?_|refine Jb ?_ ?_|refine Jo ?_|intro hb
 refine Zjh rfl rfl rfl rfl rfl hap ?_
 repeat' first|refine Js ?_|refine JA ?_|refine Jt ?_|refine Jb ?_ ?_|refine Jo ?_|intro hb
 all_goals exact RetE.ret rfl rfl rfl
theorem clG {l:List Gl} (hne:l≠ []) (hl:l.length≤1000) (H:Heap):CallOk E0 Tryz.prog 69 [.sl .none 5 (glC l)] H (.own H.bx.length 5 0 (glC l).length) {H with bx:=H.bx++ [.cells 5 (glC l)]}:=by
 refine CallOk.slot (L:=[]) (k:=0) (B:= .cells 5 (glC l)) (j:=0) (H1:=⟨[.cells 5 (glC l)],0,[],0⟩) (args0:=[.sl .none 5 (glC l)]) (r:= .own 0 5 0 (glC l).length) ?_ (.inl rfl) (fun g g0 v hS _ x=>Zc7 hS rfl x) (.inr ⟨5,glC l,[],rfl,by simp,QJ l⟩) (fun g1 g2 v hS hs x=>Zb7 hs.1 hs.2 x)
 have hap:=ZfN ZfA (fun h=>hne (List.length_eq_zero_iff.1 (by have:=congrArg List.length h;rw [YR] at this;simpa using this))) (Zgt l) (ZH (by rw [YR];omega) (by decide)) hNil
 refine Zs (own:=fun d=>Nat.beq d 7) tOk fe69.ok ?_
 refine Wp.seq ?_
 repeat' first|refine Js ?_|refine JA ?_|refine Jt ?_|refine Jb ?_ ?_|refine Jo ?_|intro hb
 refine Zjh rfl rfl rfl rfl rfl hap ?_
 repeat' first|refine Js ?_|refine JA ?_|refine Jt ?_|refine Jb ?_ ?_|refine Jo ?_|intro hb
 all_goals exact RetE.ret rfl rfl rfl
