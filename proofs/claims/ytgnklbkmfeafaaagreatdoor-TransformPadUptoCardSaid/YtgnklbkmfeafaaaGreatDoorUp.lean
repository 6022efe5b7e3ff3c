/-
  The scope of a narration: the program's text.
-/
import Derived.Test.YtgnklbkmfeafaaaGreatDoorUo
set_option maxHeartbeats 0
set_option maxRecDepth 100000
namespace Go.Vm
variable {n:Na}
def twE (R:List Zg) (a b:Zg):Int:=if ZP R a=false∨ZP R b=false then 13 else if a=b then 1 else 0
theorem Zg9 (R N:List Zg) (s:Sp):s.sce R N=if twE R s.frm s.to≠0 then twE R s.frm s.to else s.msg.sc R N:=by
 unfold Sp.sce twE
 by_cases c1:ZP R s.frm=false∨ZP R s.to=false
 · simp only [if_pos c1];rfl
 · simp only [if_neg c1]
   by_cases c2:s.frm=s.to
   · simp only [if_pos c2];rfl
   · simp only [if_neg c2];rfl
theorem Zae (h:n.syn≠0):n.chk=(0,n.syn):=if_pos h
theorem ZcX (h:n.syn=0) (h2:n.dec≠0):n.chk=(0,n.dec):=by unfold Na.chk;rw [if_neg (by omega),if_pos h2]
theorem ZeZ (h:n.syn=0) (h2:n.dec=0):n.chk=if (YK (Sp.sce n.roles n.nms) (·.line) n.steps).2≠0 then YK (Sp.sce n.roles n.nms) (·.line) n.steps else YK (Gl.sce n.roles n.nms) (·.line) n.goals:=by
 unfold Na.chk;rw [if_neg (by omega),if_neg (by omega)]
end Go.Vm
namespace Go.Vm.Seat
open Go.Proofs
theorem Zfn (l:List (Zg×Int)):(mpN l).all (fun x=>Zfb x.1&&Zfb x.2)=true:=by
 rw [mpN,List.all_map,List.all_eq_true]
 intro x _
 rfl
theorem ZaI (t:Tm):frzG (.agg t.cells)=some (.agg t.cells):=by
 obtain ⟨k,nm,s,b,kz⟩:=t
 simp [frzG,Tm.cells,Qk]
theorem ZcJ (g:Gl):frzG (.agg g.cells)=some (.agg g.cells):=by
 obtain ⟨k,r,w,b,d,ln⟩:=g
 simp only [Gl.cells,frzG,V9,Yq];rfl
theorem Zbg (rn:Bool) (R:List Zg):ZS 6 (UT rn R)=true:=by simp [ZS,Zp,Zf,under]
theorem c25 {n:Na} (h:n.Sm):∀ H,CallOk E0 Tryz.prog 25 [.agg n.cells] H (.tup [.int .i64 n.chk.1,.int .i64 n.chk.2]) H:=by
 have cV:=c60 h
 have cD:=c61 h
 obtain ⟨l,hky,cN⟩:=c62 h (B0:=naB n.name n.rn n.roles n.fn n.fresh n.tn n.tags n.sn n.steps n.gn n.goals) (Ws _ _ _ _ _ _ _ _ _ _ _ _)
 have hR:n.roles.length≤100:=Nat.le_trans h.rl (by decide)
 have c2:=fun (a b:Zg) (H:Heap) (hb:H.bx[3]? = some (.map (mpN l)))=>XR (c63 (es:=mpN l) hR n.rn a b) hb (Zfn l) (Yq _ _ _) (rest:=[.str a,.str b]) rfl rfl
 have cT:=fun (t:Tm) (ht:t.Ok) (H:Heap) (hb:H.bx[3]? = some (.map (mpN l)))=>XR (c64 hR hky n.rn ht) hb (Zfn l) (Yq _ _ _) (rest:=[.agg t.cells]) (by simp only [Zv,ZaI]) rfl
 have cG:=fun (g:Gl) (hl:g.data.length≤1000) (hd:∀ t,t∈g.data→t.Ok) (H:Heap) (hb:H.bx[3]? = some (.map (mpN l)))=>XR (c65 hR hky n.rn hl hd) hb (Zfn l) (Yq _ _ _) (rest:=[.agg g.cells]) (by simp only [Zv,ZcJ]) rfl
 have hss:=h.ss
 have hsl:=h.sl
 have hgs:=h.gs
 have hgl:=h.gl
 clear h
 have n1:=ZK n.syn 0
 have n2:=ZK n.dec 0
 have g1:n.syn≠0→n.chk=(0,n.syn):=Zae
 have g2:n.syn=0→n.dec≠0→n.chk=(0,n.dec):=ZcX
 have g3:n.syn=0→n.dec=0→n.chk=if (YK (Sp.sce n.roles n.nms) (·.line) n.steps).2≠0 then YK (Sp.sce n.roles n.nms) (·.line) n.steps else YK (Gl.sce n.roles n.nms) (·.line) n.goals:=ZeZ
 generalize n.chk=C at g1 g2 g3 ⊢
 generalize n.syn=e at cV n1 g1 g2 g3
 generalize n.dec=e2 at cD n2 g2 g3
 clear hky
 generalize n.nms=N at g3 cT cG
 obtain ⟨nm,rn,rs,fn,fr,tn,ts,sn,ss,gn,gs⟩:=n
 simp only [Na.cells] at cV cD cN c2 cT cG hss hsl hgs hgl g3 ⊢
 have e4:=ZV ss
 have e5:=YJ gs
 refine Jw tOk fe25.ok rfl ?_ (by simp only [Zv,Zl])
 by_cases d1:e=0
 case neg=>
  rw [decide_eq_false d1] at n1
  rw [g1 d1]
  clear g1 g2 g3
  repeat' first|refine Jc (cV _) ?_|refine Ji ?_|refine JJ ?_|refine Jl ?_|refine Jx ?_|refine Jt ?_|refine Jb ?_ ?_|(apply qT (ty:=0);rfl;rfl;rfl)|(apply qF (ty:=0);rfl;rfl;rfl)|refine Jz ?_ ?_|refine Jo ?_|intro hb
  all_goals rfl
 rw [decide_eq_true d1] at n1
 by_cases d2:e2=0
 case neg=>
  rw [decide_eq_false d2] at n2
  rw [g2 d1 d2]
  clear g1 g2 g3
  repeat' first|refine Jc (cV _) ?_|refine Jc (cD _) ?_|refine Ji ?_|refine JJ ?_|refine Jl ?_|refine Jx ?_|refine Jt ?_|refine Jb ?_ ?_|(apply qT (ty:=0);rfl;rfl;rfl)|(apply qF (ty:=0);rfl;rfl;rfl)|refine Jz ?_ ?_|refine Jo ?_|intro hb
  all_goals rfl
 rw [decide_eq_true d2] at n2
 rw [g3 d1 d2]
 clear g1 g2 g3
 repeat' first|(apply qCl;rfl;rfl;rfl;rfl;first|exact cV _|exact cD _|exact cN)|refine Ji ?_|refine JJ ?_|refine Jl ?_|refine Jx ?_|refine Jt ?_|refine Jb ?_ ?_|(apply qT (ty:=0);rfl;rfl;rfl)|(apply qF (ty:=0);rfl;rfl;rfl)|refine Jz ?_ ?_|refine Jo ?_|intro hb
 clear cV cD cN n1 n2
 obtain ⟨ers,hers⟩:∃ ers,ers=YK (Sp.sce rs N) (·.line) ss:=⟨_,rfl⟩
 rw [← hers]
 refine Wp.while (fun m2 tm H => ∃ (i : Nat) (base : TM), i + m2 = ss.length ∧ ers = YK (Sp.sce rs N) (·.line) (ss.drop i) ∧ tm = ovr base [(1, .ptr 0 6 0 0), (6, .ptr 5 2 0 0), (26, slV sn 7 (spC ss)), (27, .int .i64 (ss.length : Int)), (28, .int .i64 (i : Int))] ∧
   H=⟨[naB nm rn rs fn fr tn ts sn ss gn gs,naB nm rn rs fn fr tn ts sn ss gn gs,UT rn rs,.map (mpN l),UT rn rs,UT rn rs],0,[],0⟩)
  (fun m2 tm H hI=>Wp.drop ?_) ss.length _ _ ⟨0,_,by omega,by simpa using hers,Ze ⟨rfl,rfl,rfl,Zt (by rw [e4]),rfl,trivial⟩,rfl⟩
 clear hers
 obtain ⟨i,base,hi,hgo,rfl,rfl⟩:=hI
 rw [hgo]
 have hlx:=Zk (i:Int) (ss.length:Int)
 by_cases hlt:i<ss.length
 · rw [decide_eq_true (by omega)] at hlx
   obtain ⟨x,hx⟩:∃ x,ss[i]? = some x:=⟨ss[i],by simp⟩
   have hxl:=hss x (List.mem_of_getElem? hx)
   have hj:=Yz hx
   have hii:=Zw (a:=(i:Int)) (b:=1) (by omega) (by omega)
   rw [show (i:Int)+1=((i+1:Nat):Int) by omega] at hii
   have q2:=c2 x.frm x.to
   rw [show (if ZP rs x.frm=false∨ZP rs x.to=false then (13:Int) else if x.frm=x.to then 1 else 0)=twE rs x.frm x.to from rfl] at q2
   have qT:=cT x.msg hxl.2.2.1
   have hse:=Zg9 rs N x
   have z1:=Zed (twE rs x.frm x.to) 0
   have z2:=ZK (twE rs x.frm x.to) 0
   have z3:=ZK (x.msg.sc rs N) 0
   have hld:=fun e=>X3 (f:=Sp.sce rs N) (ln:=(·.line)) (e:=e) hx
   clear c2 cT cG hxl
   generalize twE rs x.frm x.to=t at q2 hse z1 z2
   generalize x.msg.sc rs N=u at qT hse z3
   by_cases d3:t=0
   · rw [decide_eq_true d3] at z1
     rw [if_neg (by omega)] at hse
     by_cases d4:u=0
     · rw [decide_eq_true d4] at z3
       rw [hld u hse,if_neg (show ¬ (u≠0) by omega)]
       clear hld hse hgo
       obtain ⟨xf,xt,⟨k',nm',s',b',kz'⟩,xl⟩:=x
       simp only [Sp.cells,Tm.cells,List.cons_append,List.nil_append] at hj qT q2
       repeat' first|refine Jc (q2 _ rfl) ?_|refine Jc (qT _ rfl) ?_|refine Ji ?_|refine JJ ?_|refine Jl ?_|refine Jx ?_|refine Jt ?_|refine Jb ?_ ?_|(apply qT (ty:=0);rfl;rfl;rfl)|(apply qF (ty:=0);rfl;rfl;rfl)|refine Jz ?_ ?_|refine Jo ?_|intro hb
       refine DropQ.go [(1,.ptr 0 6 0 0),(6,.ptr 5 2 0 0),(26,slV sn 7 (spC ss)),(27,.int .i64 (ss.length:Int)),(28,.int .i64 ((i+1:Nat):Int))] ⟨rfl,rfl,rfl,rfl,rfl,trivial⟩ ?_ rfl ?_ ?_
       · simp [under,Zf]
       · show (ZS 6 _ && (ZS 6 _ && (ZS 6 _ && (ZS 6 _ && (ZS 6 _ && (ZS 6 _ && true)))))) = true
         rw [Ws,Xz,Zbg];rfl
       · exact LoopI.go (m2-1) (by omega) ⟨i+1,_,by omega,rfl,rfl,rfl⟩
     · rw [decide_eq_false d4] at z3
       rw [hld u hse,if_pos d4,if_pos d4]
       clear hld hse hgo
       obtain ⟨xf,xt,⟨k',nm',s',b',kz'⟩,xl⟩:=x
       simp only [Sp.cells,Tm.cells,List.cons_append,List.nil_append] at hj qT q2
       repeat' first|refine Jc (q2 _ rfl) ?_|refine Jc (qT _ rfl) ?_|refine Ji ?_|refine JJ ?_|refine Jl ?_|refine Jx ?_|refine Jt ?_|refine Jb ?_ ?_|(apply qT (ty:=0);rfl;rfl;rfl)|(apply qF (ty:=0);rfl;rfl;rfl)|refine Jz ?_ ?_|refine Jo ?_|intro hb
       all_goals rfl
   · rw [decide_eq_false d3] at z1 z2
     rw [if_pos d3] at hse
     rw [hld t hse,if_pos d3,if_pos d3]
     clear hld hse hgo
     obtain ⟨xf,xt,⟨k',nm',s',b',kz'⟩,xl⟩:=x
     simp only [Sp.cells,Tm.cells,List.cons_append,List.nil_append] at hj qT q2
     repeat' first|refine Jc (q2 _ rfl) ?_|refine Ji ?_|refine JJ ?_|refine Jl ?_|refine Jx ?_|refine Jt ?_|refine Jb ?_ ?_|(apply qT (ty:=0);rfl;rfl;rfl)|(apply qF (ty:=0);rfl;rfl;rfl)|refine Jz ?_ ?_|refine Jo ?_|intro hb
     all_goals rfl
 have e:i=ss.length:=by omega
 subst e
 rw [decide_eq_false (by omega)] at hlx
 rw [List.drop_length,show YK (Sp.sce rs N) (·.line) []=(0,0) from rfl] at hgo ⊢
 rw [if_neg (by simp)]
 repeat' first|refine Ji ?_|refine JJ ?_|refine Jl ?_|refine Jx ?_|refine Jt ?_|refine Jb ?_ ?_|(apply qT (ty:=0);rfl;rfl;rfl)|(apply qF (ty:=0);rfl;rfl;rfl)|refine Jz ?_ ?_|refine Jo ?_|intro hb
 clear hlx hi hlt hgo c2 cT
 obtain ⟨erg,herg⟩:∃ erg,erg=YK (Gl.sce rs N) (·.line) gs:=⟨_,rfl⟩
 rw [← herg]
 refine Wp.while (fun m2 tm H => ∃ (i : Nat) (base : TM), i + m2 = gs.length ∧ erg = YK (Gl.sce rs N) (·.line) (gs.drop i) ∧ tm = ovr base [(6, .ptr 5 2 0 0), (51, slV gn 5 (glC gs)), (52, .int .i64 (gs.length : Int)), (53, .int .i64 (i : Int))] ∧
   H=⟨[naB nm rn rs fn fr tn ts sn ss gn gs,naB nm rn rs fn fr tn ts sn ss gn gs,UT rn rs,.map (mpN l),UT rn rs,UT rn rs],0,[],0⟩)
  (fun m2 tm H hI=>Wp.drop ?_) gs.length _ _ ⟨0,_,by omega,by simpa using herg,Ze ⟨rfl,rfl,Zt (by rw [e5]),rfl,trivial⟩,rfl⟩
 clear herg
 obtain ⟨i,base,hi,hgo,rfl,rfl⟩:=hI
 rw [hgo]
 have hlx:=Zk (i:Int) (gs.length:Int)
 by_cases hlt:i<gs.length
 · rw [decide_eq_true (by omega)] at hlx
   obtain ⟨x,hx⟩:∃ x,gs[i]? = some x:=⟨gs[i],by simp⟩
   have hxl:=hgs x (List.mem_of_getElem? hx)
   have hj:=XI hx
   have hii:=Zw (a:=(i:Int)) (b:=1) (by omega) (by omega)
   rw [show (i:Int)+1=((i+1:Nat):Int) by omega] at hii
   have qG:=cG x (by have:=hxl.2.2.1;omega) (fun t ht=>(hxl.2.2.2 t ht).1)
   have z3:=ZK (x.sce rs N) 0
   have hld:=fun e=>X3 (f:=Gl.sce rs N) (ln:=(·.line)) (e:=e) hx
   clear cG hxl
   rw [hld _ rfl]
   clear hld hgo
   generalize x.sce rs N=u at qG z3 ⊢
   obtain ⟨xk,xr,xw,xb,xd,xl⟩:=x
   simp only [Gl.cells] at hj qG
   by_cases d4:u=0
   · rw [decide_eq_true d4] at z3
     rw [if_neg (show ¬ (u≠0) by omega)]
     repeat' first|refine Jc (qG _ rfl) ?_|refine Ji ?_|refine JJ ?_|refine Jl ?_|refine Jx ?_|refine Jt ?_|refine Jb ?_ ?_|(apply qT (ty:=0);rfl;rfl;rfl)|(apply qF (ty:=0);rfl;rfl;rfl)|refine Jz ?_ ?_|refine Jo ?_|intro hb
     refine DropQ.go [(6,.ptr 5 2 0 0),(51,slV gn 5 (glC gs)),(52,.int .i64 (gs.length:Int)),(53,.int .i64 ((i+1:Nat):Int))] ⟨rfl,rfl,rfl,rfl,trivial⟩ ?_ rfl ?_ ?_
     · simp [under,Zf]
     · show (ZS 6 _ && (ZS 6 _ && (ZS 6 _ && (ZS 6 _ && (ZS 6 _ && (ZS 6 _ && true)))))) = true
       rw [Ws,Xz,Zbg];rfl
     · exact LoopI.go (m2-1) (by omega) ⟨i+1,_,by omega,rfl,rfl,rfl⟩
   · rw [decide_eq_false d4] at z3
     rw [if_pos d4]
     repeat' first|refine Jc (qG _ rfl) ?_|refine Ji ?_|refine JJ ?_|refine Jl ?_|refine Jx ?_|refine Jt ?_|refine Jb ?_ ?_|(apply qT (ty:=0);rfl;rfl;rfl)|(apply qF (ty:=0);rfl;rfl;rfl)|refine Jz ?_ ?_|refine Jo ?_|intro hb
     all_goals rfl
 have e:i=gs.length:=by omega
 subst e
 rw [decide_eq_false (by omega)] at hlx
 rw [List.drop_length,show YK (Gl.sce rs N) (·.line) []=(0,0) from rfl]
 repeat' first|refine Ji ?_|refine JJ ?_|refine Jl ?_|refine Jx ?_|refine Jt ?_|refine Jb ?_ ?_|(apply qT (ty:=0);rfl;rfl;rfl)|(apply qF (ty:=0);rfl;rfl;rfl)|refine Jz ?_ ?_|refine Jo ?_|intro hb
 all_goals rfl
