/-
  Readers behind changes, as the document makes them. KeyserviceAudit: the law's function returns true at any changes. What the variables hold that the code of the credentials reads: the row's cell 'laid' gives it.
-/
import Derived.Test.YtjokjgoppbmaiaaGreatDoorIe
import Derived.Test.YtjokjgoppbmaiaaGreatDoorIg
import Derived.Test.YtjokjgoppbmaiaaGreatDoorGk
import Derived.Test.YtjokjgoppbmaiaaGreatDoorDf
import Derived.Test.YtjokjgoppbmaiaaGreatDoorFi
import Derived.Test.YtjokjgoppbmaiaaGreatDoorRows
import Derived.ProofKit
import Derived.Stop.LaidErr
import Derived.Lib.LaidTab
set_option maxHeartbeats 64000000
set_option maxRecDepth 100000
namespace Go.Vm.Seat
open Go.Proofs
def folR (s:Sv) (name:Bs):Rd:=if (ansF s name).2≠0 then (folV s).1 else if (accR (folV s).1 (ansF s name).1).2.2≠0 then (folV s).1 else (accR (folV s).1 (ansF s name).1).1
def folS (l:List Opp):Sv:=madeF (l.take 10) (min (l.take 10).length 10)
def folF (l:List Opp) (n:Nat):Rd:=folR (folS l) (subjN n)
theorem folS_mad (l:List Opp):Mad 10 (folS l):=(made_mad (l.take 10) (i:=min (l.take 10).length 10) (by omega)).mono (by omega)
theorem folV_ok {s:Sv} (h:Mad 10 s):RdOk 2000 (folV s).1:=by
 have hz:=zero_ok (S:=2000) (by omega)
 unfold folV
 split
 · exact hz.1
 · have hz1 : (pkT s.key).size = s.key.size + 1 := size_kid
   have h2:=h.ks
   exact ⟨⟨ok1 (by decide) h.ok.k,by show (pkT s.key).size≤2000;omega⟩,hz.2,hz.2⟩
theorem ans_sm {s:Sv} (h:Mad 10 s) {name:Bs} (hn:name.length≤100) (he:(ansF s name).2=0):AnSm (ansF s name).1 2000:=by
 have hm:=anF_sm h hn
 unfold ansF at he ⊢
 split at he
 · rename_i hz1
   exact absurd he hz1
 · rename_i hz1
   rw [if_neg hz1]
   split at he
   · cases he
   · rename_i h2
     rw [if_neg h2]
     exact hm
theorem folR_ok {s:Sv} (h:Mad 10 s) {name:Bs} (hn:name.length≤100):RdOk 2000 (folR s name):=by
 unfold folR
 split
 · exact folV_ok h
 · rename_i hz1
   split
   · exact folV_ok h
   · exact (accR_ok (folV_ok h) (ans_sm h hn (Classical.not_not.1 hz1))).1
theorem folV_size (s:Sv):(folV s).1.size=0:=by
 unfold folV
 split <;> rfl
theorem folR_spec {s:Sv} (h:Mad 10 s) {name:Bs}:(0 < (folR s name).size→keyB id (folR s name)=true∧(folR s name).svc=pkT (skT logN))∧0≤(folR s name).size∧(folR s name).size≤32:=by
 have hz:=folV_size s
 unfold folR
 split
 · exact ⟨fun h=>by omega,by omega,by omega⟩
 · rename_i hz1
   split
   · exact ⟨fun h=>by omega,by omega,by omega⟩
   · rename_i h2
     obtain ⟨a,b,c,d⟩:=acc_key (Classical.not_not.1 h2)
     refine ⟨fun _=>⟨a,?_⟩,by omega,d⟩
     rw [b]
     have hv:svV s=0:=by
      have hz1:=Classical.not_not.1 hz1
      unfold ansF at hz1
      split at hz1
      · rename_i h3
        exact absurd hz1 h3
      · rename_i h3
        exact Classical.not_not.1 h3
     unfold folV
     rw [if_neg (not_not_intro hv),h.key]
theorem fol_fork {s s' : Sv} (h : Mad 10 s) (h' : Mad 10 s') {name name' : Bs} (hp : 0 < (folR s name).size) (he : (folR s name).size = (folR s' name').size) :
  audF (folR s name) (folR s' name')=(!decide ((folR s name).head.cmp (folR s' name').head=0),0):=by
 obtain ⟨a1,a2⟩:=(folR_spec h (name:=name)).1 hp
 obtain ⟨b1,b2⟩:=(folR_spec h' (name:=name')).1 (by omega)
 have hv:(folR s name).svc.cl=(folR s' name').svc.cl:=by rw [a2,b2]
 unfold audF
 rw [if_neg (by rw [a1,b1];simp),if_neg (not_not_intro (cmp_iff.2 hv)),fork_heads a1 b1 hp he hv]
theorem opC_take (l:List Opp) (k:Nat):(opC l).take k=opC (l.take k):=by simp [opC]
theorem preO (b:Bool) {l:List Opp} {k:Nat} (hk:k≤l.length):∃ b',aSlice E0 38 (slV b 3 (opC l)) none (some (.int .i64 (k:Int))) none=some (slV b' 3 (opC (l.take k))):=by
 have e:E0.T 38=some ⟨.slice 113,1,24,.nils⟩:=by kernel_rfl
 have et:E0.T 113=some ⟨.struct [(0,5),(1,5),(2,5)],3,3,.agg [.int .u8 0,.int .u8 0,.int .u8 0]⟩:=by kernel_rfl
 cases l with
 | nil =>
   obtain rfl:k=0:=by simpa using hk
   cases b
   · refine ⟨false, ?_⟩
     show aSlice E0 _ (slV false 3 []) none _ none=some (slV false 3 [])
     rw [slV_nil_false]
     simp only [aSlice,e,et,if_true,maxOf,bound,nat_i]
     simp [cutTail]
   · refine ⟨true, ?_⟩
     show aSlice E0 _ (slV true 3 []) none _ none=some (slV true 3 [])
     rw [slV_nil_true]
     simp only [aSlice,e,et,maxOf,bound,nat_i]
     simp
 | cons o r =>
   refine ⟨false,?_⟩
   show aSlice E0 _ (slV b 3 (o.cells :: opC r)) _ _ _=_
   rw [slV_cons, ← opC_take,slV_false]
   simp only [aSlice,e,et,if_true,maxOf,bound,nat_i]
   rw [if_pos (by simp [opC] at hk ⊢;omega)]
   simp [cutTail,opC]
theorem minN (a:Nat):aMinL [.int .i64 10] (.int .i64 (a:Int))=some (.int .i64 ((min a 10:Nat):Int)):=by
 show some (PV.int .i64 (if (10:Int) < (a:Int) then 10 else (a:Int)))=_
 by_cases h:(10:Int) < (a:Int)
 · rw [if_pos h, show min a 10 = 10 by omega]
   rfl
 · rw [if_neg h,show min a 10=a by omega]
theorem frz3_rdA (m:Nat) (H:Heap) (c:Rd):frz3 m H (.agg c.cells)=some (.agg c.cells):=frz3_rd m H c
theorem c13 {l:List Opp} (ho:∀ o,o∈l→o.ok) (b:Bool) {n:Nat} (hn:n < 256):∀ H,CallOk E0 Tryz.prog 13 [slV b 3 (opC l),.int .u8 (n:Int),.int .i64 10] H (.agg (folF l n).cells) H:=by
 have hM:=folS_mad l
 have hnl:=subjN_len n
 obtain ⟨b',hs⟩:=preO b (l:=l) (k:=min l.length 10) (by omega)
 have et:l.take (min l.length 10)=l.take 10:=by
  by_cases h:l.length≤10
  · rw [Nat.min_eq_left h,List.take_of_length_le (Nat.le_refl _),List.take_of_length_le h]
  · rw [Nat.min_eq_right (by omega)]
 rw [et] at hs
 have hm:=minN (opC l).length
 have c1:=c32 (l:=l.take 10) (fun o h=>ho o (List.mem_of_mem_take h)) b'
 have c2:=c33 hM.ok
 have c3:=c35 hn
 have c4:=c34 hM hnl
 have e1:=err_v (ansF (folS l) (subjN n)).2
 have hfr:=fun m H=>frz3_rdA m H (folF l n)
 have hln:=opC_len l
 unfold folF at hfr ⊢
 unfold folR at hfr ⊢
 have hV:=folV_ok hM
 have c1:∀ H,CallOk E0 Tryz.prog 32 [slV b' 3 (opC (l.take 10))] H (.agg (folS l).cells) H:=c1
 rw [← hln] at hs
 generalize opC (l.take 10)=L' at hs c1
 generalize opC l=L at hm hs ⊢
 have hsz:=folV_size (folS l)
 rcases e1 with ⟨hz1,e1⟩ | ⟨hz1,e1⟩
 · rw [if_neg (not_not_intro hz1)] at hfr ⊢
   have c5:=c36 hV (by rw [hsz];rfl) (ans_sm hM hnl hz1)
   have e2:=err_v (accR (folV (folS l)).1 (ansF (folS l) (subjN n)).1).2.2
   clear hM hnl hn ho hz1 hV et hsz
   simp only [rspV] at c5
   generalize accR (folV (folS l)).1 (ansF (folS l) (subjN n)).1=R at c5 e2 hfr ⊢
   generalize ansF (folS l) (subjN n)=A at c4 c5 e1
   generalize folV (folS l)=V at c2 c5 hfr ⊢
   generalize folS l=S at c1 c2 c4
   obtain ⟨sn,⟨k,nm,z,bk,kids⟩,lb,log,kb,keys⟩:=S
   obtain ⟨⟨⟨k1,nm1,s1,b1,kids1⟩,nn,⟨k2,nm2,s2,b2,kids2⟩,k3,nm3,s3,b3,kids3⟩,ve⟩:=V
   obtain ⟨⟨name,⟨k4,nm4,s4,b4,kids4⟩,ai,n',⟨k5,nm5,s5,b5,kids5⟩,⟨k6,nm6,s6,b6,kids6⟩,ib,incl,eb,ext⟩,ae⟩:=A
   obtain ⟨⟨⟨k7,nm7,s7,b7,kids7⟩,n1,⟨k8,nm8,s8,b8,kids8⟩,k9,nm9,s9,b9,kids9⟩,⟨ka,nma,sa,ba,kidsa⟩,re⟩:=R
   rcases e2 with ⟨h2,e2⟩ | ⟨h2,e2⟩
   · rw [if_neg (not_not_intro h2)] at hfr ⊢
     simp only [Sv.cells,Rd.cells,An.cells,Tm.cells,List.cons_append,List.nil_append] at c1 c2 c4 c5 hfr e1 e2 ⊢
     refine callOk_wp (own:=(fun d=>[30008].any (Nat.beq d))) tOk fe13.ok (by simp only [frzGL,frzG_slV];rfl) (hfr 0 hNil) ?_
     refine Wp.seq ?_
     repeat' first | refine κn ?_ | (apply qCl;rfl;rfl;rfl;rfl;first | exact c1 _ | exact c2 _ | exact c5 _) | refine κS ?_ | refine κi ?_ | (apply RegQ.rMin;rfl;rfl;rfl;rfl;assumption) | refine κl ?_ | refine κg ?_ | refine κd (c3 _) ?_ | refine κd (c4 _) ?_ | (apply dAl;rfl;rfl;rfl;rfl;exact IsV.ptrM;exact IsH.mkN) | refine κh ?_ | refine κa ?_ | (apply dWB tOk follows;rfl;kernel_rfl;rfl;exact IsH.mkN) | refine κf ?_ | fail
     all_goals exact hfr _ _
   · rw [if_pos h2] at hfr ⊢
     simp only [Sv.cells,Rd.cells,An.cells,Tm.cells,List.cons_append,List.nil_append] at c1 c2 c4 c5 hfr e1 e2 ⊢
     refine callOk_wp (own:=(fun d=>[30008].any (Nat.beq d))) tOk fe13.ok (by simp only [frzGL,frzG_slV];rfl) (hfr 0 hNil) ?_
     refine Wp.seq ?_
     repeat' first | refine κn ?_ | (apply qCl;rfl;rfl;rfl;rfl;first | exact c1 _ | exact c2 _ | exact c5 _) | refine κS ?_ | refine κi ?_ | (apply RegQ.rMin;rfl;rfl;rfl;rfl;assumption) | refine κl ?_ | refine κg ?_ | refine κd (c3 _) ?_ | refine κd (c4 _) ?_ | (apply dAl;rfl;rfl;rfl;rfl;exact IsV.ptrM;exact IsH.mkN) | refine κh ?_ | refine κa ?_ | (apply dWB tOk follows;rfl;kernel_rfl;rfl;exact IsH.mkN) | refine κf ?_ | fail
     all_goals exact hfr _ _
 · rw [if_pos hz1] at hfr ⊢
   clear hM hnl hn ho hz1 hV et hsz
   generalize ansF (folS l) (subjN n)=A at c4 e1
   generalize folV (folS l)=V at c2 hfr ⊢
   generalize folS l=S at c1 c2 c4
   obtain ⟨sn,⟨k,nm,z,bk,kids⟩,lb,log,kb,keys⟩:=S
   obtain ⟨⟨⟨k1,nm1,s1,b1,kids1⟩,nn,⟨k2,nm2,s2,b2,kids2⟩,k3,nm3,s3,b3,kids3⟩,ve⟩:=V
   obtain ⟨⟨name,⟨k4,nm4,s4,b4,kids4⟩,ai,n',⟨k5,nm5,s5,b5,kids5⟩,⟨k6,nm6,s6,b6,kids6⟩,ib,incl,eb,ext⟩,ae⟩:=A
   simp only [Sv.cells,Rd.cells,An.cells,Tm.cells,List.cons_append,List.nil_append] at c1 c2 c4 hfr e1 ⊢
   refine callOk_wp (own:=(fun d=>[30008].any (Nat.beq d))) tOk fe13.ok (by simp only [frzGL,frzG_slV];rfl) (hfr 0 hNil) ?_
   refine Wp.seq ?_
   repeat' first | refine κn ?_ | refine κc (c1 _) ?_ | refine κc (c2 _) ?_ | refine κS ?_ | refine κi ?_ | (apply RegQ.rMin;rfl;rfl;rfl;rfl;assumption) | refine κl ?_ | refine κg ?_ | refine κd (c3 _) ?_ | refine κd (c4 _) ?_ | (apply dAl;rfl;rfl;rfl;rfl;exact IsV.ptrM;exact IsH.mkN) | refine κh ?_ | refine κa ?_ | (apply dWB tOk follows;rfl;kernel_rfl;rfl;exact IsH.mkN) | refine κf ?_ | fail
   all_goals exact hfr _ _
end Go.Vm.Seat
namespace Go.Vm.Seat
open Go.Proofs
theorem frz3_tmA (P:Tm) (m:Nat) (H:Heap):frz3 m H (.agg P.cells)=some (.agg P.cells):=by
 obtain ⟨k,nm,s,b,kids⟩:=P
 exact frz3_tm m H k nm s b (cellsL kids)
theorem c16 (name:Bs):∀ H,CallOk E0 Tryz.prog 16 [.str name] H (.agg (pkT (skT name)).cells) H:=by
 have c1:=c42 name 1
 have c2:=rapp1 [115,107] (atomT name 1)
 have c3:=rapp1 [112,107] (skT name)
 have e2:Tm.mk 3 [115,107] 0 true [atomT name 1]=skT name:=rfl
 have e3:Tm.mk 3 [112,107] 0 true [skT name]=pkT (skT name):=rfl
 rw [e2] at c2
 rw [e3] at c3
 have hfr:=frz3_tmA (pkT (skT name))
 generalize pkT (skT name)=P at c3 hfr ⊢
 generalize skT name=S at c2 c3
 generalize atomT name 1=A at c1 c2
 obtain ⟨k1,nm1,s1,b1,kids1⟩:=P
 obtain ⟨k2,nm2,s2,b2,kids2⟩:=S
 obtain ⟨k3,nm3,s3,b3,kids3⟩:=A
 simp only [Tm.cells] at c1 c2 c3 hfr ⊢
 refine κw tOk fe16.ok (hfr 0 hNil) ?_
 repeat' first | refine κn ?_ | (apply qCl;rfl;rfl;rfl;rfl;first | exact c1 _ | exact c2 _ | exact c3 _) | refine κs ?_ | refine κg ?_ | refine κa ?_ | refine κf ?_ | fail
 all_goals exact hfr _ _
theorem quo_u8 {k:Nat} (hk:k < 256):aBin E0 .quo 5 (.int .u8 (k:Int)) (.int .u8 8)=some (.int .u8 ((k / 8:Nat):Int)):=by
 have h:∀ k:Fin 256,IntKind.u8.wrap (((k:Nat):Int).tdiv 8)=(((k:Nat) / 8:Nat):Int):=by decide
 show some (PV.int .u8 (IntKind.u8.wrap ((k:Int).tdiv 8)))=_
 rw [h ⟨k,hk⟩]
theorem gtr_u8 (a:Nat):aBin E0 .gtr 5 (.int .u8 (a:Int)) (.int .u8 0)=some (.bool (decide (0 < a))):=by
 show some (PV.bool (decide ((0:Int) < (a:Int))))=_
 have e:decide ((0:Int) < (a:Int))=decide (0 < a):=by
  rw [decide_eq_decide]
  omega
 rw [e]
theorem eqlN (a b:Int):aBin E0 .eql 3 (.int .i64 a) (.int .i64 b)=some (.bool (decide (a=b))):=by
 show some (PV.bool (a == b))=_
 by_cases h:a=b <;> simp [h]
theorem aud_both {X Y:Rd} (hx:RdOk 20000 X) (hy:RdOk 20000 Y):∃ (B:Bool) (e:Int),(∀ H,CallOk E0 Tryz.prog 14 [.agg X.cells,.agg Y.cells] H (.tup [.bool B,.int .i64 e]) H)∧(∀ H,CallOk E0 Tryz.prog 17 [.agg X.cells,.agg Y.cells] H (.tup [.bool B,.int .i64 e]) H):=
 ⟨_,_,c14 hx hy,c17 hx hy⟩
def spoilR (R:Nat) (P:Tm) (Y:Rd):Rd:=if R=1 then {Y with svc:=P} else if R=2 then {Y with size:=Y.size+1} else if R=3 then {Y with head:=P} else Y
theorem spoil_ok {R:Nat} {P:Tm} {Y:Rd} (hp:P.Ok∧P.size≤20000) (hy:RdOk 20000 Y):RdOk 20000 (spoilR R P Y):=by
 unfold spoilR
 split
 · exact ⟨hp,hy.2⟩
 · split
   · exact ⟨hy.1,hy.2⟩
   · split
     · exact ⟨hy.1,hp,hy.2.2⟩
     · exact hy
theorem c4 {l m:List Opp} (hl:∀ o,o∈l→o.ok) (hm:∀ o,o∈m→o.ok) (bl bm:Bool) {n:Nat} (hn:n < 256):∀ H,CallOk E0 Tryz.prog 4 [slV bl 3 (opC l),slV bm 3 (opC m),.int .u8 (n:Int)] H (.bool true) H:=by
 have haw:=awakeOk57
 have hq:=quo_u8 hn
 have hr:=rem_u8 n 4 (by omega)
 have hR:n % 4 < 4:=Nat.mod_lt _ (by omega)
 have c1:=c13 hl bl (n:=n / 8) (by omega)
 have c2:=c13 hm bm (n:=n / 8) (by omega)
 have cp:=c16 [120]
 have hp:(pkT (skT [120])).Ok∧(pkT (skT [120])).size≤20000:=by
  have h:=skT_ok (name:=[120]) (by decide)
  have:(pkT (skT [120])).size=(skT [120]).size+1:=size_kid
  exact ⟨ok1 (by decide) h.1,by omega⟩
 have hx:RdOk 20000 (folF l (n / 8)):=rd_more (folR_ok (folS_mad l) (subjN_len _)) (by omega)
 have hy:RdOk 20000 (folF m (n / 8)):=rd_more (folR_ok (folS_mad m) (subjN_len _)) (by omega)
 have sx:=(folR_spec (folS_mad l) (name:=subjN (n / 8))).2
 have sy:=(folR_spec (folS_mad m) (name:=subjN (n / 8))).2
 have hf:=fol_fork (folS_mad l) (folS_mad m) (name:=subjN (n / 8)) (name':=subjN (n / 8))
 have c3:=c14 hx hy
 have c4:=c15 hx.2.1.1 hy.2.1.1 (by have:=hx.2.1.2;omega) (by have:=hy.2.1.2;omega)
 obtain ⟨B,e,a1,a2⟩:=aud_both hx (spoil_ok (R:=n % 4) hp hy)
 have he:=erq_tt (rfl:e=e)
 have sx:0≤(folF l (n / 8)).size∧(folF l (n / 8)).size≤32:=sx
 have sy:0≤(folF m (n / 8)).size∧(folF m (n / 8)).size≤32:=sy
 have hf:0 < (folF l (n / 8)).size→(folF l (n / 8)).size=(folF m (n / 8)).size→audF (folF l (n / 8)) (folF m (n / 8))=(!decide ((folF l (n / 8)).head.cmp (folF m (n / 8)).head=0),0):=hf
 generalize folF l (n / 8)=X at c1 c3 c4 hf sx a1 a2
 generalize folF m (n / 8)=Y at c2 c3 c4 hf sy a1 a2
 generalize opC l=L at c1 ⊢
 generalize opC m=M at c2 ⊢
 obtain ⟨R,hRe⟩:∃ R,R=n % 4:=⟨_,rfl⟩
 rw [← hRe] at hr hR a1 a2
 have q0:=gtr_u8 R
 have q1:=eq_u8 R 1
 have q2:=eq_u8 R 2
 have q3:=eq_u8 R 3
 have gz1:=gtr_d X.size
 have g2:=eqlN X.size Y.size
 have ga:aBin E0 .add 3 (.int .i64 Y.size) (.int .i64 1)=some (.int .i64 (Y.size+1)):=by
  show some (PV.int .i64 (IntKind.i64.wrap (Y.size+1)))=_
  rw [IntWalk.i64_in _ (by omega)]
 generalize n / 8=N at hq c1 c2
 generalize pkT (skT [120])=P at cp a1 a2
 clear hx hy hn hl hm hp hRe
 have s0:spoilR 0 P Y=Y:=rfl
 have s1:spoilR 1 P Y=⟨P,Y.size,Y.head,Y.signed⟩:=rfl
 have s2:spoilR 2 P Y=⟨Y.svc,Y.size+1,Y.head,Y.signed⟩:=rfl
 have s3:spoilR 3 P Y=⟨Y.svc,Y.size,P,Y.signed⟩:=rfl
 have hRs:R=0∨R=1∨R=2∨R=3:=by omega
 clear hR
 by_cases k1:0 < X.size
 · rw [decide_eq_true k1] at gz1
   by_cases k2:X.size=Y.size
   · rw [decide_eq_true k2] at g2
     rw [hf k1 k2] at c3
     simp only [] at c3
     generalize decide (X.head.cmp Y.head=0)=D at c3 c4
     clear hf k1 k2 sx sy
     obtain ⟨⟨x1,xn1,xs1,xb1,xk1⟩,xn,⟨x2,xn2,xs2,xb2,xk2⟩,x3,xn3,xs3,xb3,xk3⟩:=X
     obtain ⟨⟨y1,yn1,ys1,yb1,yk1⟩,yn,⟨y2,yn2,ys2,yb2,yk2⟩,y3,yn3,ys3,yb3,yk3⟩:=Y
     obtain ⟨p1,pn1,ps1,pb1,pk1⟩:=P
     rcases hRs with rfl | rfl | rfl | rfl
     all_goals simp only [s0,s1,s2,s3] at a1 a2
     all_goals clear s0 s1 s2 s3
     all_goals simp only [Rd.cells,Tm.cells,List.cons_append,List.nil_append] at c1 c2 c3 c4 cp a1 a2 gz1 g2 ga
     all_goals cases D
     all_goals cases B
     all_goals
      refine κw tOk fe4.ok rfl ?_
      repeat' first | refine κn ?_ | (apply qCl;rfl;rfl;rfl;rfl;first | exact haw _ | exact c1 _ | exact c2 _ | exact cp _ | exact a1 _ | exact a2 _ | exact c3 _ | exact c4 _) | refine κi ?_ | refine κt ?_ | refine κg ?_ | refine κa ?_ | refine κf ?_ | fail
     all_goals rfl
   · rw [decide_eq_false k2] at g2
     clear hf k1 k2 sx sy c3 c4
     obtain ⟨⟨x1,xn1,xs1,xb1,xk1⟩,xn,⟨x2,xn2,xs2,xb2,xk2⟩,x3,xn3,xs3,xb3,xk3⟩:=X
     obtain ⟨⟨y1,yn1,ys1,yb1,yk1⟩,yn,⟨y2,yn2,ys2,yb2,yk2⟩,y3,yn3,ys3,yb3,yk3⟩:=Y
     obtain ⟨p1,pn1,ps1,pb1,pk1⟩:=P
     rcases hRs with rfl | rfl | rfl | rfl
     all_goals simp only [s0,s1,s2,s3] at a1 a2
     all_goals clear s0 s1 s2 s3
     all_goals simp only [Rd.cells,Tm.cells,List.cons_append,List.nil_append] at c1 c2 cp a1 a2 gz1 g2 ga
     all_goals cases B
     all_goals
      refine κw tOk fe4.ok rfl ?_
      repeat' first | refine κn ?_ | refine κk ?_ | (apply qCl;rfl;rfl;rfl;rfl;first | exact haw _ | exact c1 _ | exact c2 _ | exact cp _ | exact a1 _ | exact a2 _) | refine κi ?_ | refine κt ?_ | refine κg ?_ | refine κa ?_ | refine κf ?_ | fail
     all_goals rfl
 · rw [decide_eq_false k1] at gz1
   clear hf k1 sx sy c3 c4 g2
   obtain ⟨⟨x1,xn1,xs1,xb1,xk1⟩,xn,⟨x2,xn2,xs2,xb2,xk2⟩,x3,xn3,xs3,xb3,xk3⟩:=X
   obtain ⟨⟨y1,yn1,ys1,yb1,yk1⟩,yn,⟨y2,yn2,ys2,yb2,yk2⟩,y3,yn3,ys3,yb3,yk3⟩:=Y
   obtain ⟨p1,pn1,ps1,pb1,pk1⟩:=P
   rcases hRs with rfl | rfl | rfl | rfl
   all_goals simp only [s0,s1,s2,s3] at a1 a2
   all_goals clear s0 s1 s2 s3
   all_goals simp only [Rd.cells,Tm.cells,List.cons_append,List.nil_append] at c1 c2 cp a1 a2 gz1 ga
   all_goals cases B
   all_goals
    refine κw tOk fe4.ok rfl ?_
    repeat' first | refine κn ?_ | refine κk ?_ | (apply qCl;rfl;rfl;rfl;rfl;first | exact haw _ | exact c1 _ | exact c2 _ | exact cp _ | exact a1 _ | exact a2 _) | refine κi ?_ | refine κt ?_ | refine κg ?_ | refine κa ?_ | refine κf ?_ | fail
   all_goals rfl
end Go.Vm.Seat
namespace Go.Vm.Seat
open Go.Proofs Go.Proofs.YtjokjgoppbmaiaaGreatDoor Go.RowKit
theorem star0: "*" ++ "errors.errorString" = "*errors.errorString" :=by decide
theorem rowErr (u:TypeId) (h:Tryz.prog.typeName? 3 u=some "*errors.errorString"):u=286:=
 typeName_ptr_named (nm:= "errors.errorString") (by rw [star0];kernel_rfl) (by kernel_rfl) (by decide) u (by rw [star0];exact h)
theorem ld55 {W:World} (h:laidMetH Tryz.prog Rows.credentialMoreRow.laid W):GOk E0 (wG W):=by
 have h:laidMet Tryz.prog Rows.credentialMoreRow.laid W:=h
 have h2:=h.tail.tail
 have hT:Lib.TabIs Tryz.prog W "internal/strconv.uint64pow10" .u64 [1,10,100,1000,10000,100000,1000000,10000000,100000000,1000000000,10000000000,100000000000,1000000000000,10000000000000,100000000000000,1000000000000000,10000000000000000,100000000000000000,1000000000000000000,10000000000000000000]:=
  Lib.tabIs_of_head (g:=1) (t:=261) (e:=241) (n:=20) (by kernel_rfl) (by kernel_rfl) (by kernel_rfl) (by kernel_rfl) (by kernel_rfl) (by kernel_rfl) h2
 have h4:=h2.tail.tail
 obtain ⟨a1,s1,v1, -⟩:=laid_sentinel (g:=3) (ti:=194) h4 (by kernel_rfl) (by kernel_rfl) Tryz.underlying194 rowErr Tryz.underlying286 Tryz.underlying288 rfl rfl Tryz.underlying9 (by kernel_rfl) (by kernel_rfl)
 obtain ⟨a2,s2,v2, -⟩:=laid_sentinel (g:=2) (ti:=194) h4.tail (by kernel_rfl) (by kernel_rfl) Tryz.underlying194 rowErr Tryz.underlying286 Tryz.underlying288 rfl rfl Tryz.underlying9 (by kernel_rfl) (by kernel_rfl)
 refine ⟨fun k cs' hk=> ?_,fun h=>by simp [wG] at h,fun k hk=> ?_⟩
 · simp only [E0] at hk
   split at hk
   · rename_i hb
     obtain rfl:=Nat.eq_of_beq_eq_true hb
     cases hk
     refine .fptr pow10C 0 1 0 (fun j=>(W.cell? ⟨1,j,none⟩).getD undef) (fun j hj=> ?_) (fun j hj=> ?_)
     · have hl : j < 20 := by simpa [pow10C] using hj
       show wS W 1 (0+j)=_
       simp only [wS,Nat.zero_add]
       rw [hT.cell (by kernel_rfl) j (by simpa using hl)]
       rfl
     · have hl : j < 20 := by simpa [pow10C] using hj
       rw [hT.cell (by kernel_rfl) j (by simpa using hl)]
       match j,hl with
       | 0,_ | 1,_ | 2,_ | 3,_ | 4,_ | 5,_ | 6,_ | 7,_ | 8,_ | 9,_ | 10,_ | 11,_ | 12,_ | 13,_ | 14,_ | 15,_ | 16,_ | 17,_ | 18,_ | 19,_=>exact .int _ _
       | n+20,h=>exact absurd h (by omega)
   · cases hk
 · have hk : k = 2 ∨ k = 3 := by
     simp only [E0,List.any_cons,List.any_nil,Bool.or_false,Bool.or_eq_true] at hk
     rcases hk with e | e
     · exact .inl (Nat.eq_of_beq_eq_true e)
     · exact .inr (Nat.eq_of_beq_eq_true e)
   rcases hk with rfl | rfl
   · have c:=World.var?_cell (show Tryz.prog.globalNamed "strconv.ErrSyntax" = some 2 by kernel_rfl) v2 0
     exact ⟨_,_,c⟩
   · have c:=World.var?_cell (show Tryz.prog.globalNamed "strconv.ErrRange" = some 3 by kernel_rfl) v1 0
     exact ⟨_,_,c⟩
end Go.Vm.Seat
