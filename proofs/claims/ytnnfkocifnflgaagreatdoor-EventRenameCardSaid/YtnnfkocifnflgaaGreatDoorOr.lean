/-
  A copy of powers in a box of its own: exponent.copied.
-/
import Derived.Test.YtnnfkocifnflgaaGreatDoorOo
set_option maxHeartbeats 0
set_option maxRecDepth 100000
namespace Go.Vm
theorem ZjW {t:Tm} {n:Int} {l l':List Pw} (h:W3 l) (hn:n≠0) (e:t.col n l=some l'):W3 l':=by
 obtain ⟨h1,h2⟩:=UE t n l h hn
 cases ha:t.ari with
 | true =>
   obtain ⟨e1,e2⟩:=h1 ha
   rw [e] at e1
   cases e1
   exact e2
 | false =>
   rw [h2 ha] at e
   cases e
theorem ZgC {kz : List Tm} {i : Nat} {x : Tm} (n : Int) (l : List Pw) (h : kz[i]? = some x) : colL (kz.drop i) n l = match x.col n l with
  | some l'=>colL (kz.drop (i+1)) n l'
  | none=>none:=by
 rw [ZL h];rfl
end Go.Vm
namespace Go.Vm.Seat
variable {es:Nat} {H:Heap} {v:PV} {el:List (List PV)} {bx ext:List Box} {t:Tm} {l:List Pw}
open Go.Proofs
theorem Zfy (hf:Yc el=some el) (h:Mut es H.bx v el):Out es H v el:=by
 cases h with
 |nil=>exact .nil
 |own k _ h=>exact .own k el [] (by rw [List.append_nil];exact h) hf
theorem Zgs {v0:PV} {L:List Box} (h:Mut0 es v0 L el):Mut es (L++ext) v0 el:=by
 cases h with
 |nil=>exact .nil
 |own=>exact .own 0 el rfl
theorem Zax (h:Mut es bx v el):Mut es (bx++ext) v el:=by
 cases h with
 |nil=>exact .nil
 |own k _ h=>exact .own k el (by rw [List.getElem?_append_left (Zu h)];exact h)
def Zoc (c:Option (List Pw)) (r:PV) (H:Heap):Prop:=(∃ l' v,c=some l'∧r= .tup [v,.bool true]∧Out 5 H v (pwL l'))∨(c=none∧r= .tup [.nils,.bool false])
def Zns (t:Tm):Prop:=∀ {l:List Pw} {n B:Int},W3 l→PwB B l→0≤B→B+t.size≤1000000→l.length+t.size≤900→(n=1∨n= -1)→∀ {v0:PV} {L:List Box},Mut0 5 v0 L (pwL l)→
 ∃ r H1,CallOk E0 Tryz.prog 114 [v0,.agg t.cells,.int .i64 n] ⟨L,0,[],0⟩ r H1∧Zoc (t.col n l) r H1
theorem Zgf (t:Tm) (n:Int):ZP [.agg t.cells,.int .i64 n]=some [.agg t.cells,.int .i64 n]:=by
 obtain ⟨k,nm,s,b,kz⟩:=t
 simp only [Tm.cells,ZP,frzG,Uq,Yq]
 rfl
theorem ZnF (hw : Zns t) {n B : Int} (hA : W3 l) (hl : PwB B l) (hB : 0 ≤ B) (hBt : B + t.size ≤ 1000000) (hlen : l.length + t.size ≤ 900) (hn : n = 1 ∨ n = -1) (hv : Mut 5 bx v (pwL l)) :
  (∃ l',t.col n l=some l'∧∃ v' bx',CallOk E0 Tryz.prog 114 [v,.agg t.cells,.int .i64 n] ⟨bx,0,[],0⟩ (.tup [v',.bool true]) ⟨bx',0,[],0⟩∧Mut 5 bx' v' (pwL l')∧bx.length≤bx'.length)∨
  (t.col n l=none∧∃ bx',CallOk E0 Tryz.prog 114 [v,.agg t.cells,.int .i64 n] ⟨bx,0,[],0⟩ (.tup [.nils,.bool false]) ⟨bx',0,[],0⟩∧bx.length≤bx'.length):=by
 cases hc:t.col n l with
 | some l' =>
   refine .inl ⟨l',rfl,?_⟩
   obtain ⟨v',B',h1,h2, -⟩:=CallOk.mutT (E:=E0) (P:=Tryz.prog) (f:=114) (q:= .bool true) rfl (H:=⟨bx,0,[],0⟩) (el':=pwL l') rfl hv (Y0 l) (Zgf t n) fun v0 L hM=>by
    obtain ⟨r,H1,h1,h2⟩:=hw hA hl hB hBt hlen hn hM
    rw [hc] at h2
    rcases h2 with ⟨l2,v2,e,rfl,ho⟩|⟨e,_⟩
    · cases e
      exact ⟨v2,H1,h1,ho⟩
    · cases e
   exact ⟨v',_,h1,h2,by simp [XW]⟩
 | none =>
   refine .inr ⟨rfl,?_⟩
   have h1:=CallOk.mutF (E:=E0) (P:=Tryz.prog) (f:=114) (cs:=[.nils,.bool false]) rfl (H:=⟨bx,0,[],0⟩) rfl hv (Y0 l) (Zgf t n) fun v0 L hM=>by
    obtain ⟨r,H1,h1,h2⟩:=hw hA hl hB hBt hlen hn hM
    rw [hc] at h2
    rcases h2 with ⟨l2,v2,e,_⟩|⟨_,rfl⟩
    · cases e
    · exact ⟨H1,h1⟩
   exact ⟨_,h1,by simp [XW]⟩
theorem Vc (bx:List Box) (B:Box):nth (bx++ [B]) bx.length=some B:=by rw [Zn];simp
theorem Yi (bx:List Box) (x:Tm):Heap.wr ⟨bx++ [.cells 4 [zcT]],0,[],0⟩ (.ptr bx.length 4 0 0) x.cells=some ⟨bx++ [.cells 4 [x.cells]],0,[],0⟩:=by
 obtain ⟨k',nm',s',b',kz'⟩:=x
 have h:=ZbX (H:=⟨bx++ [.cells 4 [zcT]],0,[],0⟩) (id:=bx.length) (es:=4) (ix:=0) (off:=0) (el:=[zcT]) (cs:=(Tm.mk k' nm' s' b' kz').cells) (old:=zcT) (Vc _ _) rfl (Nat.le_refl 4) (Nat.zero_le _)
 rw [h]
 simp [Tm.cells,zcT]
theorem Zj2 (bx:List Box) (x:Tm):YB E0 34 (.ptr bx.length 4 0 0) ⟨bx++ [.cells 4 [x.cells]],0,[],0⟩=some (.agg x.cells):=by
 obtain ⟨k',nm',s',b',kz'⟩:=x
 exact Zaa rfl rfl (el:=[(Tm.mk k' nm' s' b' kz').cells]) (Vc _ _) rfl rfl
theorem ZbM (t:Tm) (n:Int):Qd E0 146 [(0,.agg t.cells),(1,.int .i64 n)]=some (.agg (pwC (t,n))):=by
 obtain ⟨k,nm,s,b,kz⟩:=t
 rfl
theorem Zpu (ht:t.Ok):t.size≤400→Zns t:=by
 induction ht with
 | @mk k nm s f kz hk hs hn hl hok ih=>
 intro hsz l n B hA hP hB hBt hlen hn1 v0 L hM
 have hins:=fun (h:(Tm.mk k nm s f kz).Ok) (bx:List Box) (hv:Mut 5 bx v0 (pwL l))=>ZgB (H:=⟨bx,0,[],0⟩) (n:=n) hA (hP.mono (by omega)) ⟨h,by omega⟩ (by omega) (by omega) rfl hv
 have hsp:=ZnL (.mk k nm s f kz)
 have hbd:=ZbM (.mk k nm s f kz) n
 simp only [Tm.size] at hsz hBt hlen
 have hkl:=Ya kz
 rw [Tm.col]
 simp only [Tm.sym,Tm.cells] at hsp hbd ⊢
 by_cases he:Zau k nm=true
 · rw [if_pos he]
   rw [he] at hsp
   clear hins hbd
   obtain ⟨n',hn'⟩:∃ n',n'=if nm=WJ then -n else n:=⟨_,rfl⟩
   have hn2:n'=1∨n'= -1:=by
    rw [hn']
    split<;>omega
   have hw:IntKind.i64.wrap (0-n)= -n:=by rw [IntWalk.i64_in _ (by omega)];omega
   have hlenK:=Zb kz
   obtain ⟨rfl,hnm⟩:=XU he
   rw [← hn']
   by_cases har:arB nm kz.length=true
   · rw [if_pos har]
     obtain ⟨C,hC⟩:∃ C,C=colL kz n' l:=⟨_,rfl⟩
     rw [← hC]
     have hmu:=Zgs (ext:=[.cells 4 [[.int .i64 3,.str nm,.int .i64 s,slV f 4 (Za kz)]]]) hM
     rcases Xr hM with ⟨rfl,rfl,hpn⟩|⟨rfl,rfl⟩
     all_goals
      rcases hnm with rfl|rfl|rfl
      all_goals
       first
        | rw [if_pos rfl] at hn'
        | rw [if_neg (by decide)] at hn'
       simp only [Za7,ZaI,Za0,Bool.not_eq_true',decide_eq_false_iff_not,decide_eq_true_eq] at har
       simp only [W7,WJ,Vn] at hsp hmu ⊢
       refine ZW (own:=fun _=>false) tOk fe114.ok ?_
       refine Wp.seq ?_
       repeat' first|refine Jk ?_|refine Jc (hsp _) ?_|refine Ji ?_|refine JJ ?_|refine Jl ?_|refine Jx ?_|refine Jt ?_|refine Jb ?_ ?_|(apply qT (ty:=0);rfl;rfl;rfl)|(apply qF (ty:=0);rfl;rfl;rfl)|refine Jz ?_ ?_|refine Jo ?_|intro hb
       all_goals try first
        | (exfalso;simp at hb<;>omega)
        | (exfalso;rw [hlenK] at hb;revert hb;simp only [bne_iff_ne,ne_eq];omega)
       refine Wp.while (fun m tm H => ∃ (i : Nat) (base : TM) (v : PV) (bx : List Box) (li : List Pw), i + m = kz.length ∧ W3 li ∧ PwB (B + Zl (kz.take i)) li ∧ li.length ≤ l.length + Zl (kz.take i) ∧ colL (kz.drop i) n' li = C ∧ Mut 5 bx v (pwL li) ∧
         tm=ovr base [(0,v),(2,.int .i64 n'),(52,slV f 4 (Za kz)),(53,.int .i64 (kz.length:Int)),(54,.int .i64 (i:Int))]∧H=⟨bx,0,[],0⟩)
        (fun m tm H hI=>?_) kz.length _ _ ⟨0,_,_,_,l,by omega,hA,by simpa [Zl] using hP,by simp [Zl],by rw [List.drop_zero,hC],hmu,Zf ⟨rfl,Ze (by first|(rw [hn'];done)|(rw [hn'];exact hw)),rfl,Ze (by rw [Zb]),rfl,trivial⟩,rfl⟩
       clear hmu hC hA hP hn1
       obtain ⟨i,base,v,bx,li,hi,fA,fP,fL,fC,fM,rfl,rfl⟩:=hI
       have h4:=ZE kz i
       by_cases hlt:i<kz.length
       · obtain ⟨x, hx⟩ : ∃ x, kz[i]? = some x := ⟨kz[i], by simp⟩
         have hm:x∈kz:=List.mem_of_getElem? hx
         have hle:=ZJ hm
         have h5:Zl (kz.take (i+1))=Zl (kz.take i)+x.size:=by
          rw [List.take_add_one,hx,Vu]
          simp [Zl]
         have h6:=ZE kz (i+1)
         rw [ZgC n' li hx] at fC
         have hn3: -1≤n'∧n'≤1:=by omega
         have hn4:n'≠0:=by omega
         have hs3:x.size≤100000:=by omega
         have hB3:0≤B+(Zl (kz.take i):Int):=by omega
         have fP':∀ l',x.col n' li=some l'→PwB (B+Zl (kz.take i)+x.size) l':=fun l' e=>ZjC x n' li l' (B+Zl (kz.take i)) hB3 hn3 (hok x hm) hs3 fP e
         have fL':∀ l',x.col n' li=some l'→l'.length≤li.length+x.size:=fun l' e=>Zc2 x n' li l' e
         have fA':∀ l',x.col n' li=some l'→W3 l':=fun l' e=>ZjW fA hn4 e
         have hv2:Mut 5 (bx++ [.cells 4 [x.cells]]) v (pwL li):=Zax fM
         have hcol:=ZnF (ih x hm (by omega)) fA fP (by omega) (by omega) (by omega) hn2 hv2
         have hal:∀ ρ,aOp E0 false ρ (.alloc 34) ⟨bx,0,[],0⟩=some (.ptr bx.length 4 0 0,⟨bx++ [.cells 4 [zcT]],0,[],0⟩):=fun ρ=>rfl
         have hwr:=Yi bx x
         have hld:=Zj2 bx x
         have hlx:=Zt (i:Int) (kz.length:Int)
         rw [decide_eq_true (by omega)] at hlx
         clear ih hv2
         rcases hcol with ⟨l',e,v',bx',hc,hM', -⟩|⟨e,bx',hc, -⟩
         · have p1 := fP' l' e
           have p2:=fL' l' e
           have p3:=fA' l' e
           rw [e] at fC
           obtain ⟨k',nm',s',b',kz'⟩:=x
           have hj:=Zh hx
           simp only [Tm.cells] at hc hld hwr
           clear fP' fL' fA' fM
           repeat' first|refine Jk ?_|refine Jc hc ?_|(apply RegQ.rAl;rfl;rfl;assumption)|refine Ji ?_|refine JJ ?_|(apply qLd;rfl;rfl;rfl;assumption;exact IsV.any _)|refine Jl ?_|refine Jx ?_|refine Jt ?_|refine Jb ?_ ?_|(apply qT (ty:=0);rfl;rfl;rfl)|(apply qF (ty:=0);rfl;rfl;rfl)|refine Jz ?_ ?_|refine Jo ?_|intro hb
           exact LoopI.go (m-1) (by omega) ⟨i+1,_,v',bx',l',by omega,p3,by rw [h5];exact p1.mono (by push_cast;omega),by omega,fC,hM',Zf ⟨rfl,rfl,rfl,rfl,Ze (Zc (n:=i+1) (by omega)),trivial⟩,rfl⟩
         · rw [e] at fC
           obtain ⟨k',nm',s',b',kz'⟩:=x
           have hj:=Zh hx
           simp only [Tm.cells] at hc hld hwr
           clear fP' fL' fA' fM
           repeat' first|refine Jk ?_|refine Jc hc ?_|(apply RegQ.rAl;rfl;rfl;assumption)|refine Ji ?_|refine JJ ?_|(apply qLd;rfl;rfl;rfl;assumption;exact IsV.any _)|refine Jl ?_|refine Jx ?_|refine Jt ?_|refine Jb ?_ ?_|(apply qT (ty:=0);rfl;rfl;rfl)|(apply qF (ty:=0);rfl;rfl;rfl)|refine Jz ?_ ?_|refine Jo ?_|intro hb
           exact RetR.ret rfl (.inr ⟨fC.symm,rfl⟩)
       · have e : i = kz.length := by omega
         subst e
         rw [List.drop_length,colL] at fC
         clear ih
         have hlx:=Zt (kz.length:Int) (kz.length:Int)
         rw [decide_eq_false (by omega)] at hlx
         repeat' first|refine Jk ?_|refine Ji ?_|refine JJ ?_|refine Jl ?_|refine Jx ?_|refine Jt ?_|refine Jb ?_ ?_|(apply qT (ty:=0);rfl;rfl;rfl)|(apply qF (ty:=0);rfl;rfl;rfl)|refine Jz ?_ ?_|refine Jo ?_|intro hb
         exact RetR.ret rfl (.inl ⟨li,v,fC.symm,rfl,Zfy (H:=⟨bx,0,[],0⟩) (Y0 li) fM⟩)
   · rw [if_neg har]
     clear ih
     rcases Xr hM with ⟨rfl,rfl,hpn⟩|⟨rfl,rfl⟩
     all_goals
      rcases hnm with rfl|rfl|rfl
      all_goals
       simp only [Za7,ZaI,Za0,Bool.not_eq_true',decide_eq_false_iff_not,decide_eq_true_eq] at har
       simp only [W7,WJ,Vn] at hsp ⊢
       refine ZW (own:=fun _=>false) tOk fe114.ok ?_
       refine Wp.seq ?_
       repeat' first|refine Jk ?_|refine Jc (hsp _) ?_|refine Ji ?_|refine JJ ?_|refine Jl ?_|refine Jx ?_|refine Jt ?_|refine Jb ?_ ?_|(apply qT (ty:=0);rfl;rfl;rfl)|(apply qF (ty:=0);rfl;rfl;rfl)|refine Jz ?_ ?_|refine Jo ?_|intro hb
       all_goals first
        | (exfalso;simp at hb<;>omega)
        | (exfalso;rw [hlenK] at hb;revert hb;simp only [bne_eq_false_iff_eq];omega)
        | exact RetR.ret rfl (.inr ⟨rfl,rfl⟩)
 · rw [if_neg he]
   rw [Bool.eq_false_iff.2 he] at hsp
   have hmu:=Zgs (ext:=[.cells 4 [[.int .i64 k,.str nm,.int .i64 s,slV f 4 (Za kz)]]]) hM
   obtain ⟨v',B',hc,hM', -⟩:=hins (.mk hk hs hn hl hok) _ hmu
   have hfin:=Zfy (H:=⟨_,0,[],0⟩) (Y0 _) hM'
   clear ih hins
   simp only [pwC,Tm.cells,List.cons_append,List.nil_append] at hbd hc
   rcases Xr hM with ⟨rfl,rfl,hpn⟩|⟨rfl,rfl⟩
   all_goals
    refine ZW (own:=fun _=>false) tOk fe114.ok ?_
    refine Wp.seq ?_
    repeat' first|refine Jk ?_|refine Jc (hsp _) ?_|refine Jc hc ?_|refine Ji ?_|(apply qBd;rfl;rfl;rfl;assumption;exact IsV.aggN)|refine JJ ?_|refine Jl ?_|refine Jx ?_|refine Jt ?_|refine Jb ?_ ?_|(apply qT (ty:=0);rfl;rfl;rfl)|(apply qF (ty:=0);rfl;rfl;rfl)|refine Jz ?_ ?_|refine Jo ?_|intro hb
    all_goals exact RetR.ret rfl (.inl ⟨_,v',rfl,rfl,hfin⟩)
theorem ZhD (hf:Yc el=some el) (h:Mut es bx v el):∃ b,frzC 0 ⟨bx,0,[],0⟩ v=some (slV b es el):=by
 cases h with
 |nil=>exact ⟨true,by rw [Zk];rfl⟩
 | own k _ h =>
   refine ⟨false,?_⟩
   have hn:nth bx k=some (.cells es el):=(Zn _ _).trans h
   simp only [frzC,Nat.not_lt_zero,if_false,hn]
   rw [if_pos ⟨trivial,by omega⟩,List.drop_zero,List.take_length,hf,Z0]
theorem Zlm {m:Nat} {p:PV} (h:frzC m H v=some p) (hv:∀ cs,v≠ .agg cs):frz2 m H v=some p:=by
 cases v
 case agg cs=>exact absurd rfl (hv cs)
 all_goals exact h
theorem Zjy (h:Mut es bx v el):∀ cs,v≠ .agg cs:=fun cs e=>by
 subst e
 cases h
theorem Zgk (hf:Yc el=some el) (h:Mut es bx v el):∃ b,∀ e:Int,frz3 0 ⟨bx,0,[],0⟩ (.tup [v,.int .i64 e])=some (.tup [slV b es el,.int .i64 e]):=by
 obtain ⟨b,hb⟩:=ZhD hf h
 refine ⟨b,fun e=>?_⟩
 rw [Wb]
 simp only [VZ,Zlm hb (Zjy h)]
 rfl
theorem Wz (h:Mut 5 bx v (pwL l)):(v= .nils∧l= [])∨∃ k,v= .own k 5 0 l.length∧bx[k]? = some (.cells 5 (pwL l)):=by
 generalize e:pwL l=el at h
 cases h with
 |nil=>exact .inl ⟨rfl,ZaC e⟩
 | own k _ hk =>
   subst e
   exact .inr ⟨k,by rw [ZK],hk⟩
theorem c68 (ht:t.Ok) (hs:t.size≤100000):∃ b,∀ H,CallOk E0 Tryz.prog 68 [.agg t.cells] H (.tup [slV b 5 (pwL (ofG t).1),.int .i64 (ofG t).2]) H:=by
 have hV:=c39 ht (by omega)
 have hnil:slV true 5 (pwL [])= .nils:=Zk 5
 unfold ofG
 by_cases h1:t.valid≠0
 · rw [if_pos h1]
   refine ⟨true,?_⟩
   rw [hnil]
   generalize t.valid=v at hV h1 ⊢
   have hne:=YK h1
   obtain ⟨k,nm,s,f,kz⟩:=t
   simp only [Tm.cells] at hV ⊢
   refine Jw tOk fe68.ok rfl ?_
   repeat' first|refine Jc (hV _) ?_|refine Ji ?_|refine Jl ?_|refine Jt ?_|refine Jb ?_ ?_|refine Jo ?_|intro hb
   all_goals rfl
 · rw [if_neg h1]
   have h1:=Classical.not_not.1 h1
   have hsz:=Y7 h1
   rw [h1] at hV
   have hcol:=ZnF (bx:=[.cells 4 [t.cells]]) (Zpu ht hsz) (l:=[]) (n:=1) (B:=0) trivial (PwB.nil 0) (by omega) (by omega) (by simp;omega) (.inl rfl) .nil
   rcases hcol with ⟨l',e,v',bx',hc,hM, -⟩|⟨e,bx',hc, -⟩
   · rw [e]
     obtain ⟨F,hF⟩:=Zgk (Y0 l') hM
     clear e
     dsimp only
     obtain ⟨n,hn⟩:∃ n,n=l'.length:=⟨_,rfl⟩
     have hgt:=XK (n:Int) 200
     have hmc:=Wz hM
     rw [← hn] at hmc
     by_cases h3:200<l'.length
     · rw [if_pos h3]
       refine ⟨true,?_⟩
       rw [hnil]
       rw [decide_eq_true (by omega)] at hgt
       clear hF
       obtain ⟨k,nm,s,f,kz⟩:=t
       simp only [Tm.cells] at hV hc ⊢
       refine Jw tOk fe68.ok rfl ?_
       rcases hmc with ⟨rfl,rfl⟩|⟨q,rfl, -⟩
       · exfalso;simp at h3
       repeat' first|refine Jc (hV _) ?_|refine Jc hc ?_|refine Ji ?_|refine Jl ?_|refine Jt ?_|refine Jb ?_ ?_|refine Jo ?_|intro hb
       all_goals rfl
     · rw [if_neg h3]
       refine ⟨F,?_⟩
       rw [decide_eq_false (by omega)] at hgt
       obtain ⟨k,nm,s,f,kz⟩:=t
       simp only [Tm.cells] at hV hc ⊢
       refine Jw tOk fe68.ok (Qp _ _ _ _ _) ?_
       rcases hmc with ⟨rfl,rfl⟩|⟨q,rfl, -⟩
       · obtain rfl : n = 0 := hn
         repeat' first|refine Jc (hV _) ?_|refine Jc hc ?_|refine Ji ?_|refine Jl ?_|refine Jt ?_|refine Jb ?_ ?_|refine Jo ?_|intro hb
         all_goals exact hF 0
       repeat' first|refine Jc (hV _) ?_|refine Jc hc ?_|refine Ji ?_|refine Jl ?_|refine Jt ?_|refine Jb ?_ ?_|refine Jo ?_|intro hb
       all_goals exact hF 0
   · rw [e]
     dsimp only
     refine ⟨true,?_⟩
     rw [hnil]
     clear e
     obtain ⟨k,nm,s,f,kz⟩:=t
     simp only [Tm.cells] at hV hc ⊢
     refine Jw tOk fe68.ok rfl ?_
     repeat' first|refine Jc (hV _) ?_|refine Jc hc ?_|refine Jl ?_|refine Jt ?_|refine Jb ?_ ?_|refine Jo ?_|intro hb
     all_goals rfl
def zcP:List PV:=[.int .i64 0,.str [],.int .i64 0,.nils,.int .i64 0]
theorem ZeT (bx:List Box) (x:Pw):Heap.wr ⟨bx++ [.cells 5 [zcP]],0,[],0⟩ (.ptr bx.length 5 0 0) (pwC x)=some ⟨bx++ [.cells 5 [pwC x]],0,[],0⟩:=by
 have h:=ZbX (H:=⟨bx++ [.cells 5 [zcP]],0,[],0⟩) (id:=bx.length) (es:=5) (ix:=0) (off:=0) (el:=[zcP]) (cs:=pwC x) (old:=zcP) (Vc _ _) rfl (by rw [ZcH];exact Nat.le_refl 5) (Nat.zero_le _)
 rw [h]
 obtain ⟨⟨k',nm',s',b',kz'⟩,n⟩:=x
 simp [pwC,Tm.cells,zcP]
theorem Zj8 (bx:List Box) (x:Pw):YB E0 146 (.ptr bx.length 5 0 0) ⟨bx++ [.cells 5 [pwC x]],0,[],0⟩=some (.agg (pwC x)):=by
 obtain ⟨⟨k',nm',s',b',kz'⟩,n⟩:=x
 exact Zaa rfl rfl (el:=[pwC (Tm.mk k' nm' s' b' kz',n)]) (Vc _ _) rfl rfl
theorem Zhi (bx:List Box) (x:Pw):YB E0 34 (.ptr bx.length 5 0 0) ⟨bx++ [.cells 5 [pwC x]],0,[],0⟩=some (.agg x.1.cells):=by
 obtain ⟨ti,ht,hk,hs⟩:∃ ti,E0.T 34=some ti∧Us ti.tk=true∧ti.size=4:=⟨_,rfl,rfl,rfl⟩
 obtain ⟨⟨k',nm',s',b',kz'⟩,n⟩:=x
 simp only [YB,ht,hk,if_true]
 rw [Zjo (Vc _ _) (cs:=pwC (Tm.mk k' nm' s' b' kz',n)) rfl (by rw [ZcH];omega)]
 simp only [ZgY,hk,if_true,hs]
 rfl
theorem Zh0 (bx:List Box) (x:Pw):YB E0 3 (.ptr bx.length 5 0 4) ⟨bx++ [.cells 5 [pwC x]],0,[],0⟩=some (.int .i64 x.2):=
 Zec (ti:=⟨.int .i64,1,8,.int .i64 0⟩) rfl rfl (el:=[pwC x]) (Vc _ _) rfl (by
  obtain ⟨⟨k,nm,s,b,kz⟩,m⟩:=x
  rfl)
theorem Zln (y:Pw) (hv:Mut 5 bx v (pwL l)) (hl:l.length≤1000000):∃ bx',ZO E0 106 106 v (.sl .full 5 [pwC y]) ⟨bx,0,[],0⟩=some (.own bx.length 5 0 (l.length+1),⟨bx',0,[],0⟩)∧Mut 5 bx' (.own bx.length 5 0 (l.length+1)) (pwL (l++ [y]))∧bx'.length=bx.length+1:=by
 have hok:(pwL [y]).all (fun c=>c.all Z3)=true:=Qa [y]
 rcases Wz hv with ⟨rfl,rfl⟩|⟨k,rfl,hk⟩
 · have he := Z7 (s := .nils) apT_pw (ElV.sl .full 5 (pwL [y])) hok rfl rfl ⟨bx, 0, [], 0⟩
   refine ⟨bx++ [.cells 5 (pwL [y])],?_,?_,by simp⟩
   · have he : XF E0 106 106 .nils (.sl .full 5 [pwC y]) ⟨bx, 0, [], 0⟩ = some (5, 64, [pwC y]) := he
     simp only [ZO,he,YQ]
     rw [if_pos (ZX (by simp) (by decide))]
     rfl
   · exact .own bx.length (pwL [y]) (by simp)
 · have hnth : nth bx k = some (.cells 5 (pwL l)) := (Zn _ _).trans hk
   have hs:=Zdg (H:=⟨bx,0,[],0⟩) (id:=k) (M:=l) hnth
   have he:XF E0 106 106 (.own k 5 0 l.length) (.sl .full 5 [pwC y]) ⟨bx,0,[],0⟩=some (5,64,[pwC y]):=Z7 (s:= .own k 5 0 l.length) apT_pw (ElV.sl .full 5 (pwL [y])) hok rfl rfl ⟨bx,0,[],0⟩
   refine ⟨bx.set k .dead++ [.cells 5 (pwL (l++ [y]))],?_,?_,by simp⟩
   · simp only [ZO, he, YQ, Vj, hs]
     rw [if_pos ⟨trivial,Nat.zero_le _,ZK l,ZX (by rw [ZK];simp;omega) (by decide)⟩,Zcp,ZK]
     rfl
   · have := Mut.own (es := 5) (bx := bx.set k .dead ++ [.cells 5 (pwL (l ++ [y]))]) bx.length (pwL (l ++ [y])) (by rw [List.getElem?_append_right (by simp)]; simp)
     rwa [ZK,List.length_append] at this
theorem Zpw (hl:∀ x,x∈l→x.1.Ok∧x.1.size≤100000) (hlen:l.length≤1000) (b:Bool):∃ v bx,CallOk E0 Tryz.prog 157 [slV b 5 (pwL l)] hNil v ⟨bx,0,[],0⟩∧Mut 5 bx v (pwL l):=by
 have hpl:=ZK l
 have key:∃ r H1,CallOk E0 Tryz.prog 157 [slV b 5 (pwL l)] hNil r H1∧∃ bx,H1=⟨bx,0,[],0⟩∧Mut 5 bx r (pwL l):=by
  refine ZW (own:=fun d=>Nat.beq d 20) tOk fe157.ok ?_
  refine Wp.seq ?_
  repeat' first|refine Js ?_|refine JA ?_|refine Ji ?_|refine JJ ?_|refine Jl ?_|refine Jx ?_|(apply qT (ty:=0);rfl;rfl;rfl)|(apply qF (ty:=0);rfl;rfl;rfl)|refine Jz ?_ ?_|refine Jo ?_|refine JB ?_|(apply dAq;rfl;rfl;rfl;rfl;rfl;rfl;(first|assumption|solve_by_elim))|(apply dAp;rfl;rfl;rfl;rfl;rfl;(first|assumption|solve_by_elim);rfl)|refine JD ?_|refine JK ?_|(apply dLn;rfl;rfl;rfl;rfl;rfl)|refine JI ?_|(apply dT (ty:=0);rfl;rfl;rfl;rfl)|(apply dF (ty:=0);rfl;rfl;rfl;rfl)|(apply dB (ty:=0);rfl;rfl;rfl;rfl)|refine Jh ?_|(apply Wp.draw tOk follows;kernel_rfl)|intro hb
  refine Wp.while (fun m tm H => ∃ (i : Nat) (base : TM) (v : PV) (bx : List Box), i + m = l.length ∧ Mut 5 bx v (pwL (l.take i)) ∧
    tm=ovr base [(3,v),(6,slV b 5 (pwL l)),(7,.int .i64 (l.length:Int)),(8,.int .i64 (i:Int))]∧H=⟨bx,0,[],0⟩)
   (fun m tm H hI=>?_) l.length _ _ ⟨0,_,_,_,by omega,.nil,Zf ⟨rfl,rfl,Ze (by rw [hpl]),rfl,trivial⟩,rfl⟩
  obtain ⟨i,base,v,bx,hi,hM,rfl,rfl⟩:=hI
  by_cases hlt:i<l.length
  · obtain ⟨x, hx⟩ : ∃ x, l[i]? = some x := ⟨l[i], by simp⟩
    have hxs:=hl x (List.mem_of_getElem? hx)
    have hc:=ZlY hxs.1 hxs.2
    have hlx:=Zt (i:Int) (l.length:Int)
    rw [decide_eq_true (by omega)] at hlx
    have hal:∀ ρ,aOp E0 false ρ (.alloc 146) ⟨bx,0,[],0⟩=some (.ptr bx.length 5 0 0,⟨bx++ [.cells 5 [zcP]],0,[],0⟩):=fun ρ=>rfl
    have hwr:=ZeT bx x
    have hld:=Zhi bx x
    have hldn:=Zh0 bx x
    obtain ⟨bx',hap,hM',hbl⟩:=Zln x (Zax (ext:=[.cells 5 [pwC x]]) hM) (by rw [List.length_take];omega)
    have hle:(bx++ [Box.cells 5 [pwC x]]).length≤bx'.length:=by omega
    have etk:l.take (i+1)=l.take i++ [x]:=by rw [List.take_add_one,hx];rfl
    rw [← etk] at hM'
    rw [List.length_take,Nat.min_eq_left (by omega)] at hap hM'
    have hbt:Nat.blt bx.length (bx++ [Box.cells 5 [pwC x]]).length=true:=by simp [Nat.blt]
    have hbd:=ZbM x.1 x.2
    have hj:=YY hx
    obtain ⟨⟨k',nm',s',b',kz'⟩,xn⟩:=x
    simp only [pwC,Tm.cells,List.cons_append,List.nil_append] at hc hld hldn hwr hbd hj hap hle hbt
    clear hM
    repeat' first|refine Jc (hc _) ?_|(apply RegQ.rAl;rfl;rfl;assumption)|refine Js ?_|refine JA ?_|refine Ji ?_|(apply qBd;rfl;rfl;rfl;assumption;exact IsV.aggN)|refine JJ ?_|(apply qLd;rfl;rfl;rfl;assumption;exact IsV.any _)|refine Jl ?_|refine Jx ?_|(apply qT (ty:=0);rfl;rfl;rfl)|(apply qF (ty:=0);rfl;rfl;rfl)|refine Jz ?_ ?_|refine Jo ?_|refine Jd (hc _) ?_|refine JB ?_|(apply Zoj;rfl;rfl;rfl;rfl;rfl;rfl;assumption;assumption)|(apply dAq;rfl;rfl;rfl;rfl;rfl;rfl;(first|assumption|solve_by_elim))|(apply dAp;rfl;rfl;rfl;rfl;rfl;(first|assumption|solve_by_elim);rfl)|refine JD ?_|(apply dBd;rfl;rfl;rfl;assumption;exact IsV.aggN;rfl)|refine JK ?_|(apply dLd;rfl;rfl;rfl;assumption;exact IsV.any _;(first|rfl|(show Nat.blt _ _=true;first|assumption|(simp [Nat.blt];done))))|(apply dLn;rfl;rfl;rfl;rfl;rfl)|refine JI ?_|(apply dT (ty:=0);rfl;rfl;rfl;rfl)|(apply dF (ty:=0);rfl;rfl;rfl;rfl)|(apply dB (ty:=0);rfl;rfl;rfl;rfl)|refine Jh ?_|(apply Wp.draw tOk follows;kernel_rfl)|intro hb
    exact LoopI.go (m-1) (by omega) ⟨i+1,_,_,_,by omega,hM',Zf ⟨rfl,rfl,rfl,Ze (Zc (n:=i+1) (by omega)),trivial⟩,rfl⟩
  · have e : i = l.length := by omega
    subst e
    rw [List.take_length] at hM
    have hlx:=Zt (l.length:Int) (l.length:Int)
    rw [decide_eq_false (by omega)] at hlx
    repeat' first|refine Js ?_|refine JA ?_|refine Ji ?_|refine JJ ?_|refine Jl ?_|refine Jx ?_|(apply qT (ty:=0);rfl;rfl;rfl)|(apply qF (ty:=0);rfl;rfl;rfl)|refine Jz ?_ ?_|refine Jo ?_|refine JB ?_|(apply dAq;rfl;rfl;rfl;rfl;rfl;rfl;(first|assumption|solve_by_elim))|(apply dAp;rfl;rfl;rfl;rfl;rfl;(first|assumption|solve_by_elim);rfl)|refine JD ?_|refine JK ?_|(apply dLn;rfl;rfl;rfl;rfl;rfl)|refine JI ?_|(apply dT (ty:=0);rfl;rfl;rfl;rfl)|(apply dF (ty:=0);rfl;rfl;rfl;rfl)|(apply dB (ty:=0);rfl;rfl;rfl;rfl)|refine Jh ?_|(apply Wp.draw tOk follows;kernel_rfl)|intro hb
    exact RetR.ret rfl ⟨bx,rfl,hM⟩
 obtain ⟨r,H1,h1,bx,rfl,h2⟩:=key
 exact ⟨r,bx,h1,h2⟩
