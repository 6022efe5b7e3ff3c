/-
  The names that have a key in a log, as the document lists them. The names that have a key in a log: the document's function.
-/
import Derived.Test.YtjokjgoppbmaiaaGreatDoorEc
set_option maxHeartbeats 64000000
set_option maxRecDepth 100000
namespace Go.Vm.Seat
open Go.Proofs
structure En where
 name:Bs
 key:Tm
 idx:Int
def En.cells (e:En):List PV:= .str e.name :: (e.key.cells ++ [.int .i64 e.idx])
def enC (l:List En):List (List PV):=l.map En.cells
theorem enC_len (l:List En):(enC l).length=l.length:=by simp [enC]
theorem enC_get {l:List En} {i:Nat} {e:En} (h:l[i]? = some e):(enC l)[i]? = some e.cells:=by simp [enC,h]
theorem enC_ok (l:List En):(enC l).all (fun c=>c.all cellOk)=true:=by
 rw [enC,List.all_map,List.all_eq_true]
 rintro ⟨nm,⟨k,n,s,b,kids⟩,i⟩ _
 simp only [Function.comp,En.cells,Tm.cells,List.cons_append,List.nil_append,List.all_cons,List.all_nil,cellOk_slV]
 rfl
theorem noB_enC (l:List En):noB (enC l)=true:=by
 rw [enC,noB,List.all_map,List.all_eq_true]
 rintro ⟨nm,⟨k,n,s,b,kids⟩,i⟩ _
 rfl
theorem enC_app (l m:List En):enC (l ++ m)=enC l ++ enC m:=by simp [enC]
theorem apT_en:ApT E0 60 60 6 80:=⟨_,_,_,_,_,rfl,rfl,rfl,rfl,rfl,rfl,rfl,by decide,rfl⟩
def befN (name:Bs) (l:List En):Nat:=(l.filter fun e=>Op.bytesLess e.name name).length
theorem bef_le (name:Bs) (l:List En):befN name l≤l.length:=List.length_filter_le _ _
theorem bef_step {name:Bs} {l:List En} {i:Nat} {e:En} (h:l[i]? = some e):befN name (l.take (i+1))=befN name (l.take i)+if Op.bytesLess e.name name then 1 else 0:=by
 have h2:l.take (i+1)=l.take i ++ [e]:=by
  rw [List.take_add_one,h]
  rfl
 rw [h2,befN,List.filter_append,List.length_append]
 congr 1
 simp only [List.filter_cons,List.filter_nil]
 split <;> simp_all
theorem lssS (a b:Bs):aBin E0 .lss 9 (.str a) (.str b)=some (.bool (Op.bytesLess a b)):=rfl
theorem c214 {l:List En} (hll:l.length≤1000) (name:Bs) (b:Bool):∀ H,CallOk E0 Tryz.prog 214 [slV b 6 (enC l),.str name] H (.int .i64 (befN name l:Int)) H:=by
 have h1:=enC_len l
 refine κw tOk fe214.ok rfl ?_
 repeat' first | refine κn ?_ | refine κg ?_ | refine κa ?_ | fail
 refine Wp.while (fun k tm H=>∃ (i:Nat) (base:TM),i+k=l.length∧tm=ovr base [(0,slV b 6 (enC l)),(1,.str name),(5,.int .i64 (befN name (l.take i):Int)),(6,.int .i64 (i:Int))]∧H=⟨[],0,[],0⟩)
  (fun k tm H hI=> ?_) l.length _ _ ⟨0,_,by omega,ovr_mk ⟨rfl,rfl,rfl,rfl,trivial⟩,rfl⟩
 obtain ⟨i,base,hi,rfl,rfl⟩:=hI
 by_cases hlt:i < l.length
 · obtain ⟨e, he⟩ : ∃ e, l[i]? = some e := ⟨l[i], by simp⟩
   have hlx:aBin E0 .lss 3 (.int .i64 (i:Int)) (.int .i64 ((enC l).length:Int))=some (.bool true):=lss_t (by omega)
   have hst:=bef_step (name:=name) he
   have hls:=lssS e.name name
   have hle:=bef_le name (l.take i)
   rw [List.length_take] at hle
   have hj:=enC_get he
   generalize befN name (l.take i)=B at hst hle ⊢
   generalize hS:Op.bytesLess e.name name=S at hst hls
   obtain ⟨nm,⟨k',n',s',b',kids'⟩,x⟩:=e
   simp only [En.cells,Tm.cells,List.cons_append,List.nil_append] at hj hls
   cases S with
   | true =>
     repeat' first | refine κn ?_ | refine κi ?_ | refine κl ?_ | refine κx ?_ | refine κg ?_ | refine κa ?_ | fail
     exact LoopI.go (k - 1) (by omega) ⟨i+1,_,by omega,ovr_mk ⟨rfl,rfl,int_eq (by rw [hst,if_pos rfl];exact wrap_nat (n:=B+1) (by omega)),int_eq (wrap_nat (n:=i+1) (by omega)),trivial⟩,rfl⟩
   | false =>
     repeat' first | refine κn ?_ | refine κi ?_ | refine κl ?_ | refine κx ?_ | refine κg ?_ | refine κa ?_ | fail
     exact LoopI.go (k - 1) (by omega) ⟨i+1,_,by omega,ovr_mk ⟨rfl,rfl,int_eq (by rw [hst];rfl),int_eq (wrap_nat (n:=i+1) (by omega)),trivial⟩,rfl⟩
 · have e : i = l.length := by omega
   subst e
   rw [List.take_length]
   have hlx:aBin E0 .lss 3 (.int .i64 (l.length:Int)) (.int .i64 ((enC l).length:Int))=some (.bool false):=lss_f (by omega)
   repeat' first | refine κn ?_ | refine κi ?_ | refine κl ?_ | refine κg ?_ | refine κa ?_ | refine κf ?_ | fail
   all_goals rfl
def insE (out:List En) (n:Nat) (e:En):List En:=out.take n ++ [e] ++ out.drop n
def keyStep (l:List Tm) (out:List En) (i:Nat) (t:Tm):List En:=
 if (lookF (readP t).1.sub l.reverse).2.2=false∨(lookF (readP t).1.sub l.reverse).2.1≠i then out else
  insE out (befN (readP t).1.sub out) ⟨(readP t).1.sub,(lookF (readP t).1.sub l.reverse).1,((lookF (readP t).1.sub l.reverse).2.1:Int)⟩
def keysF (l:List Tm):Nat→List En
 | 0=>[]
 | i + 1 => match l[i]? with
   | some t=>keyStep l (keysF l i) i t
   | none=>keysF l i
theorem keysF_len (l:List Tm):∀ i,(keysF l i).length≤i
 | 0=>by simp [keysF]
 | i + 1 => by
   have ih:=keysF_len l i
   simp only [keysF]
   split
   · unfold keyStep insE
     split
     · omega
     · simp only [List.length_append, List.length_take, List.length_drop, List.length_singleton]
       omega
   · omega
theorem lookF_ok {name:Bs} {S:Nat} (h1:1≤S):∀ {l:List Tm},(∀ t,t∈l→t.Ok∧t.size≤S)→(lookF name l).1.Ok∧(lookF name l).1.size≤S∧(lookF name l).2.1≤l.length
 | [],_=>⟨Tm.ok_zero,by simpa [lookF,Tm.zero,Tm.size,sizeL] using h1,Nat.zero_le _⟩
 | t :: r, h => by
   simp only [lookF]
   split
   · have := read_key (h t (by simp)).1 (h t (by simp)).2 h1
     exact ⟨this.1,this.2.1,by simp⟩
   · obtain ⟨a, b, c⟩ := lookF_ok (name := name) h1 (l := r) fun u hu => h u (by simp [hu])
     exact ⟨a,b,by simp only [List.length_cons];omega⟩
def EnsOk (S:Nat) (l:List En):Prop:=∀ e,e∈l→(e.key.Ok∧e.key.size≤S)∧e.name.length≤1000
theorem keysF_ok {l:List Tm} {S:Nat} (h1:1≤S) (h:∀ t,t∈l→t.Ok∧t.size≤S):∀ i,EnsOk S (keysF l i)
 | 0=>by intro e he;simp [keysF] at he
 | i + 1 => by
   have ih:=keysF_ok h1 h i
   simp only [keysF]
   split
   · rename_i t ht
     have hm:=List.mem_of_getElem? ht
     unfold keyStep insE
     split
     · exact ih
     · intro e he
       simp only [List.mem_append,List.mem_singleton] at he
       rcases he with (he | rfl) | he
       · exact ih e (List.mem_of_mem_take he)
       · have a := lookF_ok (name := (readP t).1.sub) h1 (l := l.reverse) fun u hu => h u (List.mem_reverse.1 hu)
         exact ⟨⟨a.1,a.2.1⟩,(read_key (h t hm).1 (h t hm).2 h1).2.2⟩
       · exact ih e (List.mem_of_mem_drop he)
   · exact ih
theorem preV {es:Nat} {tl:Tail} {L:List (List PV)} {ei:TI} {e:TypeId} {T:TypeId} {ti:TI} (hT:E0.T T=some ti) (hk:ti.tk= .slice e) (he:E0.T e=some ei) (hes:ei.size=es) {k:Nat} (h:k≤L.length):∃ tl',aSlice E0 T (.sl tl es L) none (some (.int .i64 (k:Int))) none=some (.sl tl' es (L.take k)):=by
 simp only [aSlice,hT,hk,he,hes,if_true,maxOf,bound,nat_i]
 rw [if_pos (by simpa using h)]
 simp
theorem sufV {es:Nat} {tl:Tail} {L:List (List PV)} {ei:TI} {e:TypeId} {T:TypeId} {ti:TI} (hT:E0.T T=some ti) (hk:ti.tk= .slice e) (he:E0.T e=some ei) (hes:ei.size=es) {k:Nat} (h:k≤L.length):∃ tl',aSlice E0 T (.sl tl es L) (some (.int .i64 (k:Int))) none none=some (.sl tl' es (L.drop k)):=by
 simp only [aSlice,hT,hk,he,hes,if_true,maxOf,bound,nat_i]
 rw [if_pos (by simpa using h)]
 simp
end Go.Vm.Seat
namespace Go.Vm.Seat
open Go.Proofs
theorem eSl:E0.T 60=some ⟨.slice 98,1,24,.nils⟩:=by kernel_rfl
theorem eEn:E0.T 98=some ⟨.struct [(0,9),(1,24),(5,3)],6,80,.agg [.str [],.int .i64 0,.str [],.int .i64 0,.nils,.int .i64 0]⟩:=by kernel_rfl
theorem buildEn (name:Bs) (key:Tm) (i:Int):aBuild E0 98 [(0,.str name),(1,.agg key.cells),(2,.int .i64 i)]=some (.agg (En.mk name key i).cells):=by
 obtain ⟨k,nm,s,b,kids⟩:=key
 rfl
theorem cutsV {b : Bool} {out : PV} {L : List (List PV)} {lv : List Nat} {nt : Nat} (h : ApV b 6 L out lv nt) {k : Nat} (hk : k ≤ L.length) :
  ∃ x y,aSlice E0 60 out none (some (.int .i64 (k:Int))) none=some x∧aSlice E0 60 out (some (.int .i64 (k:Int))) none none=some y∧ElV 6 x (L.take k)∧ElV 6 y (L.drop k):=by
 cases h with
 | nil _ _ _ =>
   obtain rfl:k=0:=by simpa using hk
   exact ⟨.nils,.nils,by simp only [aSlice,eSl,eEn,maxOf,bound];rfl,by simp only [aSlice,eSl,eEn,maxOf,bound];rfl,.nils 6,.nils 6⟩
 | full _ _ _ h =>
   obtain ⟨t1,h1⟩:=preV (tl:= .full) eSl rfl eEn rfl hk
   obtain ⟨t2,h2⟩:=sufV (tl:= .full) eSl rfl eEn rfl hk
   exact ⟨_,_,h1,h2,.sl _ _ _,.sl _ _ _⟩
 | tok _ t _ _ _ _ _ _ =>
   obtain ⟨t1,h1⟩:=preV (tl:= .tok t) eSl rfl eEn rfl hk
   obtain ⟨t2,h2⟩:=sufV (tl:= .tok t) eSl rfl eEn rfl hk
   exact ⟨_,_,h1,h2,.sl _ _ _,.sl _ _ _⟩
theorem enC_take (l:List En) (k:Nat):(enC l).take k=enC (l.take k):=by simp [enC,List.map_take]
theorem enC_drop (l:List En) (k:Nat):(enC l).drop k=enC (l.drop k):=by simp [enC,List.map_drop]
theorem insV {b : Bool} {K : List En} {out : PV} {lv : List Nat} {nt : Nat} (h : ApV b 6 (enC K) out lv nt) (hK : K.length ≤ 1000) {n : Nat} (hn : n ≤ K.length) (e : En) :
  ∃ x y o1 lv1 nt1 o2 lv2 nt2 o3 lv3 nt3,aSlice E0 60 out none (some (.int .i64 (n:Int))) none=some x∧aSlice E0 60 out (some (.int .i64 (n:Int))) none none=some y∧
   (∀ bx ro,aAppend E0 60 60 (.sl .full 6 []) x ⟨bx,ro,lv,nt⟩=some (o1,⟨bx,ro,lv1,nt1⟩))∧
   (∀ bx ro,aAppend E0 60 60 o1 (.sl .full 6 [e.cells]) ⟨bx,ro,lv1,nt1⟩=some (o2,⟨bx,ro,lv2,nt2⟩))∧
   (∀ bx ro,aAppend E0 60 60 o2 y ⟨bx,ro,lv2,nt2⟩=some (o3,⟨bx,ro,lv3,nt3⟩))∧ApV false 6 (enC (insE K n e)) o3 lv3 nt3:=by
 obtain ⟨x,y,hx,hy,ex,ey⟩:=cutsV h (k:=n) (by rw [enC_len];exact hn)
 rw [enC_take] at ex
 rw [enC_drop] at ey
 have h0:ApV false 6 (enC []) (.sl .full 6 []) lv nt:= .full [] _ _ rfl rfl
 obtain ⟨o1,lv1,nt1,a1,A1, -⟩:=h0.app apT_en ex (enC_ok _) (fits_of (by simp only [enC_len,List.length_nil,List.length_take];omega) (by decide)) (noB_enC _)
 rw [← enC_app,List.nil_append] at A1
 have e1:ElV 6 (.sl .full 6 [e.cells]) (enC [e]):= .sl _ _ _
 obtain ⟨o2,lv2,nt2,a2,A2, -⟩:=A1.app apT_en e1 (enC_ok _) (fits_of (by simp only [enC_len,List.length_take,List.length_cons,List.length_nil];omega) (by decide)) (noB_enC _)
 rw [← enC_app] at A2
 obtain ⟨o3,lv3,nt3,a3,A3, -⟩:=A2.app apT_en ey (enC_ok _) (fits_of (by simp only [enC_len,List.length_append,List.length_take,List.length_drop,List.length_cons,List.length_nil];omega) (by decide)) (noB_enC _)
 rw [← enC_app] at A3
 exact ⟨x,y,o1,lv1,nt1,o2,lv2,nt2,o3,lv3,nt3,hx,hy,a1,a2,a3,A3⟩
theorem neq0_f {a b:Int} (h:a=b):aBin E0 .neq 3 (.int .i64 a) (.int .i64 b)=some (.bool false):=by
 show some (PV.bool (!(a == b)))=_
 rw [h,beq_self_eq_true]
 rfl
theorem insE_ne (K:List En) (n:Nat) (e:En):insE K n e≠ []:=by simp [insE]
theorem slVb (b c:Bool) {L:List (List PV)} (h:L≠ []):slV b 6 L=slV c 6 L:=by
 cases L with
 | nil=>exact absurd rfl h
 | cons a r=>rw [slV_cons,slV_cons]
theorem slV_of {b:Bool} {K:List En} (h:K= []→b=true):slV b 6 (enC K)=slV true 6 (enC K):=by
 cases K with
 | nil=>rw [h rfl]
 | cons a r=>exact slVb _ _ (by simp [enC])
theorem c150 {l:List Tm} (hok:∀ t,t∈l→t.Ok) (hs:∀ t,t∈l→t.size≤900) (hll:l.length≤40) (b:Bool):∀ H,CallOk E0 Tryz.prog 150 [slV b 4 (cellsL l)] H (slV true 6 (enC (keysF l l.length))) H:=by
 have h1:=cellsL_length l
 refine callOk_wp (own:=(fun d=>[5048,5055,5059].any (Nat.beq d))) tOk fe150.ok (by simp only [frzGL,frzG_slV]) (frz3_slV _ _ _ _ _) ?_
 refine Wp.seq ?_
 repeat' first | refine κn ?_ | refine κg ?_ | refine κa ?_ | fail
 refine Wp.while (fun k tm H => ∃ (i : Nat) (c : Bool) (base : TM) (out : PV) (lv : List Nat) (nt : Nat), i + k = l.length ∧ (keysF l i = [] → c = true) ∧ ApV c 6 (enC (keysF l i)) out lv nt ∧
   tm=ovr base [(0,slV b 4 (cellsL l)),(3,out),(4,.int .i64 (i:Int))]∧H=⟨[],0,lv,nt⟩)
  (fun k tm H hI=>Wp.drop ?_) l.length _ _ ⟨0,true,_,_,_,_,by omega,fun _=>rfl,.nil _ _ rfl,ovr_mk ⟨rfl,rfl,rfl,trivial⟩,rfl⟩
 obtain ⟨i,c,base,out,lv,nt,hi,hc,hA,rfl,rfl⟩:=hI
 have hun:=hA.under 0
 by_cases hlt:i < l.length
 · obtain ⟨t, ht⟩ : ∃ t, l[i]? = some t := ⟨l[i], by simp⟩
   have hm:=List.mem_of_getElem? ht
   have hlx:aBin E0 .lss 3 (.int .i64 (i:Int)) (.int .i64 ((cellsL l).length:Int))=some (.bool true):=lss_t (by omega)
   have hr:=c78 (hok t hm) (by have:=hs t hm;omega)
   have hf:=c74 hok hs hll (name:=(readP t).1.sub) b
   have hkl:=keysF_len l i
   have hbl:=bef_le (readP t).1.sub (keysF l i)
   have hb:=fun q=>c214 (l:=keysF l i) (by omega) (readP t).1.sub q
   have hst:keysF l (i+1)=keyStep l (keysF l i) i t:=by simp only [keysF,ht]
   unfold keyStep at hst
   generalize keysF l i=K at hA hkl hbl hb hst hc
   generalize readP t=R at hr hf hbl hb hst
   obtain ⟨⟨sub,⟨k8,nm8,s8,b8,kids8⟩,iss,pn,per,en,exc,ser,fr,till⟩,R2⟩:=R
   simp only [] at hr hf hbl hb hst
   generalize lookF sub l.reverse=F at hf hst
   obtain ⟨X,n,ok⟩:=F
   simp only [] at hf hst
   obtain ⟨x,y,o1,lv1,nt1,o2,lv2,nt2,o3,lv3,nt3,hx,hy,a1,a2,a3,A3⟩:=insV hA (by omega) hbl ⟨sub,X,(n:Int)⟩
   have hbd:=buildEn sub X n
   have hbf:∀ H,CallOk E0 Tryz.prog 214 [out,.str sub] H (.int .i64 (befN sub K:Int)) H:=by
    have e:=hA.frzG
    exact fun H=>callOk_frz (hb c H) (by simp only [frzGL,e];rfl)
   obtain ⟨kx,nx,sx,bx,kidsx⟩:=X
   obtain ⟨kt,nt',st,bt,kidst⟩:=t
   have hj:=cellsL_get ht
   simp only [Cred.cells,En.cells,Tm.cells,List.cons_append,List.nil_append] at hr hf hbd a2
   clear hb hm
   cases ok with
   | false =>
     rw [if_pos (.inl rfl)] at hst
     repeat' first | refine κn ?_ | refine κk ?_ | refine κc (hr _) ?_ | refine κc (hf _) ?_ | refine κi ?_ | refine κl ?_ | refine κx ?_ | refine κt ?_ | refine κg ?_ | refine κa ?_ | fail
     exact DropQ.go [(0,slV b 4 (cellsL l)),(3,out),(4,.int .i64 ((i+1:Nat):Int))] ⟨rfl,rfl,int_eq (wrap_nat (n:=i+1) (by omega)),trivial⟩
      (by simp [under_slV,under,hun]) rfl rfl (LoopI.go (k - 1) (by omega) ⟨i+1,c,_,out,lv,nt,by omega,by rw [hst];exact hc,by rw [hst];exact hA,rfl,rfl⟩)
   | true =>
     by_cases hn:n=i
     · rw [if_neg (by simp [hn])] at hst
       have bn:=neq0_f (a:=(n:Int)) (b:=(i:Int)) (by omega)
       have hun3:=A3.under 0
       repeat' first | refine κn ?_ | (apply qCl;rfl;rfl;rfl;rfl;first | exact hr _ | exact hf _ | exact hbf _) | refine κi ?_ | refine κl ?_ | refine κx ?_ | refine κt ?_ | refine κg ?_ | refine κB ?_ | (apply dAq;rfl;rfl;rfl;rfl;rfl;rfl;(first | assumption | solve_by_elim)) | (apply dSl;rfl;rfl;rfl;rfl;rfl;rfl;assumption;exact IsV.any _;rfl) | (apply dBd;rfl;rfl;rfl;assumption;exact IsV.aggN;rfl) | refine κh ?_ | refine κa ?_ | (apply Wp.draw tOk follows;kernel_rfl) | fail
       exact DropQ.go [(0,slV b 4 (cellsL l)),(3,o3),(4,.int .i64 ((i+1:Nat):Int))] ⟨rfl,rfl,int_eq (wrap_nat (n:=i+1) (by omega)),trivial⟩
        (by simp [under_slV,under,hun3]) rfl rfl (LoopI.go (k - 1) (by omega) ⟨i+1,false,_,o3,lv3,nt3,by omega,by rw [hst];exact fun h=>absurd h (insE_ne _ _ _),by rw [hst];exact A3,rfl,rfl⟩)
     · rw [if_pos (.inr hn)] at hst
       have bn:=neq0_t (a:=(n:Int)) (b:=(i:Int)) (by omega)
       repeat' first | refine κn ?_ | refine κc (hr _) ?_ | refine κc (hf _) ?_ | refine κi ?_ | refine κl ?_ | refine κx ?_ | refine κt ?_ | refine κg ?_ | refine κa ?_ | fail
       exact DropQ.go [(0,slV b 4 (cellsL l)),(3,out),(4,.int .i64 ((i+1:Nat):Int))] ⟨rfl,rfl,int_eq (wrap_nat (n:=i+1) (by omega)),trivial⟩
        (by simp [under_slV,under,hun]) rfl rfl (LoopI.go (k - 1) (by omega) ⟨i+1,c,_,out,lv,nt,by omega,by rw [hst];exact hc,by rw [hst];exact hA,rfl,rfl⟩)
 · have e : i = l.length := by omega
   subst e
   have hlx:aBin E0 .lss 3 (.int .i64 (l.length:Int)) (.int .i64 ((cellsL l).length:Int))=some (.bool false):=lss_f (by omega)
   have hfin:=fun m H=>hA.frz3 m H
   rw [slV_of hc] at hfin
   repeat' first | refine κn ?_ | refine κi ?_ | refine κl ?_ | refine κg ?_ | refine κa ?_ | refine κf ?_ | fail
   all_goals exact hfin _ _
end Go.Vm.Seat
